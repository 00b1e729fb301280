/- The law TermOrder holds of every input. Part 2 of 3: Px0, GOpen, Tree, GLaw, GRegion, GSeg, PxSoriteslaw06Small, PxSoriteslaw06Fine, PxSoriteslaw06Of, GPure06, GOf, GTold, PxCmpIsNaNInt, PxCmpCompareInt, PxCmpOrInt, GCompare, GWalk. -/
import Derived.Test.YtpfddihcikiofaaProg
import Derived.Below
import Derived.Deep.Draws
import Derived.Deep.AppendLies
import Derived.Maps.AppendAt
import Derived.OwnWalk
import Derived.Laws.BytesArg
import Derived.Laws.MakeOwn
import Derived.Laws.OwnMore
import Derived.Deep.OwnRows
import Derived.Tactics
import Derived.Lib.ConvBytes
import Derived.Laws.Slices
import Derived.WalkKit
import Derived.KernelRfl
import Derived.RowKit3
import Derived.Deep.LoopGhost
import Derived.Deep.QuietTactic
import Derived.BigQuiet
import Derived.WideLaws
import Derived.Deep.DeepCutAuto
import Derived.Deep.CutBlock
import Derived.Deep.RegionHeld3
import Derived.Laws.Rows
import Derived.Lib.AppendStr
import Derived.ArgAppend
import Derived.Laws.IdiomCopy
import Derived.OrdersHeld
import Derived.Laws.BitsLemmas
import Derived.RowKit
import Derived.Test.YtpfddihcikiofaaZTermOrder1
import Derived.ChangeSame
import Derived.ChangeShapes
import Derived.ChangeArms
import Derived.WideShapes
import Derived.RegionTactic
import Derived.RangeFuncNested
import Derived.RangeFuncBound
import Derived.RangeFuncCalls
import Derived.RangeFuncLeaves
import Derived.Shelf.Abstract
import Derived.Shelf.RegionOpen
import Derived.OwnWalkIn
import Derived.TacticsInMore
import Derived.LoopNIn
import Derived.LoopIn
import Derived.Deep.RegionLawGrows
section
namespace Go.Proofs.Ytpfddihcikiofaa.P
open Go.RowKit Go.Proofs.YtpfddihcikiofaaW.PrintWords Go.Proofs.YtpfddihcikiofaaW.PrintLast Go.Proofs.YtpfddihcikiofaaW.PrintMore
attribute [local go_sem] max2_int min2_int max_two min_two max_three min_three max_four min_four
set_option linter.unusedVariables false
set_option linter.unusedSimpArgs false
def errW : Option Int → Value
  | none => .nilIface
  | some c => .iface 0 (.int .i64 c)
theorem errW_none : errW none = .nilIface := rfl
theorem errW_some (c : Int) : errW (some c) = .iface 0 (.int .i64 c) := rfl
theorem info3 : (Try.prog.info? 3).map (fun i => (i.zero, i.size, i.bytes)) = some (some (.int .i64 0), 1, 8) := by kernel_rfl
theorem info25 : (Try.prog.info? 25).map (fun i => (i.zero, i.size, i.bytes)) = some (some (.slice none 0 0), 1, 24) := by kernel_rfl
theorem info30 : (Try.prog.info? 30).map (fun i => (i.zero, i.size, i.bytes)) = some (some (.agg #[(.int .i64 0), (.slice none 0 0)]), 2, 32) := by kernel_rfl
structure S30 where
  f0 : Int
  f1 : (List S30)
def z30 : S30 := ⟨(0 : Int), ([] : List S30)⟩
def F30 (d : Kd S30) : Kd S30 := Kd.iso (Kd.pair (Kd.int .i64) (Kd.slice 30 d)) (fun x : S30 => (x.f0, x.f1))
theorem mono30 : Kd.Mono F30 := Kd.mono_iso _ (Kd.mono_pair (Kd.mono_const _) (Kd.mono_slice 30 Kd.mono_id))
theorem sub30 : Kd.Sub F30 [30] := Kd.sub_iso _ (Kd.sub_pair (Kd.sub_const _ (by decide)) (Kd.sub_slice 30 (by decide) Kd.sub_id))
theorem sz30 : ∀ n, (Kd.upto F30 2 [30] n).sz = 2 := Kd.upto_sz (fun _ => rfl)
def k30 : Kd S30 := Kd.fix F30 2 [30] sz30 (Kd.upto_E sub30)
theorem k30_heap : Kd.Heap k30 := Kd.heap_fix (fun _ h_ => Kd.heap_iso _ (Kd.heap_pair (Kd.heap_int .i64) (Kd.heap_slice 30 h_)))
theorem k30_open {w : World} {x : S30} {cs : List Value} (h : k30.K w x cs) : ∃ A1 c1, cs = [.int .i64 x.f0, .slice A1 x.f1.length c1] ∧ x.f1.length ≤ c1 ∧ k30.C w A1 x.f1.length x.f1 := by
  obtain ⟨n, h⟩ := h
  cases n with
  | zero => exact h.elim
  | succ n =>
    obtain ⟨_, _, rfl, rfl, ⟨A1, c1, rfl, l1, g1⟩⟩ := h
    exact ⟨A1, c1, rfl, l1, Kd.fix_C g1⟩
theorem k30_mk (w : World) (x : S30) {A1 : Option Addr} {c1 : Nat} (l1 : x.f1.length ≤ c1) (g1 : k30.C w A1 x.f1.length x.f1) : k30.K w x [.int .i64 x.f0, .slice A1 x.f1.length c1] := by
  obtain ⟨n1, q1⟩ := Kd.fix_C_back mono30 g1
  have r1 := Kd.upto_C_le mono30 sz30 (show n1 ≤ n1 by omega) q1
  exact ⟨n1 + 1, ⟨[.int .i64 x.f0], [.slice A1 x.f1.length c1], rfl, rfl, ⟨A1, c1, rfl, l1, r1⟩⟩⟩
theorem k30_mkM (w : World) (base : Nat) (ok : Nat → Prop) (x : S30) {v1 : Value} (g1 : k30.R 30 w base ok v1 x.f1) : k30.M w base ok x [.int .i64 x.f0, v1] := by
  obtain ⟨n1, q1⟩ := Kd.fix_R_back mono30 g1
  have r1 := Kd.upto_R_le mono30 sz30 (show n1 ≤ n1 by omega) q1
  exact ⟨n1 + 1, ⟨[.int .i64 x.f0], [v1], rfl, rfl, ⟨v1, rfl, r1⟩⟩⟩
theorem k30_openF {W : World} {ok : Nat → Prop} {x : S30} {cs : List Value} (h : Kd.FK k30 W ok x cs) : ∃ A1 c1, cs = [.int .i64 x.f0, .slice A1 x.f1.length c1] ∧ x.f1.length ≤ c1 ∧ Kd.F k30 W ok A1 x.f1.length x.f1 := by
  obtain ⟨A1, c1, rfl, l1, _⟩ := k30_open (Kd.FK_now h)
  exact ⟨A1, c1, rfl, l1, (fun W' hW => by obtain ⟨A1_, c1_, he, l1_, g1_⟩ := k30_open (h W' hW); injection (Option.some.inj (show some (Value.slice A1 x.f1.length c1) = some (Value.slice A1_ x.f1.length c1_) from congrArg (fun l => l[1]?) he)) with ha_ _ _; rw [ha_]; exact g1_)⟩
def rd_T30 (xs : List S30) (i : Int) : S30 := xs.getD i.toNat z30
theorem at_T30 {w : World} {A : Option Addr} {n : Nat} {xs : List S30} (h : Kd.C k30 w A n xs) (i : Int) (h0 : 0 ≤ i) (h1 : i < n) : ∃ ad A1 c1, A = some ad ∧ w.cell? (ad.add (i.toNat * 2)) = some (.int .i64 (rd_T30 xs i).f0) ∧ w.cell? ⟨(ad.add (i.toNat * 2)).block, (ad.add (i.toNat * 2)).off + 1, none⟩ = some (.slice A1 (rd_T30 xs i).f1.length c1) ∧ (rd_T30 xs i).f1.length ≤ c1 ∧ k30.C w A1 (rd_T30 xs i).f1.length (rd_T30 xs i).f1 := by
  obtain ⟨ad, c, e, _, hK, hc0⟩ := Kd.C_get h z30 i h0 h1
  have hc : ∀ j u, c[j]? = some u → w.cell? (ad.add (i.toNat * 2 + j)) = some u := hc0
  obtain ⟨A1, c1, rfl, l1, g1⟩ := k30_open hK
  exact ⟨ad, A1, c1, e, hc 0 _ rfl, by rw [← add_field _ _ 1 (by omega)]; exact hc 1 _ rfl, l1, g1⟩
def rd_L2 (xs : List (List Int)) (i : Int) : (List Int) := xs.getD i.toNat ([] : List Int)
theorem at_L2 {w : World} {A : Option Addr} {n : Nat} {xs : List (List Int)} (h : Kd.C (Kd.slice 3 (Kd.int .i64)) w A n xs) (i : Int) (h0 : 0 ≤ i) (h1 : i < n) : ∃ ad A0 c0, A = some ad ∧ w.cell? (ad.add i.toNat) = some (.slice A0 (rd_L2 xs i).length c0) ∧ (rd_L2 xs i).length ≤ c0 ∧ (Kd.int .i64).C w A0 (rd_L2 xs i).length (rd_L2 xs i) := by
  obtain ⟨ad, c, e, _, hK, hc0⟩ := Kd.C_get h ([] : List Int) i h0 h1
  have hc : ∀ j u, c[j]? = some u → w.cell? (ad.add (i.toNat * 1 + j)) = some u := hc0
  obtain ⟨A0, c0, rfl, l0, g0⟩ := hK
  exact ⟨ad, A0, c0, e, by have hq := hc 0 _ rfl; rwa [Nat.mul_one, Nat.add_zero] at hq, l0, g0⟩
abbrev S24 := S30
abbrev z24 := z30
def F24 (d : Kd S24) : Kd S24 := Kd.iso (Kd.pair (Kd.int .i64) (Kd.slice 24 d)) (fun x : S24 => (x.f0, x.f1))
theorem mono24 : Kd.Mono F24 := Kd.mono_iso _ (Kd.mono_pair (Kd.mono_const _) (Kd.mono_slice 24 Kd.mono_id))
theorem sub24 : Kd.Sub F24 [24] := Kd.sub_iso _ (Kd.sub_pair (Kd.sub_const _ (by decide)) (Kd.sub_slice 24 (by decide) Kd.sub_id))
theorem sz24 : ∀ n, (Kd.upto F24 2 [24] n).sz = 2 := Kd.upto_sz (fun _ => rfl)
def k24 : Kd S24 := Kd.fix F24 2 [24] sz24 (Kd.upto_E sub24)
theorem k24_open {w : World} {x : S24} {cs : List Value} (h : k24.K w x cs) : ∃ A1 c1, cs = [.int .i64 x.f0, .slice A1 x.f1.length c1] ∧ x.f1.length ≤ c1 ∧ k24.C w A1 x.f1.length x.f1 := by
  obtain ⟨n, h⟩ := h
  cases n with
  | zero => exact h.elim
  | succ n =>
    obtain ⟨_, _, rfl, rfl, ⟨A1, c1, rfl, l1, g1⟩⟩ := h
    exact ⟨A1, c1, rfl, l1, Kd.fix_C g1⟩
theorem k24_mk (w : World) (x : S24) {A1 : Option Addr} {c1 : Nat} (l1 : x.f1.length ≤ c1) (g1 : k24.C w A1 x.f1.length x.f1) : k24.K w x [.int .i64 x.f0, .slice A1 x.f1.length c1] := by
  obtain ⟨n1, q1⟩ := Kd.fix_C_back mono24 g1
  have r1 := Kd.upto_C_le mono24 sz24 (show n1 ≤ n1 by omega) q1
  exact ⟨n1 + 1, ⟨[.int .i64 x.f0], [.slice A1 x.f1.length c1], rfl, rfl, ⟨A1, c1, rfl, l1, r1⟩⟩⟩
def rd_T24 (xs : List S24) (i : Int) : S24 := xs.getD i.toNat z24
theorem at_T24 {w : World} {A : Option Addr} {n : Nat} {xs : List S24} (h : Kd.C k24 w A n xs) (i : Int) (h0 : 0 ≤ i) (h1 : i < n) : ∃ ad A1 c1, A = some ad ∧ w.cell? (ad.add (i.toNat * 2)) = some (.int .i64 (rd_T24 xs i).f0) ∧ w.cell? ⟨(ad.add (i.toNat * 2)).block, (ad.add (i.toNat * 2)).off + 1, none⟩ = some (.slice A1 (rd_T24 xs i).f1.length c1) ∧ (rd_T24 xs i).f1.length ≤ c1 ∧ k24.C w A1 (rd_T24 xs i).f1.length (rd_T24 xs i).f1 := by
  obtain ⟨ad, c, e, _, hK, hc0⟩ := Kd.C_get h z24 i h0 h1
  have hc : ∀ j u, c[j]? = some u → w.cell? (ad.add (i.toNat * 2 + j)) = some u := hc0
  obtain ⟨A1, c1, rfl, l1, g1⟩ := k24_open hK
  exact ⟨ad, A1, c1, e, hc 0 _ rfl, by rw [← add_field _ _ 1 (by omega)]; exact hc 1 _ rfl, l1, g1⟩
end Go.Proofs.Ytpfddihcikiofaa.P
end
section
namespace Go.Proofs.Ytpfddihcikiofaa.P
open Go.ChangeShapes Go.WideShapes Go.RowKit Go.Proofs.YtpfddihcikiofaaW.PrintWords Go.Proofs.YtpfddihcikiofaaW.PrintLast Go.Proofs.YtpfddihcikiofaaW.PrintMore
set_option maxRecDepth 100000
set_option linter.unusedVariables false
set_option linter.unusedSimpArgs false
theorem list_of {α : Type} (P : Nat → α → Prop) : ∀ n, (∀ i, i < n → ∃ x, P i x) → ∃ l : List α, l.length = n ∧ ∀ i x, l[i]? = some x → P i x := by
  intro n
  induction n with
  | zero => intro _; exact ⟨[], rfl, fun i x h => by simp at h⟩
  | succ n ih =>
    intro h
    obtain ⟨l, hl, hP⟩ := ih (fun i hi => h i (by omega))
    obtain ⟨x, hx⟩ := h n (by omega)
    refine ⟨l ++ [x], by simp [hl], fun i y hy => ?_⟩
    rcases Nat.lt_or_ge i n with hlt | hge
    · rw [List.getElem?_append_left (by omega)] at hy
      exact hP i y hy
    · rw [List.getElem?_append_right (by omega)] at hy
      have : i = n := by
        have := (List.getElem?_eq_some_iff.1 hy).1
        simp at this
        omega
      subst this
      simp [hl] at hy
      exact hy ▸ hx
section
variable {H : Type} {enc : TypeId × Value → H} {W : World} {base b0 : Nat} {sp : Nat → Bool} {held : Bool}
def OpenT (W : World) (cs : List Value) (t : S24) : Prop := ∃ A c, cs = [.int .i64 t.f0, .slice A t.f1.length c] ∧ t.f1.length ≤ c ∧ k24.C W A t.f1.length t.f1 ∧ (Lit.int .i64 t.f0).wf = true
theorem OpenT.K {W : World} {cs : List Value} {t : S24} (h : OpenT W cs t) : k24.K W t cs := by
  obtain ⟨A, c, rfl, hl, hC, _⟩ := h
  exact k24_mk W t hl hC
theorem open_rows {fuel : Nat} (IH : ∀ cs x, DataW.trod enc Try.prog W base sp held fuel 24 cs = some x → ∃ t : S24, OpenT W cs t) {a : Addr} {len : Nat} {ys : List (DataW H × List MemPlace)} (hys : ys.length = len) (hm : len ≤ maxLen)
    (hel : ∀ i, i < len → (W.cells? base (a.add (i * Try.prog.cellsOf 24)) (Try.prog.cellsOf 24)).bind (DataW.trod enc Try.prog W base sp held fuel 24) = ys[i]?) : ∃ l : List S24, l.length = len ∧ k24.C W (some a) l.length l := by
  have hc : Try.prog.cellsOf 24 = 2 := by kernel_rfl
  have h1 : ∀ i, i < len → ∃ t : S24, ∃ cs, W.cells? base (a.add (i * 2)) 2 = some cs ∧ OpenT W cs t := by
    intro i hi
    have h := hel i hi
    rw [List.getElem?_eq_getElem (by omega), hc, Option.bind_eq_some_iff] at h
    obtain ⟨cs, hcs, ht⟩ := h
    obtain ⟨t, ht⟩ := IH _ _ ht
    exact ⟨t, cs, hcs, ht⟩
  obtain ⟨l, hl, hP⟩ := list_of _ len h1
  refine ⟨l, hl, rfl, by rw [hl]; exact hm, fun _ => ⟨a, rfl, fun j p hj => ?_⟩⟩
  obtain ⟨cs, hcs, ht⟩ := hP j p hj
  obtain ⟨_, hlen, hcell⟩ := World.cells?_some hcs
  refine ⟨cs, hlen, ht.K, fun i u hu => ?_⟩
  have hi : i < 2 := by
    have := (List.getElem?_eq_some_iff.1 hu).1
    omega
  have h := hcell i hi
  rw [hu] at h
  rw [← h]
  show W.cell? _ = W.cell? _
  congr 1
  show a.add (j * 2 + i) = (a.add (j * 2)).add i
  simp [Addr.add, Nat.add_assoc]
  by_cases hj0 : j = 0 <;> by_cases hi0 : i = 0 <;> (have hj2 : ¬ (j ≠ 0 ∧ j * 2 = 0) := by omega) <;> simp [hj0, hi0, Nat.add_assoc] <;> (rw [if_neg (show ¬ j * 2 = 0 by omega)]; simp [Nat.add_assoc])
theorem open_T24 : ∀ (fuel : Nat) (cs : List Value) (x : DataW H × List MemPlace), DataW.trod enc Try.prog W base sp held fuel 24 cs = some x → ∃ t : S24, OpenT W cs t := by
  intro fuel
  induction fuel using Nat.strongRecOn with
  | ind fuel IH =>
    intro cs x h
    obtain ⟨xs, n, rfl, rfl, hlen, hxs, hf⟩ := DataW.trod_struct Try.underlying24 h
    have hc : Try.prog.cellsOf 24 = 2 := by kernel_rfl
    rw [hc] at hlen
    obtain ⟨u, v, rfl⟩ : ∃ u v, cs = [u, v] := by
      match cs, hlen with
      | [u, v], _ => exact ⟨u, v, rfl⟩
    obtain ⟨y0, y1, rfl⟩ : ∃ u v, xs = [u, v] := by
      match xs, hxs with
      | [u, v], _ => exact ⟨u, v, rfl⟩
    have h0 := hf 0 _ rfl
    have h1 := hf 1 _ rfl
    have hc3 : Try.prog.cellsOf 3 = 1 := by kernel_rfl
    have hc22 : Try.prog.cellsOf 22 = 1 := by kernel_rfl
    simp only [hc3, hc22, List.drop_zero, List.take_succ_cons, List.take_zero, List.drop_succ_cons, List.getElem?_cons_zero, List.getElem?_cons_succ] at h0 h1
    obtain ⟨f, hfe, _, hw⟩ := DataW.trod_int Try.underlying3 h0
    injection hfe with hfe
    subst hfe
    rcases DataW.trod_slice Try.underlying22 h1 with ⟨he, _⟩ | ⟨a, len, cap, elems, rest, m, hm, he, _, _, hlc, hcm, hel, hget, _⟩
    · injection he with he
      subst he
      exact ⟨⟨f, []⟩, none, 0, rfl, Nat.le_refl _, ⟨rfl, Nat.zero_le _, fun h => absurd h (Nat.lt_irrefl _)⟩, hw⟩
    · injection he with he
      subst he
      obtain ⟨l, hl, hC⟩ := open_rows (IH m (by omega)) hel (by omega) hget
      subst hl
      exact ⟨⟨f, l⟩, some a, cap, rfl, hlc, hC, hw⟩
theorem open_T {v : Value} {d : DataW H} {p : List MemPlace} (hv : Value.okWide Try.prog W .any b0 24 v) (h : DataW.Trod enc Try.prog W base sp held 24 v d p) :
    ∃ (t : S24) (A : Option Addr) (c : Nat), v = .agg #[.int .i64 t.f0, .slice A t.f1.length c] ∧ t.f1.length ≤ c ∧ k24.C W A t.f1.length t.f1 ∧ (Lit.int .i64 t.f0).wf = true := by
  obtain ⟨cs, rfl, _⟩ := okWide_struct Try.underlying24 hv
  obtain ⟨fuel, h⟩ := h
  obtain ⟨t, A, c, he, h1, h2, h3⟩ := open_T24 _ _ _ h
  refine ⟨t, A, c, ?_, h1, h2, h3⟩
  have he : cs.toList = [.int .i64 t.f0, .slice A t.f1.length c] := he
  rw [← Array.toArray_toList (xs := cs), he]
end
end Go.Proofs.Ytpfddihcikiofaa.P
end
section
namespace Go.Proofs.Ytpfddihcikiofaa.P
open Go.RowKit Go.Proofs.YtpfddihcikiofaaW.PrintWords Go.Proofs.YtpfddihcikiofaaW.PrintLast Go.Proofs.YtpfddihcikiofaaW.PrintMore
theorem S30.ind {motive : S30 → Prop} (h : ∀ f l, (∀ x ∈ l, motive x) → motive ⟨f, l⟩) : ∀ t, motive t := by
  intro t
  refine S30.rec (motive_1 := motive) (motive_2 := fun l => ∀ x ∈ l, motive x) ?_ ?_ ?_ t
  · intro f l hl
    exact h f l hl
  · intro x hx
    cases hx
  · intro x l hx hl y hy
    rcases List.mem_cons.1 hy with rfl | hy
    · exact hx
    · exact hl y hy
mutual
def flatP : List Int → S30 → List (List Int × S30)
  | p, ⟨f, l⟩ => (p, ⟨f, l⟩) :: (if f < 0 then [] else flatPs p 0 l)
def flatPs : List Int → Nat → List S30 → List (List Int × S30)
  | _, _, [] => []
  | p, i, x :: r => flatP (p ++ [(i : Int)]) x ++ flatPs p (i + 1) r
end
theorem flatPs_snoc (p : List Int) (i : Nat) (l : List S30) (x : S30) : flatPs p i (l ++ [x]) = flatPs p i l ++ flatP (p ++ [((i + l.length : Nat) : Int)]) x := by
  induction l generalizing i with
  | nil => simp [flatPs]
  | cons y l ih =>
    simp only [List.cons_append, flatPs, ih, List.append_assoc, List.length_cons]
    rw [show i + 1 + l.length = i + (l.length + 1) from by omega]
theorem flatPs_take (p : List Int) (l : List S30) (k : Nat) (h : k < l.length) : flatPs p 0 (l.take (k + 1)) = flatPs p 0 (l.take k) ++ flatP (p ++ [(k : Int)]) l[k] := by
  rw [List.take_succ_eq_append_getElem h, flatPs_snoc]
  simp [Nat.min_eq_left (Nat.le_of_lt h)]
theorem flatPs_take_le (p : List Int) (l : List S30) (k : Nat) : (flatPs p 0 (l.take k)).length ≤ (flatPs p 0 l).length := by
  by_cases h : k < l.length
  · have key : ∀ (a b : List S30) (i : Nat), (flatPs p i a).length ≤ (flatPs p i (a ++ b)).length := by
      intro a
      induction a with
      | nil => intro b i; simp [flatPs]
      | cons x a ih => intro b i; simp only [List.cons_append, flatPs, List.length_append]; have := ih b (i + 1); omega
    have := key (l.take k) (l.drop k) 0
    rwa [List.take_append_drop] at this
  · rw [List.take_of_length_le (by omega)]; exact Nat.le_refl _
end Go.Proofs.Ytpfddihcikiofaa.P
end
section
namespace Go.Proofs.Ytpfddihcikiofaa.P
open Go.RowKit Go.Proofs.YtpfddihcikiofaaW.PrintWords Go.Proofs.YtpfddihcikiofaaW.PrintLast Go.Proofs.YtpfddihcikiofaaW.PrintMore
set_option linter.unusedVariables false
set_option linter.unusedSimpArgs false
set_option maxRecDepth 100000
theorem C_list {α : Type} (d : Kd α) (hd : d.sz = 2) {W : World} {g t : Nat} (xs : List α) (cs : List (List Value)) (hl : cs.length = xs.length) (hm : xs.length ≤ 1000)
    (hK : ∀ (j : Nat) (x : α) (c : List Value), xs[j]? = some x → cs[j]? = some c → d.K W x c) (hb : W.heap[g]? = some (.cells cs.flatten.toArray t (0, 0))) : d.C W (some ⟨g, 0, none⟩) xs.length xs := by
  refine ⟨rfl, by omega, fun _ => ⟨_, rfl, fun j p hj => ?_⟩⟩
  have hjl := (List.getElem?_eq_some_iff.1 hj).1
  have hc : cs[j]? = some cs[j] := List.getElem?_eq_getElem (by omega)
  refine ⟨cs[j], d.K_len (hK j p _ hj hc), hK j p _ hj hc, fun i u hi => ?_⟩
  have hlen : ∀ c ∈ cs, c.length = 2 := by
    intro c hc
    obtain ⟨k, hk⟩ := List.getElem?_of_mem hc
    have hk' := (List.getElem?_eq_some_iff.1 hk).1
    rw [← hd]
    exact d.K_len (hK k xs[k] c (List.getElem?_eq_getElem (by omega)) hk)
  have hi2 : i < 2 := by
    have := (List.getElem?_eq_some_iff.1 hi).1
    have := hlen _ (List.getElem_mem (show j < cs.length by omega))
    omega
  have key : ∀ (cs : List (List Value)) (j : Nat) (hj : j < cs.length), (∀ c ∈ cs, c.length = 2) → cs.flatten[j * 2 + i]? = cs[j][i]? := by
    intro cs
    induction cs with
    | nil => intro j hj; simp at hj
    | cons c cs ih =>
      intro j hj h
      have hc2 := h c (by simp)
      cases j with
      | zero =>
        rw [List.flatten_cons, List.getElem?_append_left (by omega)]
        simp
      | succ j =>
        rw [List.flatten_cons, List.getElem?_append_right (by omega)]
        have := ih j (by simpa using hj) (fun c hc => h c (by simp [hc]))
        rw [hc2, show (j + 1) * 2 + i - 2 = j * 2 + i from by omega, this]
        simp
  rw [hd]
  have h1 : (⟨g, 0, none⟩ : Addr).add (j * 2 + i) = ⟨g, j * 2 + i, none⟩ := by
    unfold Addr.add
    split
    · rename_i h
      simp [h]
    · simp
  rw [h1, blk_cell hb]
  simp only [List.getElem?_toArray]
  rw [key cs j (by omega) hlen]
  exact hi
theorem K24 {W : World} {x : S24} {A : Option Addr} {c : Nat} (h : k24.C W A x.f1.length x.f1) (hc : x.f1.length ≤ c) : k24.K W x [.int .i64 x.f0, .slice A x.f1.length c] := k24_mk W x hc h
theorem K30 {W : World} {x : S30} {A : Option Addr} {c : Nat} (h : k30.C W A x.f1.length x.f1) (hc : x.f1.length ≤ c) : k30.K W x [.int .i64 x.f0, .slice A x.f1.length c] := k30_mk W x hc h
theorem C2 {α : Type} (d : Kd α) (hd : d.sz = 2) {W : World} {g t : Nat} {x y : α} {u v u' v' : Value} (h : d.K W x [u, v]) (h' : d.K W y [u', v']) (hb : W.heap[g]? = some (.cells #[u, v, u', v'] t (0, 0))) : d.C W (some ⟨g, 0, none⟩) 2 [x, y] :=
  C_list d hd [x, y] [[u, v], [u', v']] rfl (by simp) (fun j z c h1 h2 => by
    match j with
    | 0 => simp at h1 h2; subst h1 h2; exact h
    | 1 => simp at h1 h2; subst h1 h2; exact h'
    | j + 2 => simp at h1) hb
theorem C3 {α : Type} (d : Kd α) (hd : d.sz = 2) {W : World} {g t : Nat} {x y z : α} {u v u' v' u2 v2 : Value} (h : d.K W x [u, v]) (h' : d.K W y [u', v']) (h2 : d.K W z [u2, v2]) (hb : W.heap[g]? = some (.cells #[u, v, u', v', u2, v2] t (0, 0))) : d.C W (some ⟨g, 0, none⟩) 3 [x, y, z] :=
  C_list d hd [x, y, z] [[u, v], [u', v'], [u2, v2]] rfl (by simp) (fun j q c h1 h3 => by
    match j with
    | 0 => simp at h1 h3; subst h1 h3; exact h
    | 1 => simp at h1 h3; subst h1 h3; exact h'
    | 2 => simp at h1 h3; subst h1 h3; exact h2
    | j + 3 => simp at h1) hb
end Go.Proofs.Ytpfddihcikiofaa.P
end
section
namespace Go.Proofs.Ytpfddihcikiofaa.P
open Go.RowKit Go.Proofs.YtpfddihcikiofaaW.PrintWords Go.Proofs.YtpfddihcikiofaaW.PrintLast Go.Proofs.YtpfddihcikiofaaW.PrintMore
set_option linter.unusedVariables false
set_option linter.unusedSimpArgs false
def upd {α : Type} (v : Nat → α) (i : Nat) (u : α) : Nat → α := fun j => if j = i then u else v j
theorem upd_same {α : Type} (v : Nat → α) (i : Nat) (u : α) : upd v i u i = u := by simp [upd]
theorem upd_other {α : Type} (v : Nat → α) {i j : Nat} (u : α) (h : j ≠ i) : upd v i u j = v j := by simp [upd, h]
def dstOf (ops : Array Oper) (i : Nat) : Option Tmp := (ops[i]?).bind (·.dst)
def regionOk (ops : Array Oper) (n : Nat) : Bool :=
  (List.range ops.size).all fun i =>
    ((ops[i]?).map fun o => o.after.all (fun e => !Region.binds .any e || decide (e.on < i))).getD false &&
    match dstOf ops i with
    | none => true
    | some t => decide (t < n) && (List.range ops.size).all fun j => decide (j = i) || decide (dstOf ops j ≠ some t)
structure Holds (ops : Array Oper) (base T : Array Value) (v : Nat → Value) (d : Nat → Bool) : Prop where
  size : T.size = base.size
  done : ∀ j t, d j = true → dstOf ops j = some t → T.getD t undef = v j
  base : ∀ t, (∀ j, d j = true → dstOf ops j ≠ some t) → T.getD t undef = base.getD t undef
def layAll (ops : Array Oper) (v : Nat → Value) (T : Array Value) : Array Value := (List.range ops.size).foldl (fun T i => match dstOf ops i with | some t => T.setIfInBounds t (v i) | none => T) T
section
variable {P : Program} {ops : Array Oper} {Q : Exit → Act → World → Prop}
def StepOk (P : Program) (ops : Array Oper) (Q : Exit → Act → World → Prop) (base : Array Value) (ds : List Deferred) (I : (Nat → Value) → (Nat → Bool) → World → Prop) (i : Nat) : Prop :=
  ∀ o, ops[i]? = some o → ∀ v d T w, Holds ops base T v d → I v d w → d i = false → (∀ e ∈ o.after, Region.binds .any e = true → d e.on = true) →
    ∀ K : Act → World → Prop, (∀ u w2, I (upd v i u) (upd d i true) w2 → K ({ tmps := T, defers := ds : Act }.put o.dst u) w2) →
      if Region.wanted o (yielded ops T) = true then Oper.wp P o { tmps := T, defers := ds } w K Q else K ({ tmps := T, defers := ds : Act }.put o.dst undef) w
theorem dst_inj {n : Nat} (h : regionOk ops n = true) {i j : Nat} {t : Tmp} (hi : dstOf ops i = some t) (hj : dstOf ops j = some t) : i = j ∧ t < n := by
  have hlt : ∀ {i : Nat}, dstOf ops i = some t → i < ops.size := by
    intro i hi
    unfold dstOf at hi
    rcases Nat.lt_or_ge i ops.size with h | h
    · exact h
    · rw [Array.getElem?_eq_none h] at hi; cases hi
  unfold regionOk at h
  rw [List.all_eq_true] at h
  have h1 := h i (List.mem_range.2 (hlt hi))
  rw [Bool.and_eq_true] at h1
  have h2 := h1.2
  rw [hi] at h2
  simp only [Bool.and_eq_true, decide_eq_true_eq, List.all_eq_true] at h2
  have h3 := h2.2 j (List.mem_range.2 (hlt hj))
  rw [Bool.or_eq_true, decide_eq_true_eq, decide_eq_true_eq] at h3
  rcases h3 with h3 | h3
  · exact ⟨h3.symm, h2.1⟩
  · exact absurd hj h3
theorem dep_lt {n : Nat} (h : regionOk ops n = true) {i : Nat} {o : Oper} (ho : ops[i]? = some o) : ∀ e ∈ o.after, Region.binds .any e = true → e.on < i := by
  have hlt : i < ops.size := (Array.getElem?_eq_some_iff.1 ho).1
  unfold regionOk at h
  rw [List.all_eq_true] at h
  have h1 := h i (List.mem_range.2 hlt)
  rw [Bool.and_eq_true] at h1
  have h2 := h1.1
  rw [ho] at h2
  simp only [Option.map_some, Option.getD_some, Array.all_eq_true'] at h2
  intro e he hb
  have h3 := h2 e he
  rw [hb] at h3
  simpa using h3
theorem Holds.put {base T : Array Value} {v : Nat → Value} {d : Nat → Bool} (h : Holds ops base T v d) (hr : regionOk ops base.size = true) {i : Nat} (hd : d i = false) (u : Value) (ds : List Deferred) :
    Holds ops base (({ tmps := T, defers := ds : Act }.put (dstOf ops i) u).tmps) (upd v i u) (upd d i true) := by
  cases hdi : dstOf ops i with
  | none =>
    refine ⟨h.size, fun j t hj hjt => ?_, fun t ht => h.base t (fun j hj => ?_)⟩
    · have hne : j ≠ i := fun e => by subst e; rw [hdi] at hjt; cases hjt
      rw [upd_other _ _ hne] at hj ⊢
      exact h.done j t hj hjt
    · have hne : j ≠ i := fun e => by subst e; rw [hd] at hj; cases hj
      exact ht j (by rw [upd_other _ _ hne]; exact hj)
  | some s =>
    have hs : s < base.size := (dst_inj hr hdi hdi).2
    have hput : (({ tmps := T, defers := ds : Act }.put (some s) u).tmps) = T.setIfInBounds s u := rfl
    rw [hput]
    have hget : ∀ t, (T.setIfInBounds s u).getD t undef = if t = s then u else T.getD t undef := by
      intro t
      simp only [Array.getD_eq_getD_getElem?, Array.getElem?_setIfInBounds]
      by_cases h1 : s = t
      · subst h1
        simp [h.size, hs]
      · simp [h1, Ne.symm h1]
    refine ⟨by simp [h.size], fun j t hj hjt => ?_, fun t ht => ?_⟩
    · rw [hget]
      by_cases hji : j = i
      · subst hji
        rw [hdi] at hjt
        injection hjt with hjt
        subst hjt
        rw [if_pos rfl, upd_same]
      · rw [upd_other _ _ hji] at hj ⊢
        rw [if_neg (fun e => hji (by subst e; exact (dst_inj hr hjt hdi).1))]
        exact h.done j t hj hjt
    · rw [hget, if_neg (fun e => ht i (upd_same _ _ _) (by rw [hdi, e]))]
      refine h.base t (fun j hj => ht j ?_)
      have hne : j ≠ i := fun e => by subst e; rw [hd] at hj; cases hj
      rw [upd_other _ _ hne]
      exact hj
theorem layAll_eq {base T : Array Value} {v : Nat → Value} {d : Nat → Bool} (h : Holds ops base T v d) (hr : regionOk ops base.size = true) (hall : ∀ i, i < ops.size → d i = true) : T = layAll ops v base := by
  have key : ∀ (n : Nat), n ≤ ops.size → ∀ t, ((List.range n).foldl (fun T i => match dstOf ops i with | some t => T.setIfInBounds t (v i) | none => T) base).size = base.size ∧
      (((List.range n).foldl (fun T i => match dstOf ops i with | some t => T.setIfInBounds t (v i) | none => T) base).getD t undef = T.getD t undef ∨
       ((∀ j, j < n → dstOf ops j ≠ some t) ∧ ((List.range n).foldl (fun T i => match dstOf ops i with | some t => T.setIfInBounds t (v i) | none => T) base).getD t undef = base.getD t undef)) := by
    intro n
    induction n with
    | zero => intro _ t; exact ⟨rfl, .inr ⟨fun j hj => by omega, rfl⟩⟩
    | succ n ih =>
      intro hn t
      obtain ⟨h1, h2⟩ := ih (by omega) t
      rw [List.range_succ, List.foldl_append]
      simp only [List.foldl_cons, List.foldl_nil]
      generalize (List.range n).foldl (fun T i => match dstOf ops i with | some t => T.setIfInBounds t (v i) | none => T) base = X at h1 h2 ⊢
      cases hd : dstOf ops n with
      | none =>
        refine ⟨h1, h2.imp_right (fun h3 => ⟨fun j hj => ?_, h3.2⟩)⟩
        rcases Nat.lt_or_ge j n with hlt | hge
        · exact h3.1 j hlt
        · rw [show j = n by omega, hd]; simp
      | some s =>
        have hs := (dst_inj hr hd hd).2
        refine ⟨by simp [h1], ?_⟩
        simp only [Array.getD_eq_getD_getElem?, Array.getElem?_setIfInBounds]
        by_cases hst : s = t
        · subst hst
          left
          rw [if_pos rfl, if_pos (show s < X.size by rw [h1]; exact hs)]
          have := h.done n s (hall n (by omega)) hd
          rw [Array.getD_eq_getD_getElem?] at this
          rw [this]
          rfl
        · rw [if_neg hst]
          simp only [Array.getD_eq_getD_getElem?] at h2
          refine h2.imp_right (fun h3 => ⟨fun j hj => ?_, h3.2⟩)
          rcases Nat.lt_or_ge j n with hlt | hge
          · exact h3.1 j hlt
          · rw [show j = n by omega, hd]
            intro e
            injection e with e
            exact hst e
  have hsz := (key ops.size (Nat.le_refl _) 0).1
  refine Array.ext (by rw [h.size]; exact hsz.symm) (fun t h1 h2 => ?_)
  have h3 := (key ops.size (Nat.le_refl _) t).2
  have h4 : (layAll ops v base).getD t undef = T.getD t undef := by
    rcases h3 with h3 | ⟨h3, h5⟩
    · exact h3
    · rw [h.base t (fun j hj e => h3 j (by
        unfold dstOf at e
        rcases Nat.lt_or_ge j ops.size with h | h
        · exact h
        · rw [Array.getElem?_eq_none h] at e; cases e) e)]
      exact h5
  simp only [Array.getD_eq_getD_getElem?, Array.getElem?_eq_getElem h1, Array.getElem?_eq_getElem h2, Option.getD_some] at h4
  exact h4.symm
theorem region_vals {id : Nat} {a : Act} {w : World} (hm : P.follows .mixedOrders = true) (hr : regionOk ops a.tmps.size = true) (I : (Nat → Value) → (Nat → Bool) → World → Prop)
    (h0 : ∀ v, I v (fun _ => false) w.drew) (hstep : ∀ i, StepOk P ops Q a.tmps a.defers I i)
    (hdone : ∀ v d w', (∀ i, i < ops.size → d i = true) → I v d w' → Q .normal { tmps := layAll ops v a.tmps, defers := a.defers } w') : (Code.region id ops true).wp P Q a w := by
  refine wp_region_any hm ?_
  have key : ∀ (fuel : Nat) (listed : Array Bool) (v : Nat → Value) (T : Array Value) (w' : World), listed.size = ops.size → (listed.toList.filter (· == false)).length ≤ fuel →
      Holds ops a.tmps T v (fun i => listed.getD i false) → I v (fun i => listed.getD i false) w' → wpAny P .any ops Q fuel listed { tmps := T, defers := a.defers } w' := by
    intro fuel
    induction fuel with
    | zero =>
      intro listed v T w' hl hf hH hI
      have hall : ∀ i, i < ops.size → listed.getD i false = true := by
        intro i hi
        have hmem : listed[i]'(by omega) ∈ listed.toList := by simp
        cases hb : listed[i]'(by omega) with
        | true => simp [Array.getD, hl, hi, hb]
        | false =>
          have : false ∈ listed.toList.filter (· == false) := by
            rw [List.mem_filter]
            exact ⟨hb ▸ hmem, rfl⟩
          have := List.length_pos_of_mem this
          omega
      have hready : Region.ready .any ops listed = [] := by
        unfold Region.ready
        rw [List.filter_eq_nil_iff]
        intro i hi
        rw [List.mem_range] at hi
        have h1 := hall i hi
        have h2 : listed.getD i true = true := by
          simp only [Array.getD_eq_getD_getElem?, Array.getElem?_eq_getElem (show i < listed.size by omega), Option.getD_some] at h1 ⊢
          exact h1
        simp only [h2, Bool.not_true, Bool.false_and]
        simp
      refine wpAny_done hready ?_ _
      rw [layAll_eq hH hr hall]
      exact hdone v _ w' hall hI
    | succ fuel ih =>
      intro listed v T w' hl hf hH hI
      refine ⟨fun hready => ?_, fun i hi => ?_⟩
      ·
        have hall : ∀ i, i < ops.size → listed.getD i false = true := by
          intro i
          induction i using Nat.strongRecOn with
          | ind i ihi =>
            intro hi
            cases hb : listed.getD i false with
            | true => rfl
            | false =>
              exfalso
              have ho : ops[i]? = some ops[i] := Array.getElem?_eq_getElem hi
              have hmem : i ∈ Region.ready .any ops listed := by
                unfold Region.ready
                rw [List.mem_filter]
                refine ⟨List.mem_range.2 hi, ?_⟩
                have h2 : listed.getD i true = false := by
                  simp only [Array.getD_eq_getD_getElem?, Array.getElem?_eq_getElem (show i < listed.size by omega), Option.getD_some] at hb ⊢
                  exact hb
                rw [h2, ho]
                simp only [Bool.not_false, Bool.true_and, Option.map_some, Option.getD_some, Array.all_eq_true']
                intro e he
                cases hbe : Region.binds .any e with
                | false => simp
                | true =>
                  have hlt := dep_lt hr ho e he hbe
                  rw [ihi e.on hlt (Nat.lt_trans hlt hi)]
                  simp
              rw [hready] at hmem
              cases hmem
        rw [layAll_eq hH hr hall]
        exact hdone v _ w' hall hI
      · unfold Region.ready at hi
        rw [List.mem_filter, List.mem_range] at hi
        obtain ⟨hi, hcond⟩ := hi
        have ho : ops[i]? = some ops[i] := Array.getElem?_eq_getElem hi
        rw [ho, Bool.and_eq_true] at hcond
        obtain ⟨hn, hdeps⟩ := hcond
        have hb : listed.getD i false = false := by
          simp only [Array.getD_eq_getD_getElem?, Array.getElem?_eq_getElem (show i < listed.size by omega), Option.getD_some] at hn ⊢
          simpa using hn
        simp only [Option.map_some, Option.getD_some, Array.all_eq_true'] at hdeps
        have hdd : (fun j => (listed.setIfInBounds i true).getD j false) = upd (fun j => listed.getD j false) i true := by
          funext j
          simp only [Array.getD_eq_getD_getElem?, Array.getElem?_setIfInBounds, upd]
          by_cases h1 : i = j
          · subst h1
            simp [show i < listed.size by omega]
          · simp [h1, Ne.symm h1]
        refine wpOp_step ho (fun K' hK' => ?_)
        refine hstep i _ ho v _ T w' hH hI hb (fun e he hbd => ?_) K' (fun u w2 h2 => hK' _ _ ?_)
        · have := hdeps e he
          rw [hbd] at this
          simpa using this
        · have hdst : (ops[i]).dst = dstOf ops i := by unfold dstOf; rw [ho]; rfl
          rw [hdst]
          have hH2 := hH.put hr hb u a.defers
          rw [← hdd] at hH2 h2
          have hde : ∀ (x : Option Tmp), ({ tmps := T, defers := a.defers : Act }.put x u) = { tmps := ({ tmps := T, defers := a.defers : Act }.put x u).tmps, defers := a.defers } := by
            intro x
            cases x <;> rfl
          rw [hde]
          refine ih _ (upd v i u) _ w2 (by simp [hl]) ?_ hH2 h2
          have hcount : ∀ (l : List Bool) (i : Nat), l[i]? = some false → ((l.set i true).filter (· == false)).length + 1 = (l.filter (· == false)).length := by
            intro l
            induction l with
            | nil => intro i h; simp at h
            | cons b l ih =>
              intro i h
              cases i with
              | zero =>
                simp at h
                subst h
                simp
              | succ i =>
                have := ih i (by simpa using h)
                cases b <;> simp only [List.set_cons_succ, List.filter_cons] <;> simp <;> simpa using this
          have h1 : listed.toList[i]? = some false := by
            simp only [Array.getD_eq_getD_getElem?, Array.getElem?_eq_getElem (show i < listed.size by omega), Option.getD_some] at hb
            rw [Array.getElem?_toList, Array.getElem?_eq_getElem (show i < listed.size by omega), hb]
          have := hcount listed.toList i h1
          rw [Array.toList_setIfInBounds]
          omega
  refine key ops.size _ (fun _ => undef) a.tmps _ (by simp) ?_ ?_ ?_
  · exact Nat.le_trans (List.length_filter_le _ _) (by simp)
  · have hf : ∀ i, (Array.replicate ops.size false).getD i false = false := by
      intro i
      simp only [Array.getD_eq_getD_getElem?, Array.getElem?_replicate]
      split <;> rfl
    exact ⟨rfl, fun j t hj => (by rw [hf] at hj; cases hj), fun t _ => rfl⟩
  · have hf : (fun i => (Array.replicate ops.size false).getD i false) = (fun _ => false) := by
      funext i
      simp only [Array.getD_eq_getD_getElem?, Array.getElem?_replicate]
      split <;> rfl
    rw [hf]
    exact h0 _
end
end Go.Proofs.Ytpfddihcikiofaa.P
end
section
namespace Go.Proofs.Ytpfddihcikiofaa.P
open Go.RowKit Go.Proofs.YtpfddihcikiofaaW.PrintWords Go.Proofs.YtpfddihcikiofaaW.PrintLast Go.Proofs.YtpfddihcikiofaaW.PrintMore
set_option linter.unusedVariables false
set_option linter.unusedSimpArgs false
def layFirst (ops : Array Oper) (m : Nat) (v : Nat → Value) (T : Array Value) : Array Value := (List.range m).foldl (fun T i => match dstOf ops i with | some t => T.setIfInBounds t (v i) | none => T) T
def waitsAll (ops : Array Oper) (m : Nat) : Bool :=
  decide (m ≤ ops.size) && (List.range ops.size).all fun i => decide (i < m) || ((ops[i]?).map fun o => (List.range m).all fun j => o.after.any fun e => Region.binds .any e && decide (e.on = j)).getD false
def firstDone (n m : Nat) : Array Bool := Array.ofFn (n := n) fun i => decide (i.val < m)
section
variable {P : Program} {ops : Array Oper} {Q : Exit → Act → World → Prop}
theorem layFirst_eq {base T : Array Value} {v : Nat → Value} {d : Nat → Bool} {m : Nat} (h : Holds ops base T v d) (hr : regionOk ops base.size = true) (hm : m ≤ ops.size) (hall : ∀ i, i < m → d i = true) (hrest : ∀ i, m ≤ i → d i = false) : T = layFirst ops m v base := by
  have key : ∀ (n : Nat), n ≤ m → ∀ t, ((List.range n).foldl (fun T i => match dstOf ops i with | some t => T.setIfInBounds t (v i) | none => T) base).size = base.size ∧
      (((List.range n).foldl (fun T i => match dstOf ops i with | some t => T.setIfInBounds t (v i) | none => T) base).getD t undef = T.getD t undef ∨
       ((∀ j, j < n → dstOf ops j ≠ some t) ∧ ((List.range n).foldl (fun T i => match dstOf ops i with | some t => T.setIfInBounds t (v i) | none => T) base).getD t undef = base.getD t undef)) := by
    intro n
    induction n with
    | zero => intro _ t; exact ⟨rfl, .inr ⟨fun j hj => by omega, rfl⟩⟩
    | succ n ih =>
      intro hn t
      obtain ⟨h1, h2⟩ := ih (by omega) t
      rw [List.range_succ, List.foldl_append]
      simp only [List.foldl_cons, List.foldl_nil]
      generalize (List.range n).foldl (fun T i => match dstOf ops i with | some t => T.setIfInBounds t (v i) | none => T) base = X at h1 h2 ⊢
      cases hd : dstOf ops n with
      | none =>
        refine ⟨h1, h2.imp_right (fun h3 => ⟨fun j hj => ?_, h3.2⟩)⟩
        rcases Nat.lt_or_ge j n with hlt | hge
        · exact h3.1 j hlt
        · rw [show j = n by omega, hd]; simp
      | some s =>
        have hs := (dst_inj hr hd hd).2
        refine ⟨by simp [h1], ?_⟩
        simp only [Array.getD_eq_getD_getElem?, Array.getElem?_setIfInBounds]
        by_cases hst : s = t
        · subst hst
          left
          rw [if_pos rfl, if_pos (show s < X.size by rw [h1]; exact hs)]
          have := h.done n s (hall n (by omega)) hd
          rw [Array.getD_eq_getD_getElem?] at this
          rw [this]
          rfl
        · rw [if_neg hst]
          simp only [Array.getD_eq_getD_getElem?] at h2
          refine h2.imp_right (fun h3 => ⟨fun j hj => ?_, h3.2⟩)
          rcases Nat.lt_or_ge j n with hlt | hge
          · exact h3.1 j hlt
          · rw [show j = n by omega, hd]
            intro e
            injection e with e
            exact hst e
  have hsz := (key m (Nat.le_refl _) 0).1
  refine Array.ext (by rw [h.size]; exact hsz.symm) (fun t h1 h2 => ?_)
  have h3 := (key m (Nat.le_refl _) t).2
  have h4 : (layFirst ops m v base).getD t undef = T.getD t undef := by
    rcases h3 with h3 | ⟨h3, h5⟩
    · exact h3
    · rw [h.base t (fun j hj e => by
        rcases Nat.lt_or_ge j m with hlt | hge
        · exact h3 j hlt e
        · rw [hrest j hge] at hj; cases hj)]
      exact h5
  simp only [Array.getD_eq_getD_getElem?, Array.getElem?_eq_getElem h1, Array.getElem?_eq_getElem h2, Option.getD_some] at h4
  exact h4.symm
theorem count_set : ∀ (l : List Bool) (i : Nat), l[i]? = some false → ((l.set i true).filter (· == false)).length + 1 = (l.filter (· == false)).length := by
  intro l
  induction l with
  | nil => intro i h; simp at h
  | cons b l ih =>
    intro i h
    cases i with
    | zero =>
      simp at h
      subst h
      simp
    | succ i =>
      have := ih i (by simpa using h)
      cases b <;> simp only [List.set_cons_succ, List.filter_cons] <;> simp <;> simpa using this
theorem count_first (n m : Nat) (hm : m ≤ n) : ((firstDone n m).toList.filter (· == false)).length = n - m := by
  unfold firstDone
  rw [Array.toList_ofFn]
  induction n with
  | zero => simp
  | succ n ih =>
    rw [List.ofFn_succ_last]
    rw [List.filter_append, List.length_append]
    rcases Nat.lt_or_ge n m with h | h
    · have hmn : m = n + 1 := by omega
      subst hmn
      have : (List.ofFn (n := n) fun i => decide (i.castSucc.val < n + 1)).filter (· == false) = [] := by
        rw [List.filter_eq_nil_iff]
        intro x hx
        rw [List.mem_ofFn] at hx
        obtain ⟨i, rfl⟩ := hx
        have := i.isLt
        simp
        omega
      rw [this]
      simp
    · have := ih (by omega)
      simp only [Fin.val_castSucc] at this ⊢
      rw [this]
      simp
      rw [show decide (n < m) = false from decide_eq_false (by omega)]
      simp
      omega
theorem region_seg {id : Nat} {a : Act} {w : World} (m : Nat) (hm : P.follows .mixedOrders = true) (hr : regionOk ops a.tmps.size = true) (hw : waitsAll ops m = true) (I : (Nat → Value) → (Nat → Bool) → World → Prop)
    (h0 : ∀ v, I v (fun _ => false) w.drew) (hstep : ∀ i, i < m → StepOk P ops Q a.tmps a.defers I i)
    (hrest : ∀ v d w', (∀ i, i < m → d i = true) → I v d w' → wpAny P .any ops Q (ops.size - m) (firstDone ops.size m) { tmps := layFirst ops m v a.tmps, defers := a.defers } w') : (Code.region id ops true).wp P Q a w := by
  unfold waitsAll at hw
  rw [Bool.and_eq_true, decide_eq_true_eq, List.all_eq_true] at hw
  obtain ⟨hms, hwait⟩ := hw
  refine wp_region_any hm ?_
  have key : ∀ (fuel : Nat) (listed : Array Bool) (v : Nat → Value) (T : Array Value) (w' : World), listed.size = ops.size → (listed.toList.filter (· == false)).length = fuel → (∀ j, m ≤ j → listed.getD j false = false) →
      Holds ops a.tmps T v (fun i => listed.getD i false) → I v (fun i => listed.getD i false) w' → wpAny P .any ops Q fuel listed { tmps := T, defers := a.defers } w' := by
    intro fuel
    induction fuel with
    | zero =>
      intro listed v T w' hl hf hge hH hI
      have hall : ∀ i, i < ops.size → listed.getD i false = true := by
        intro i hi
        have hmem : listed[i]'(by omega) ∈ listed.toList := by simp
        cases hb : listed[i]'(by omega) with
        | true => simp [Array.getD, hl, hi, hb]
        | false =>
          have : false ∈ listed.toList.filter (· == false) := by
            rw [List.mem_filter]
            exact ⟨hb ▸ hmem, rfl⟩
          have := List.length_pos_of_mem this
          omega
      have hmn : ops.size = m := by
        rcases Nat.lt_or_ge m ops.size with h | h
        · have h1 := hall m h
          rw [hge m (Nat.le_refl _)] at h1
          cases h1
        · omega
      have hlist : listed = firstDone ops.size m := by
        refine Array.ext (by simp [firstDone, hl]) (fun i h1 h2 => ?_)
        have h3 := hall i (by omega)
        simp only [Array.getD_eq_getD_getElem?, Array.getElem?_eq_getElem h1, Option.getD_some] at h3
        rw [h3]
        simp [firstDone]
        omega
      have := hrest v _ w' (fun i hi => hall i (by omega)) hI
      rw [layFirst_eq hH hr hms (fun i hi => hall i (by omega)) hge, hlist]
      simpa [hmn] using this
    | succ fuel ih =>
      intro listed v T w' hl hf hge hH hI
      by_cases hall : ∀ i, i < m → listed.getD i false = true
      · have hlist : listed = firstDone ops.size m := by
          refine Array.ext (by simp [firstDone, hl]) (fun i h1 h2 => ?_)
          rcases Nat.lt_or_ge i m with h | h
          · have h3 := hall i h
            simp only [Array.getD_eq_getD_getElem?, Array.getElem?_eq_getElem h1, Option.getD_some] at h3
            rw [h3]
            simp [firstDone, h]
          · have h3 := hge i h
            simp only [Array.getD_eq_getD_getElem?, Array.getElem?_eq_getElem h1, Option.getD_some] at h3
            rw [h3]
            simp [firstDone]
            omega
        have hfu : fuel + 1 = ops.size - m := by
          rw [← hf, hlist, count_first _ _ hms]
        have := hrest v _ w' hall hI
        rw [layFirst_eq hH hr hms hall hge, hlist, hfu]
        exact this
      ·
        have hmin : ∃ i, i < m ∧ listed.getD i false = false ∧ ∀ j, j < i → listed.getD j false = true := by
          have hex : ∃ i, i < m ∧ listed.getD i false = false := by
            refine Classical.byContradiction (fun hne => hall (fun i hi => ?_))
            cases hb : listed.getD i false with
            | true => rfl
            | false => exact absurd ⟨i, hi, hb⟩ hne
          have hfind : ∀ n, (∃ i, i < n ∧ i < m ∧ listed.getD i false = false) → ∃ i, i < m ∧ listed.getD i false = false ∧ ∀ j, j < i → listed.getD j false = true := by
            intro n
            induction n with
            | zero => rintro ⟨i, h, _⟩; omega
            | succ n ihn =>
              rintro ⟨i, h1, h2, h3⟩
              by_cases hsm : ∃ i, i < n ∧ i < m ∧ listed.getD i false = false
              · exact ihn hsm
              · refine ⟨i, h2, h3, fun j hj => ?_⟩
                cases hb : listed.getD j false with
                | true => rfl
                | false => exact absurd ⟨j, by omega, by omega, hb⟩ hsm
          obtain ⟨i, h1, h2⟩ := hex
          exact hfind (i + 1) ⟨i, by omega, h1, h2⟩
        refine ⟨fun hready => ?_, fun i hi => ?_⟩
        · exfalso
          obtain ⟨i, him, hb, hless⟩ := hmin
          have hi : i < ops.size := by omega
          have ho : ops[i]? = some ops[i] := Array.getElem?_eq_getElem hi
          have hmem : i ∈ Region.ready .any ops listed := by
            unfold Region.ready
            rw [List.mem_filter]
            refine ⟨List.mem_range.2 hi, ?_⟩
            have h2 : listed.getD i true = false := by
              simp only [Array.getD_eq_getD_getElem?, Array.getElem?_eq_getElem (show i < listed.size by omega), Option.getD_some] at hb ⊢
              exact hb
            rw [h2, ho]
            simp only [Bool.not_false, Bool.true_and, Option.map_some, Option.getD_some, Array.all_eq_true']
            intro e he
            cases hbe : Region.binds .any e with
            | false => simp
            | true =>
              rw [hless e.on (dep_lt hr ho e he hbe)]
              simp
          rw [hready] at hmem
          cases hmem
        · unfold Region.ready at hi
          rw [List.mem_filter, List.mem_range] at hi
          obtain ⟨hi, hcond⟩ := hi
          have ho : ops[i]? = some ops[i] := Array.getElem?_eq_getElem hi
          rw [ho, Bool.and_eq_true] at hcond
          obtain ⟨hn, hdeps⟩ := hcond
          have hb : listed.getD i false = false := by
            simp only [Array.getD_eq_getD_getElem?, Array.getElem?_eq_getElem (show i < listed.size by omega), Option.getD_some] at hn ⊢
            simpa using hn
          simp only [Option.map_some, Option.getD_some, Array.all_eq_true'] at hdeps
          have him : i < m := by
            rcases Nat.lt_or_ge i m with h | h
            · exact h
            · exfalso
              refine hall (fun j hj => ?_)
              have h1 := hwait i (List.mem_range.2 hi)
              rw [ho, Bool.or_eq_true, decide_eq_true_eq] at h1
              have h2 := h1.resolve_left (by omega)
              simp only [Option.map_some, Option.getD_some, List.all_eq_true] at h2
              have h3 := h2 j (List.mem_range.2 hj)
              rw [Array.any_eq_true'] at h3
              obtain ⟨e, he, h4⟩ := h3
              rw [Bool.and_eq_true, decide_eq_true_eq] at h4
              have h5 := hdeps e he
              rw [h4.1, h4.2] at h5
              simpa using h5
          have hdd : (fun j => (listed.setIfInBounds i true).getD j false) = upd (fun j => listed.getD j false) i true := by
            funext j
            simp only [Array.getD_eq_getD_getElem?, Array.getElem?_setIfInBounds, upd]
            by_cases h1 : i = j
            · subst h1
              simp [show i < listed.size by omega]
            · simp [h1, Ne.symm h1]
          refine wpOp_step ho (fun K' hK' => ?_)
          refine hstep i him _ ho v _ T w' hH hI hb (fun e he hbd => ?_) K' (fun u w2 h2 => hK' _ _ ?_)
          · have := hdeps e he
            rw [hbd] at this
            simpa using this
          · have hdst : (ops[i]).dst = dstOf ops i := by unfold dstOf; rw [ho]; rfl
            rw [hdst]
            have hH2 := hH.put hr hb u a.defers
            rw [← hdd] at hH2 h2
            have hde : ∀ (x : Option Tmp), ({ tmps := T, defers := a.defers : Act }.put x u) = { tmps := ({ tmps := T, defers := a.defers : Act }.put x u).tmps, defers := a.defers } := by
              intro x
              cases x <;> rfl
            rw [hde]
            refine ih _ (upd v i u) _ w2 (by simp [hl]) ?_ (fun j hj => ?_) hH2 h2
            · have h1 : listed.toList[i]? = some false := by
                simp only [Array.getD_eq_getD_getElem?, Array.getElem?_eq_getElem (show i < listed.size by omega), Option.getD_some] at hb
                rw [Array.getElem?_toList, Array.getElem?_eq_getElem (show i < listed.size by omega), hb]
              have := count_set listed.toList i h1
              rw [Array.toList_setIfInBounds]
              omega
            · have h1 := hge j hj
              rw [Array.getD_eq_getD_getElem?] at h1 ⊢
              rw [Array.getElem?_setIfInBounds_ne (by omega)]
              exact h1
  have hf : ∀ i, (Array.replicate ops.size false).getD i false = false := by
    intro i
    simp only [Array.getD_eq_getD_getElem?, Array.getElem?_replicate]
    split <;> rfl
  refine key ops.size _ (fun _ => undef) a.tmps _ (by simp) ?_ (fun j _ => hf j) ?_ ?_
  · rw [Array.toList_replicate, List.filter_eq_self.2 (fun x hx => by rw [List.eq_of_mem_replicate hx]; rfl)]
    simp
  · exact ⟨rfl, fun j t hj => (by rw [hf] at hj; cases hj), fun t _ => rfl⟩
  · have hf2 : (fun i => (Array.replicate ops.size false).getD i false) = (fun _ => false) := funext hf
    rw [hf2]
    exact h0 _
abbrev Told := Value → World → Prop
def Told.is (u : Value) : Told := fun v _ => v = u
def Told.grows (p : Told) : Prop := ∀ u (w w' : World), p u w → Below w.heap.size w w' → p u w'
theorem Told.is_grows (u : Value) : (Told.is u).grows := fun _ _ _ h _ => h
def DetI (w0 : World) (ps : List Told) (v : Nat → Value) (d : Nat → Bool) (w : World) : Prop := Below w0.heap.size w0 w ∧ ∀ j, d j = true → ∀ p, ps[j]? = some p → p (v j) w
def DetStep (P : Program) (ops : Array Oper) (Q : Exit → Act → World → Prop) (base : Array Value) (ds : List Deferred) (w0 : World) (ps : List Told) (o : Oper) (p : Told) : Prop :=
  ∀ (T : Array Value) (w : World), Below w0.heap.size w0 w →
    (∀ j t p, (o.after.any fun e => Region.binds .any e && decide (e.on = j)) = true → dstOf ops j = some t → ps[j]? = some p → p (T.getD t undef) w) →
    (∀ t, ((List.range ops.size).all fun j => decide (dstOf ops j ≠ some t)) = true → T.getD t undef = base.getD t undef) →
    ∀ K : Act → World → Prop, (∀ u w2, Below w.heap.size w w2 → p u w2 → K ({ tmps := T, defers := ds : Act }.put o.dst u) w2) →
      if Region.wanted o (yielded ops T) = true then Oper.wp P o { tmps := T, defers := ds } w K Q else K ({ tmps := T, defers := ds : Act }.put o.dst undef) w
def DetAll (P : Program) (ops : Array Oper) (Q : Exit → Act → World → Prop) (base : Array Value) (ds : List Deferred) (w0 : World) (m i : Nat) (ps : List Told) : Prop :=
  ∃ full : List Told, full.length = m ∧ full.take i = ps ∧ (∀ j, i ≤ j → j < m → ∀ o p, ops[j]? = some o → full[j]? = some p → p.grows ∧ DetStep P ops Q base ds w0 (full.take j) o p) ∧
    ∀ v w', Below w0.heap.size w0 w' → (∀ (j : Nat) (p : Told), full[j]? = some p → p (v j) w') → wpAny P .any ops Q (ops.size - m) (firstDone ops.size m) { tmps := layFirst ops m v base, defers := ds } w'
theorem DetAll.cons {base : Array Value} {ds : List Deferred} {w0 : World} {m i : Nat} {ps : List Told} {o : Oper} {p : Told} (ho : ops[i]? = some o) (hl : ps.length = i) (him : i < m) (hg : p.grows) (h : DetStep P ops Q base ds w0 ps o p)
    (hs : DetAll P ops Q base ds w0 m (i + 1) (ps ++ [p])) : DetAll P ops Q base ds w0 m i ps := by
  obtain ⟨full, h1, h2, h3, h4⟩ := hs
  have htk : full.take i = ps := by
    have h5 : full.take i = (full.take (i + 1)).take i := by rw [List.take_take, Nat.min_eq_left (by omega)]
    rw [h5, h2, List.take_append_of_le_length (by omega), List.take_of_length_le (by omega)]
  refine ⟨full, h1, htk, fun j hj hjm o' p' ho' hp' => ?_, h4⟩
  rcases Nat.lt_or_ge i j with hlt | hge
  · exact h3 j hlt hjm o' p' ho' hp'
  · have hji : j = i := by omega
    subst hji
    rw [ho] at ho'
    injection ho' with ho'
    subst ho'
    have h5 : full[j]? = some p := by
      have h6 : (full.take (j + 1))[j]? = (ps ++ [p])[j]? := by rw [h2]
      rw [List.getElem?_take_of_lt (by omega), List.getElem?_append_right (by omega)] at h6
      rw [h6]
      simp [hl]
    rw [h5] at hp'
    injection hp' with hp'
    subst hp'
    rw [htk]
    exact ⟨hg, h⟩
theorem DetAll.nil {base : Array Value} {ds : List Deferred} {w0 : World} {m i : Nat} {ps : List Told} (hl : ps.length = m) (hi : i = m)
    (h : ∀ v w', Below w0.heap.size w0 w' → (∀ (j : Nat) (p : Told), ps[j]? = some p → p (v j) w') → wpAny P .any ops Q (ops.size - m) (firstDone ops.size m) { tmps := layFirst ops m v base, defers := ds } w') : DetAll P ops Q base ds w0 m i ps :=
  ⟨ps, hl, List.take_of_length_le (by omega), fun j hj hjm => by omega, h⟩
theorem region_det {id : Nat} {a : Act} {w : World} (m : Nat) (hm : P.follows .mixedOrders = true) (hr : regionOk ops a.tmps.size = true) (hw : waitsAll ops m = true) (h : DetAll P ops Q a.tmps a.defers w m 0 []) : (Code.region id ops true).wp P Q a w := by
  obtain ⟨full, h1, _, h3, h4⟩ := h
  refine region_seg m hm hr hw (DetI w full) (fun v => ⟨pw_below_drewN (Below.refl _ _) 1, fun j hj => by cases hj⟩) (fun i him => ?_) (fun v d w' hall hI => h4 v w' hI.1 (fun j p hp => hI.2 j (hall j (by have := (List.getElem?_eq_some_iff.1 hp).1; omega)) p hp))
  intro o ho v d T w' hH hI hd hdep K hK
  have hp : full[i]? = some full[i] := List.getElem?_eq_getElem (by omega)
  obtain ⟨hg, hs⟩ := h3 i (Nat.zero_le _) him o _ ho hp
  refine hs T w' hI.1 (fun j t p hj hjt hjp => ?_) (fun t ht => hH.base t (fun j _ e => ?_)) K (fun u w2 hb2 hu => hK u w2 ⟨hI.1.trans (hb2.mono hI.1.size), fun j hj p hjp => ?_⟩)
  · rw [Array.any_eq_true'] at hj
    obtain ⟨e, he, h5⟩ := hj
    rw [Bool.and_eq_true, decide_eq_true_eq] at h5
    have hdj : d j = true := by rw [← h5.2]; exact hdep e he h5.1
    rw [hH.done j t hdj hjt]
    have hji : j < i := by rw [← h5.2]; exact dep_lt hr ho e he h5.1
    rw [List.getElem?_take_of_lt hji] at hjp
    exact hI.2 j hdj p hjp
  · rw [List.all_eq_true] at ht
    rcases Nat.lt_or_ge j ops.size with hlt | hge
    · exact of_decide_eq_true (ht j (List.mem_range.2 hlt)) e
    · unfold dstOf at e
      rw [Array.getElem?_eq_none hge] at e
      cases e
  · by_cases hji : j = i
    · subst hji
      rw [hp] at hjp
      injection hjp with hjp
      subst hjp
      rw [upd_same]
      exact hu
    · rw [upd_other _ _ hji] at hj ⊢
      have hg2 := (h3 j (Nat.zero_le _) (by have := (List.getElem?_eq_some_iff.1 hjp).1; omega))
      rcases Nat.lt_or_ge j ops.size with hlt | hge
      · exact (hg2 _ p (Array.getElem?_eq_getElem hlt) hjp).1 _ _ _ (hI.2 j hj p hjp) hb2
      · exfalso
        have := (List.getElem?_eq_some_iff.1 hjp).1
        unfold waitsAll at hw
        rw [Bool.and_eq_true, decide_eq_true_eq] at hw
        omega
end
end Go.Proofs.Ytpfddihcikiofaa.P
end
section
namespace Go.Proofs.Ytpfddihcikiofaa.P
open Go.RowKit Go.Proofs.YtpfddihcikiofaaW.PrintWords Go.Proofs.YtpfddihcikiofaaW.PrintLast Go.Proofs.YtpfddihcikiofaaW.PrintMore
attribute [local go_sem] max2_int min2_int max_two min_two max_three min_three max_four min_four
set_option linter.unusedVariables false
set_option linter.unusedSimpArgs false
mutual
def soriteslaw06_Small.j0 : Nat → Int → Int → Bool → Int → List (S24) → Option (Int)
  | 0, _, _, _, _, _ => none
  | k + 1, x1, x2, x25, x113000, x113001 => if x25 = true then (some (-1)) else (soriteslaw06_Small.l0 k (wrap64 (x1 - 1)) x2 0 x113000 x113001)
def soriteslaw06_Small.l0 : Nat → Int → Int → Int → Int → List (S24) → Option (Int)
  | 0, _, _, _, _, _ => none
  | k + 1, x1, x2, x7, x113000, x113001 => if x7 < (x113001.length : Int) then (if x1 ≥ 0 then (if 0 ≤ x7 then ((soriteslaw06_Small.f k ((rd_T24 x113001 x7).f0) ((rd_T24 x113001 x7).f1) x1 (wrap64 (x2 - 1))).bind fun t114 => (soriteslaw06_Small.l0 k t114 x2 (wrap64 (x7 + 1)) x113000 x113001)) else (none)) else (some x1)) else (some x1)
def soriteslaw06_Small.f : Nat → Int → List (S24) → Int → Int → Option (Int)
  | 0, _, _, _, _ => none
  | k + 1, a0_0, l0_1, a1, a2 => if a2 < 0 then (soriteslaw06_Small.j0 k a1 a2 true a0_0 l0_1) else (if a0_0 < (-1000) then (soriteslaw06_Small.j0 k a1 a2 true a0_0 l0_1) else (if a0_0 > 1000 then (soriteslaw06_Small.j0 k a1 a2 true a0_0 l0_1) else (soriteslaw06_Small.j0 k a1 a2 (decide ((l0_1.length : Int) > 20)) a0_0 l0_1)))
end
set_option maxHeartbeats 8000000 in
set_option maxRecDepth 100000 in
theorem soriteslaw06_Small.calls (k : Nat) : ∀ (a0_0 : Int) (A0_1 : Option Addr) (c0_1 : Nat) (l0_1 : List (S24)) (a1 : Int) (a2 : Int) (r : Int) (w : World) (hr0_1 : Kd.C k24 w A0_1 l0_1.length l0_1) (hc0_1 : l0_1.length ≤ c0_1) (h : soriteslaw06_Small.f k a0_0 l0_1 a1 a2 = some r),
    Calls Try.prog 50 #[.agg #[.int .i64 a0_0, .slice A0_1 l0_1.length c0_1], .int .i64 a1, .int .i64 a2] w fun e w' => e = .returned (.int .i64 r) ∧ Below w.heap.size w w' := by
  induction k using Nat.strongRecOn with
  | _ k ih =>
  intro a0_0 A0_1 c0_1 l0_1 a1 a2 r w hr0_1 hc0_1 h
  cases k with
  | zero => exact absurd h (by simp [soriteslaw06_Small.f])
  | succ k =>
  simp only [soriteslaw06_Small.f] at h
  have hu24 := Try.underlying24
  have HR0_1 := Aside0.mk hr0_1
  have HC0_1 := Aside0.mk hc0_1
  clear hr0_1 hc0_1
  have HB := Aside0.mk (Below.refl w.heap.size w)
  have H : (if a2 < 0 then (soriteslaw06_Small.j0 k a1 a2 true a0_0 l0_1) else (if a0_0 < (-1000) then (soriteslaw06_Small.j0 k a1 a2 true a0_0 l0_1) else (if a0_0 > 1000 then (soriteslaw06_Small.j0 k a1 a2 true a0_0 l0_1) else (soriteslaw06_Small.j0 k a1 a2 (decide ((l0_1.length : Int) > 20)) a0_0 l0_1)))) = some r := h
  clear h
  have HC4 := Aside0.mk H
  clear H
  go_enter Try.func50, Try.ntmps50
  go_upto_region 1 with (first | ((with_reducible refine gate_dst (N := 3) rfl ?_); (try (refine gate_guard (by rfl) ?_; dsimp only)); refine box_event ?hg (N := 3) ?hd (cs := #[.int .i64 a0_0, .slice A0_1 l0_1.length c0_1]) (t := 24) ?hr ?_; (case hd => rfl); (case hg => rfl); (case hr => first | (go_simp; done) | (go_simp; rfl)); intro gb112 hg w5 hbox hb; have n0_ := Aside0.mk (below_step (by repeat (first | (with_reducible first | exact HB.out | apply below_alloc | apply pw_below_drewN | apply below_drew1) | exact HB.out)) hb); have n1_ := Aside0.mk (hbox); have n2_ := Aside0.mk ((by rw [hg]; exact (below_size (by repeat (first | (with_reducible first | exact HB.out | apply below_alloc | apply pw_below_drewN | apply below_drew1) | exact HB.out))) : w.heap.size ≤ gb112)); have n3_ := Aside0.mk ((by rw [hg]; exact (below_size (by repeat (first | (with_reducible first | exact HB.out | apply below_alloc | apply pw_below_drewN | apply below_drew1) | exact HB.out))) : w.heap.size ≤ gb112)); clear HB; have HB := n0_; have BK112 := n1_; have GW112 := n2_; have GE112 := n3_; clear n0_ n1_ n2_ n3_; clear hb hbox hg))
  (try simp only [Act.put, List.setIfInBounds_toArray, List.set_cons_zero, List.set_cons_succ])
  go_cut [25] (fun v25 wc => ∃ (kq : Nat) (x25_3 : Bool), v25 = .bool x25_3 ∧ Aside0 (soriteslaw06_Small.j0 kq a1 a2 x25_3 a0_0 l0_1 = some r) ∧ Aside0 (kq ≤ k) ∧ Aside0 (wc.heap[gb112]? = some (.cells #[.int .i64 a0_0, (.slice A0_1 l0_1.length c0_1)] 24 (0, 0))) ∧ Aside0 (Below w.heap.size w wc))
  case first =>
    have H := HC4.out
    clear HC4
    by_cases c6 : a2 < 0
    · rw [if_pos c6] at H
      have c6b0 : decide (a2 < 0) = true := decide_eq_true c6
      clear c6
      (first | rw [c6b0] | (simp only [i64_w, i32_w]; rw [c6b0]) | skip)
      have H' := Aside0.mk H
      clear H
      go_wp2
      go_meet
      case rel => exact ⟨_, (true), (by first | rfl | (simp; done) | (simp [*]; done)), H', ⟨by first | omega | exact Nat.le_refl _⟩, ⟨by (with_reducible repeat (first | refine blk_drewN ?_ _ | refine blk_drew ?_ | refine blk_alloc ?_ _)); exact BK112.out⟩, ⟨by repeat (first | (with_reducible first | exact HB.out | apply below_alloc | apply pw_below_drewN | apply below_drew1 | refine below_set ?_ GE112.out) | exact HB.out)⟩⟩
    · rw [if_neg c6] at H
      have c6b0 : decide (a2 < 0) = false := decide_eq_false c6
      clear c6
      (first | rw [c6b0] | (simp only [i64_w, i32_w]; rw [c6b0]) | skip)
      by_cases c7 : a0_0 < (-1000)
      · rw [if_pos c7] at H
        have c7b0 : decide (a0_0 < (-1000)) = true := decide_eq_true c7
        clear c7
        have H' := Aside0.mk H
        clear H
        have hcz8_0 : w5.cell? ⟨gb112, 0, none⟩ = some (.int .i64 a0_0) := (blk_cell BK112.out 0).trans rfl
        have hcz8_1 : w5.cell? ⟨gb112, 1, none⟩ = some (.slice A0_1 l0_1.length c0_1) := (blk_cell BK112.out 1).trans rfl
        have hfz8_0 := blk_frozen BK112.out 0
        have hfz8_1 := blk_frozen BK112.out 1
        go_wp2
        go_meet
        case rel => exact ⟨_, (true), (by first | rfl | (simp; done) | (simp [*]; done)), H', ⟨by first | omega | exact Nat.le_refl _⟩, ⟨by (with_reducible repeat (first | refine blk_drewN ?_ _ | refine blk_drew ?_ | refine blk_alloc ?_ _)); exact BK112.out⟩, ⟨by repeat (first | (with_reducible first | exact HB.out | apply below_alloc | apply pw_below_drewN | apply below_drew1 | refine below_set ?_ GE112.out) | exact HB.out)⟩⟩
      · rw [if_neg c7] at H
        have c7b0 : decide (a0_0 < (-1000)) = false := decide_eq_false c7
        clear c7
        by_cases c9 : a0_0 > 1000
        · rw [if_pos c9] at H
          have c9b0 : decide (1000 < a0_0) = true := decide_eq_true c9
          clear c9
          have H' := Aside0.mk H
          clear H
          have hcz10_0 : w5.cell? ⟨gb112, 0, none⟩ = some (.int .i64 a0_0) := (blk_cell BK112.out 0).trans rfl
          have hcz10_1 : w5.cell? ⟨gb112, 1, none⟩ = some (.slice A0_1 l0_1.length c0_1) := (blk_cell BK112.out 1).trans rfl
          have hfz10_0 := blk_frozen BK112.out 0
          have hfz10_1 := blk_frozen BK112.out 1
          go_wp2
          go_meet
          case rel => exact ⟨_, (true), (by first | rfl | (simp; done) | (simp [*]; done)), H', ⟨by first | omega | exact Nat.le_refl _⟩, ⟨by (with_reducible repeat (first | refine blk_drewN ?_ _ | refine blk_drew ?_ | refine blk_alloc ?_ _)); exact BK112.out⟩, ⟨by repeat (first | (with_reducible first | exact HB.out | apply below_alloc | apply pw_below_drewN | apply below_drew1 | refine below_set ?_ GE112.out) | exact HB.out)⟩⟩
        · rw [if_neg c9] at H
          have c9b0 : decide (1000 < a0_0) = false := decide_eq_false c9
          clear c9
          have H' := Aside0.mk H
          clear H
          have hcz11_0 : w5.cell? ⟨gb112, 0, none⟩ = some (.int .i64 a0_0) := (blk_cell BK112.out 0).trans rfl
          have hcz11_1 : w5.cell? ⟨gb112, 1, none⟩ = some (.slice A0_1 l0_1.length c0_1) := (blk_cell BK112.out 1).trans rfl
          have hfz11_0 := blk_frozen BK112.out 0
          have hfz11_1 := blk_frozen BK112.out 1
          go_wp2
          go_meet
          case rel => exact ⟨_, (decide ((l0_1.length : Int) > 20)), (by first | rfl | (simp; done) | (simp [*]; done)), H', ⟨by first | omega | exact Nat.le_refl _⟩, ⟨by (with_reducible repeat (first | refine blk_drewN ?_ _ | refine blk_drew ?_ | refine blk_alloc ?_ _)); exact BK112.out⟩, ⟨by repeat (first | (with_reducible first | exact HB.out | apply below_alloc | apply pw_below_drewN | apply below_drew1 | refine below_set ?_ GE112.out) | exact HB.out)⟩⟩
  case rest =>
    clear HC4
    try clear p2
    try clear c5
    try clear c6
    try clear c6b0
    try clear c7
    try clear c7b0
    try clear c9
    try clear c9b0
    try clear hcz10_0
    try clear hcz10_1
    try clear hcz11_0
    try clear hcz11_1
    try clear hcz8_0
    try clear hcz8_1
    try clear hfz10_0
    try clear hfz10_1
    try clear hfz11_0
    try clear hfz11_1
    try clear hfz8_0
    try clear hfz8_1
    obtain ⟨kq, x25_3, rfl, HA, HJ3, BK112, HB⟩ := hcut
    cases kq with
    | zero => exact absurd HA.out (by simp [soriteslaw06_Small.j0])
    | succ kj3 =>
      have H := HA.out
      clear HA
      simp only [soriteslaw06_Small.j0] at H
      by_cases c12 : x25_3 = true
      · subst c12
        have H1 : (some (-1)) = some r := by rw [if_pos rfl] at H; exact H
        clear H
        have H := H1
        clear H1
        obtain rfl := Option.some.inj H
        go_wp2
        go_ret
        exact ⟨by first | rfl | (simp [errW_none, errW_some] <;> rfl) | (simp [*, errW_none, errW_some] <;> rfl), by repeat (first | (with_reducible first | exact HB.out | apply below_alloc | apply pw_below_drewN | apply below_drew1 | refine below_set ?_ GE112.out) | exact HB.out)⟩
      · replace c12 := Bool.eq_false_iff.mpr c12
        subst c12
        have H1 : (soriteslaw06_Small.l0 kj3 (wrap64 (a1 - 1)) a2 0 a0_0 l0_1) = some r := by rw [if_neg (show ¬ (false = true) by decide)] at H; exact H
        clear H
        have H := H1
        clear H1
        have H' := Aside0.mk H
        clear H
        go_wp2
        go_loopg [1, 7] kj3 (fun kq v1 v7 w' => ∃ (x1_2 : Int) (x7_2 : Int), v1 = .int .i64 x1_2 ∧ v7 = .int .i64 x7_2 ∧ Aside0 (soriteslaw06_Small.l0 kq x1_2 a2 x7_2 a0_0 l0_1 = some r) ∧ Aside0 (kq ≤ kj3) ∧ Aside0 (w'.heap[gb112]? = some (.cells #[.int .i64 a0_0, (.slice A0_1 l0_1.length c0_1)] 24 (0, 0))) ∧ Aside0 (Below w.heap.size w w'))
        case atStart => exact ⟨(wrap64 (a1 - 1)), (0), (by first | rfl | (simp; done) | (simp [*]; done)), (by first | rfl | (simp; done) | (simp [*]; done)), H', ⟨Nat.le_refl _⟩, ⟨by (with_reducible repeat (first | refine blk_drewN ?_ _ | refine blk_drew ?_ | refine blk_alloc ?_ _)); exact BK112.out⟩, ⟨by repeat (first | (with_reducible first | exact HB.out | apply below_alloc | apply pw_below_drewN | apply below_drew1 | refine below_set ?_ GE112.out) | exact HB.out)⟩⟩
        case round =>
          clear H'
          try clear c1
          try clear p2
          try clear c5
          try clear c6
          try clear c6b0
          try clear p6
          try clear c7
          try clear c7b0
          try clear c9
          try clear c9b0
          try clear c12
          try clear hcz10_0
          try clear hcz10_1
          try clear hcz11_0
          try clear hcz11_1
          try clear hcz8_0
          try clear hcz8_1
          try clear hfz10_0
          try clear hfz10_1
          try clear hfz11_0
          try clear hfz11_1
          try clear hfz8_0
          try clear hfz8_1
          try clear p2
          obtain ⟨x1_2, x7_2, rfl, rfl, HA, HK2, BK112, HB⟩ := hrel
          cases gk with
          | zero => exact absurd HA.out (by simp [soriteslaw06_Small.l0])
          | succ k2 =>
            have H := HA.out
            clear HA
            simp only [soriteslaw06_Small.l0] at H
            by_cases c13 : x7_2 < (l0_1.length : Int)
            · rw [if_pos c13] at H
              have c13b0 : decide (x7_2 < (l0_1.length : Int)) = true := decide_eq_true c13
              clear c13
              by_cases c14 : x1_2 ≥ 0
              · rw [if_pos c14] at H
                have c14b0 : decide (0 ≤ x1_2) = true := decide_eq_true c14
                clear c14
                by_cases c15 : 0 ≤ x7_2
                · rw [if_pos c15] at H
                  have c15b0 : decide (0 ≤ x7_2) = true := decide_eq_true c15
                  clear c15
                  replace H := Option.bind_eq_some_iff.mp H
                  obtain ⟨t114, A160, H⟩ := H
                  replace H : (soriteslaw06_Small.l0 k2 t114 a2 (wrap64 (x7_2 + 1)) a0_0 l0_1) = some r := H
                  have A16 := Aside0.mk A160
                  clear A160
                  have H' := Aside0.mk H
                  clear H
                  have hcz17_0 : wr.cell? ⟨gb112, 0, none⟩ = some (.int .i64 a0_0) := (blk_cell BK112.out 0).trans rfl
                  have hcz17_1 : wr.cell? ⟨gb112, 1, none⟩ = some (.slice A0_1 l0_1.length c0_1) := (blk_cell BK112.out 1).trans rfl
                  have hfz17_0 := blk_frozen BK112.out 0
                  have hfz17_1 := blk_frozen BK112.out 1
                  have p113 : 0 ≤ (x7_2 : Int) := of_decide_eq_true (by first | (with_reducible assumption) | assumption)
                  have q113 : x7_2 < (l0_1.length : Int) := of_decide_eq_true (by first | (with_reducible assumption) | assumption)
                  obtain ⟨ad113, A113_1, c113_1, e113, hx113_0, hx113_1, hl113_1, hi113_1⟩ := at_T24 HR0_1.out x7_2 p113 q113
                  cases e113
                  replace hx113_0 := (HB.out.cell (World.block_lt_of_cell? w _ hx113_0)).trans hx113_0
                  replace hx113_1 := (HB.out.cell (World.block_lt_of_cell? w _ hx113_1)).trans hx113_1
                  have HR113_1 := Aside0.mk hi113_1
                  have HC113_1 := Aside0.mk hl113_1
                  clear hi113_1 hl113_1
                  replace p113 := eq_true p113
                  replace q113 := eq_true q113
                  go_wp2_with (first | ((with_reducible refine gate_callee (f := 50) rfl ?_); refine goesL_ (some 47) rfl rfl Try.func50 (by kernel_rfl) rfl #[.agg #[.int .i64 ((rd_T24 l0_1 x7_2).f0), .slice A113_1 ((rd_T24 l0_1 x7_2).f1).length c113_1], .int .i64 x1_2, .int .i64 (wrap64 (a2 - 1))] rfl (by (try simp only [List.map_toArray, List.map_cons, List.map_nil]); first | done | rfl | (simp only [List.length_drop, List.length_take]; rfl)) ?_; (with_reducible refine (ih k2 (by have := HJ3.out; have := HK2.out; omega) ((rd_T24 l0_1 x7_2).f0) _ _ ((rd_T24 l0_1 x7_2).f1) x1_2 (wrap64 (a2 - 1)) t114 _ ?side1 ?side2 A16.out).mono ?_); (case side1 => repeat (first | exact (Kd.C_below HR113_1.out HB.out) | (with_reducible refine Kd.C_alloc ?_ _) | (with_reducible refine Kd.C_drewN ?_ _) | (with_reducible refine Kd.C_drew ?_))); (case side2 => exact HC113_1.out); rintro e w18 ⟨rfl, hb⟩; refine ⟨_, rfl, ?_⟩; have n0_ := Aside0.mk (blk_below (g := gb112) (o := .cells #[.int .i64 a0_0, .slice (some ad113) l0_1.length c0_1] 24 (0, 0)) (by (with_reducible repeat (first | refine blk_drewN ?_ _ | refine blk_drew ?_ | refine blk_alloc ?_ _)); exact BK112.out) hb); have n1_ := Aside0.mk (below_step (by repeat (first | (with_reducible first | exact HB.out | apply below_alloc | apply pw_below_drewN | apply below_drew1 | refine below_set ?_ GE112.out) | exact HB.out)) hb); clear BK112; clear HB; have BK112 := n0_; have HB := n1_; clear n0_ n1_; (try clear hb); (try clear hb2); (try clear hk); (try clear hi)))
                  go_roundg k2
                  case measure => have := HJ3.out; have := HK2.out; omega
                  case rel => exact ⟨(t114), (wrap64 (x7_2 + 1)), (by first | rfl | (simp; done) | (simp [*]; done)), (by first | rfl | (simp; done) | (simp [*]; done)), H', ⟨by have := HJ3.out; have := HK2.out; omega⟩, ⟨by (with_reducible repeat (first | refine blk_drewN ?_ _ | refine blk_drew ?_ | refine blk_alloc ?_ _)); exact BK112.out⟩, ⟨by repeat (first | (with_reducible first | exact HB.out | apply below_alloc | apply pw_below_drewN | apply below_drew1 | refine below_set ?_ GE112.out) | exact HB.out)⟩⟩
                · rw [if_neg c15] at H
                  exact absurd H (by simp)
              · rw [if_neg c14] at H
                have c14b0 : decide (0 ≤ x1_2) = false := decide_eq_false c14
                clear c14
                obtain rfl := Option.some.inj H
                have hcz19_0 : wr.cell? ⟨gb112, 0, none⟩ = some (.int .i64 a0_0) := (blk_cell BK112.out 0).trans rfl
                have hcz19_1 : wr.cell? ⟨gb112, 1, none⟩ = some (.slice A0_1 l0_1.length c0_1) := (blk_cell BK112.out 1).trans rfl
                have hfz19_0 := blk_frozen BK112.out 0
                have hfz19_1 := blk_frozen BK112.out 1
                go_wp2
                go_ret
                exact ⟨by first | rfl | (simp [errW_none, errW_some] <;> rfl) | (simp [*, errW_none, errW_some] <;> rfl), by repeat (first | (with_reducible first | exact HB.out | apply below_alloc | apply pw_below_drewN | apply below_drew1 | refine below_set ?_ GE112.out) | exact HB.out)⟩
            · rw [if_neg c13] at H
              have c13b0 : decide (x7_2 < (l0_1.length : Int)) = false := decide_eq_false c13
              clear c13
              obtain rfl := Option.some.inj H
              have hcz20_0 : wr.cell? ⟨gb112, 0, none⟩ = some (.int .i64 a0_0) := (blk_cell BK112.out 0).trans rfl
              have hcz20_1 : wr.cell? ⟨gb112, 1, none⟩ = some (.slice A0_1 l0_1.length c0_1) := (blk_cell BK112.out 1).trans rfl
              have hfz20_0 := blk_frozen BK112.out 0
              have hfz20_1 := blk_frozen BK112.out 1
              go_wp2
              go_ret
              exact ⟨by first | rfl | (simp [errW_none, errW_some] <;> rfl) | (simp [*, errW_none, errW_some] <;> rfl), by repeat (first | (with_reducible first | exact HB.out | apply below_alloc | apply pw_below_drewN | apply below_drew1 | refine below_set ?_ GE112.out) | exact HB.out)⟩
end Go.Proofs.Ytpfddihcikiofaa.P
end
section
namespace Go.Proofs.Ytpfddihcikiofaa.P
open Go.RowKit Go.Proofs.YtpfddihcikiofaaW.PrintWords Go.Proofs.YtpfddihcikiofaaW.PrintLast Go.Proofs.YtpfddihcikiofaaW.PrintMore
attribute [local go_sem] max2_int min2_int max_two min_two max_three min_three max_four min_four
set_option linter.unusedVariables false
set_option linter.unusedSimpArgs false
def soriteslaw06_Fine.l0 : Nat → List (S24) → Int → Option (Bool)
  | 0, _, _ => none
  | k + 1, x0, x3 => if x3 < (x0.length : Int) then (if 0 ≤ x3 then ((soriteslaw06_Small.f k ((rd_T24 x0 x3).f0) ((rd_T24 x0 x3).f1) 60 20).bind fun t116 => (if t116 < 0 then (some false) else (soriteslaw06_Fine.l0 k x0 (wrap64 (x3 + 1))))) else (none)) else (some true)
def soriteslaw06_Fine.f (k : Nat) (l0 : List (S24)) : Option (Bool) := soriteslaw06_Fine.l0 k l0 0
set_option maxHeartbeats 8000000 in
set_option maxRecDepth 100000 in
theorem soriteslaw06_Fine.calls (k : Nat) (A0 : Option Addr) (c0 : Nat) (l0 : List (S24)) (r : Bool) (w : World) (hr0 : Kd.C k24 w A0 l0.length l0) (hc0 : l0.length ≤ c0) (h : soriteslaw06_Fine.f k l0 = some r) :
    Calls Try.prog 21 #[.slice A0 l0.length c0] w fun e w' => e = .returned (.bool r) ∧ Below w.heap.size w w' := by
  have hu24 := Try.underlying24
  have HR0 := Aside0.mk hr0
  have HC0 := Aside0.mk hc0
  clear hr0 hc0
  have HB := Aside0.mk (Below.refl w.heap.size w)
  have H : (soriteslaw06_Fine.l0 k l0 0) = some r := h
  clear h
  have H' := Aside0.mk H
  clear H
  go_enter Try.func21, Try.ntmps21
  go_wp2
  go_loopg [3] k (fun kq v3 w' => ∃ (x3_1 : Int), v3 = .int .i64 x3_1 ∧ Aside0 (soriteslaw06_Fine.l0 kq l0 x3_1 = some r) ∧ Aside0 (kq ≤ k) ∧ Aside0 (Below w.heap.size w w'))
  case atStart => exact ⟨(0), (by first | rfl | (simp; done) | (simp [*]; done)), H', ⟨Nat.le_refl _⟩, ⟨by repeat (first | (with_reducible first | exact HB.out | apply below_alloc | apply pw_below_drewN | apply below_drew1) | exact HB.out)⟩⟩
  case round =>
    clear H'
    obtain ⟨x3_1, rfl, HA, HK1, HB⟩ := hrel
    cases gk with
    | zero => exact absurd HA.out (by simp [soriteslaw06_Fine.l0])
    | succ k1 =>
      have H := HA.out
      clear HA
      simp only [soriteslaw06_Fine.l0] at H
      by_cases c2 : x3_1 < (l0.length : Int)
      · rw [if_pos c2] at H
        have c2b0 : decide (x3_1 < (l0.length : Int)) = true := decide_eq_true c2
        clear c2
        by_cases c3 : 0 ≤ x3_1
        · rw [if_pos c3] at H
          have c3b0 : decide (0 ≤ x3_1) = true := decide_eq_true c3
          clear c3
          replace H := Option.bind_eq_some_iff.mp H
          obtain ⟨t116, A40, H⟩ := H
          replace H : (if t116 < 0 then (some false) else (soriteslaw06_Fine.l0 k1 l0 (wrap64 (x3_1 + 1)))) = some r := H
          have A4 := Aside0.mk A40
          clear A40
          by_cases c5 : t116 < 0
          · rw [if_pos c5] at H
            have c5b0 : decide (t116 < 0) = true := decide_eq_true c5
            clear c5
            obtain rfl := Option.some.inj H
            have p115 : 0 ≤ (x3_1 : Int) := of_decide_eq_true (by first | (with_reducible assumption) | assumption)
            have q115 : x3_1 < (l0.length : Int) := of_decide_eq_true (by first | (with_reducible assumption) | assumption)
            obtain ⟨ad115, A115_1, c115_1, e115, hx115_0, hx115_1, hl115_1, hi115_1⟩ := at_T24 HR0.out x3_1 p115 q115
            cases e115
            replace hx115_0 := (HB.out.cell (World.block_lt_of_cell? w _ hx115_0)).trans hx115_0
            replace hx115_1 := (HB.out.cell (World.block_lt_of_cell? w _ hx115_1)).trans hx115_1
            have HR115_1 := Aside0.mk hi115_1
            have HC115_1 := Aside0.mk hl115_1
            clear hi115_1 hl115_1
            replace p115 := eq_true p115
            replace q115 := eq_true q115
            go_wp2_with (first | ((with_reducible refine gate_callee (f := 50) rfl ?_); refine goesL_ (some 14) rfl rfl Try.func50 (by kernel_rfl) rfl #[.agg #[.int .i64 ((rd_T24 l0 x3_1).f0), .slice A115_1 ((rd_T24 l0 x3_1).f1).length c115_1], .int .i64 60, .int .i64 20] rfl (by (try simp only [List.map_toArray, List.map_cons, List.map_nil]); first | done | rfl | (simp only [List.length_drop, List.length_take]; rfl)) ?_; (with_reducible refine (soriteslaw06_Small.calls k1 ((rd_T24 l0 x3_1).f0) _ _ ((rd_T24 l0 x3_1).f1) 60 20 t116 _ ?side1 ?side2 A4.out).mono ?_); (case side1 => repeat (first | exact (Kd.C_below HR115_1.out HB.out) | (with_reducible refine Kd.C_alloc ?_ _) | (with_reducible refine Kd.C_drewN ?_ _) | (with_reducible refine Kd.C_drew ?_))); (case side2 => exact HC115_1.out); rintro e w6 ⟨rfl, hb⟩; refine ⟨_, rfl, ?_⟩; have n0_ := Aside0.mk (below_step (by repeat (first | (with_reducible first | exact HB.out | apply below_alloc | apply pw_below_drewN | apply below_drew1) | exact HB.out)) hb); clear HB; have HB := n0_; clear n0_; (try clear hb); (try clear hb2); (try clear hk); (try clear hi)))
            go_ret
            exact ⟨by first | rfl | (simp [errW_none, errW_some] <;> rfl) | (simp [*, errW_none, errW_some] <;> rfl), by repeat (first | (with_reducible first | exact HB.out | apply below_alloc | apply pw_below_drewN | apply below_drew1) | exact HB.out)⟩
          · rw [if_neg c5] at H
            have c5b0 : decide (t116 < 0) = false := decide_eq_false c5
            clear c5
            have H' := Aside0.mk H
            clear H
            have p115 : 0 ≤ (x3_1 : Int) := of_decide_eq_true (by first | (with_reducible assumption) | assumption)
            have q115 : x3_1 < (l0.length : Int) := of_decide_eq_true (by first | (with_reducible assumption) | assumption)
            obtain ⟨ad115, A115_1, c115_1, e115, hx115_0, hx115_1, hl115_1, hi115_1⟩ := at_T24 HR0.out x3_1 p115 q115
            cases e115
            replace hx115_0 := (HB.out.cell (World.block_lt_of_cell? w _ hx115_0)).trans hx115_0
            replace hx115_1 := (HB.out.cell (World.block_lt_of_cell? w _ hx115_1)).trans hx115_1
            have HR115_1 := Aside0.mk hi115_1
            have HC115_1 := Aside0.mk hl115_1
            clear hi115_1 hl115_1
            replace p115 := eq_true p115
            replace q115 := eq_true q115
            go_wp2_with (first | ((with_reducible refine gate_callee (f := 50) rfl ?_); refine goesL_ (some 14) rfl rfl Try.func50 (by kernel_rfl) rfl #[.agg #[.int .i64 ((rd_T24 l0 x3_1).f0), .slice A115_1 ((rd_T24 l0 x3_1).f1).length c115_1], .int .i64 60, .int .i64 20] rfl (by (try simp only [List.map_toArray, List.map_cons, List.map_nil]); first | done | rfl | (simp only [List.length_drop, List.length_take]; rfl)) ?_; (with_reducible refine (soriteslaw06_Small.calls k1 ((rd_T24 l0 x3_1).f0) _ _ ((rd_T24 l0 x3_1).f1) 60 20 t116 _ ?side1 ?side2 A4.out).mono ?_); (case side1 => repeat (first | exact (Kd.C_below HR115_1.out HB.out) | (with_reducible refine Kd.C_alloc ?_ _) | (with_reducible refine Kd.C_drewN ?_ _) | (with_reducible refine Kd.C_drew ?_))); (case side2 => exact HC115_1.out); rintro e w7 ⟨rfl, hb⟩; refine ⟨_, rfl, ?_⟩; have n0_ := Aside0.mk (below_step (by repeat (first | (with_reducible first | exact HB.out | apply below_alloc | apply pw_below_drewN | apply below_drew1) | exact HB.out)) hb); clear HB; have HB := n0_; clear n0_; (try clear hb); (try clear hb2); (try clear hk); (try clear hi)))
            go_roundg k1
            case measure => have := HK1.out; omega
            case rel => exact ⟨(wrap64 (x3_1 + 1)), (by first | rfl | (simp; done) | (simp [*]; done)), H', ⟨by have := HK1.out; omega⟩, ⟨by repeat (first | (with_reducible first | exact HB.out | apply below_alloc | apply pw_below_drewN | apply below_drew1) | exact HB.out)⟩⟩
        · rw [if_neg c3] at H
          exact absurd H (by simp)
      · rw [if_neg c2] at H
        have c2b0 : decide (x3_1 < (l0.length : Int)) = false := decide_eq_false c2
        clear c2
        obtain rfl := Option.some.inj H
        go_wp2
        go_ret
        exact ⟨by first | rfl | (simp [errW_none, errW_some] <;> rfl) | (simp [*, errW_none, errW_some] <;> rfl), by repeat (first | (with_reducible first | exact HB.out | apply below_alloc | apply pw_below_drewN | apply below_drew1) | exact HB.out)⟩
end Go.Proofs.Ytpfddihcikiofaa.P
end
section
namespace Go.Proofs.Ytpfddihcikiofaa.P
open Go.RowKit Go.Proofs.YtpfddihcikiofaaW.PrintWords Go.Proofs.YtpfddihcikiofaaW.PrintLast Go.Proofs.YtpfddihcikiofaaW.PrintMore
attribute [local go_sem] max2_int min2_int max_two min_two max_three min_three max_four min_four
set_option linter.unusedVariables false
set_option linter.unusedSimpArgs false
mutual
def soriteslaw06_Of.l0 : Nat → Int → Int → List (S24) → Int → List (S30) → Option (Int × (List (S30)))
  | 0, _, _, _, _, _ => none
  | k + 1, x4, x118000, x118001, x120000, x120001 => if x4 < (x118001.length : Int) then (if 0 ≤ x4 then ((soriteslaw06_Of.f k ((rd_T24 x118001 x4).f0) ((rd_T24 x118001 x4).f1)).bind fun bt121 => (if x120001.length < 4398046511104 then (soriteslaw06_Of.l0 k (wrap64 (x4 + 1)) x118000 x118001 x120000 (x120001 ++ [(⟨bt121.1, bt121.2⟩ : S30)])) else (none))) else (none)) else (some (x120000, x120001))
def soriteslaw06_Of.f : Nat → Int → List (S24) → Option (Int × (List (S30)))
  | 0, _, _ => none
  | k + 1, a0_0, l0_1 => soriteslaw06_Of.l0 k 0 a0_0 l0_1 a0_0 ([] : List (S30))
end
def soriteslaw06_Of.T5 : Bool × List (List Nat × List Nat) := (true, [([], []), ([0], [0]), ([], []), ([2], [2]), ([], []), ([3, 4], [3, 4]), ([5], [5]), ([6], [6]), ([7], [7]), ([1, 8, 7], [1, 8]), ([0, 1, 2, 3, 4, 5, 6, 7, 8, 9], []), ([10, 9, 9, 0, 1, 2, 3, 4, 5, 6, 7, 8, 9], [9, 10])])
def soriteslaw06_Of.B5 : List Nat := [0, 1, 0, 4, 0, 28, 60, 124, 252, 511, 1023, 2047]
theorem soriteslaw06_Of.tab5 : rtab .any (opsOf Try.f22 5) = soriteslaw06_Of.T5 := by kernel_rfl
theorem soriteslaw06_Of.bits5 : waitsOk soriteslaw06_Of.T5.2 soriteslaw06_Of.B5 = true := by kernel_rfl
set_option maxHeartbeats 8000000 in
set_option maxRecDepth 100000 in
theorem soriteslaw06_Of.calls (k : Nat) : ∀ (a0_0 : Int) (A0_1 : Option Addr) (c0_1 : Nat) (l0_1 : List (S24)) (r1 : Int) (r2 : List (S30)) (w : World) (hr0_1 : Kd.C k24 w A0_1 l0_1.length l0_1) (hc0_1 : l0_1.length ≤ c0_1) (h : soriteslaw06_Of.f k a0_0 l0_1 = some (r1, r2)),
    Calls Try.prog 22 #[.agg #[.int .i64 a0_0, .slice A0_1 l0_1.length c0_1]] w fun e w' => ∃ v1_ : Value, e = .returned (.agg #[.int .i64 r1, v1_]) ∧ Kd.R k30 30 w' w.heap.size (fun _ => True) v1_ r2 ∧ Below w.heap.size w w' := by
  induction k using Nat.strongRecOn with
  | _ k ih =>
  intro a0_0 A0_1 c0_1 l0_1 r1 r2 w hr0_1 hc0_1 h
  cases k with
  | zero => exact absurd h (by simp [soriteslaw06_Of.f])
  | succ k =>
  simp only [soriteslaw06_Of.f] at h
  have hu24 := Try.underlying24
  have hu30 := Try.underlying30
  have HR0_1 := Aside0.mk hr0_1
  have HC0_1 := Aside0.mk hc0_1
  clear hr0_1 hc0_1
  have HB := Aside0.mk (Below.refl w.heap.size w)
  have H : (soriteslaw06_Of.l0 k 0 a0_0 l0_1 a0_0 ([] : List (S30))) = some (r1, r2) := h
  clear h
  have H' := Aside0.mk H
  clear H
  go_enter Try.func22, Try.ntmps22
  go_wp2_with (first | ((with_reducible refine gate_dst (N := 1) rfl ?_); refine box_event ?hg (N := 1) ?hd (cs := #[.int .i64 a0_0, .slice A0_1 l0_1.length c0_1]) (t := 24) ?hr ?_; (case hd => rfl); (case hg => rfl); (case hr => first | (go_simp; done) | (go_simp; rfl)); intro gb117 hg w2 hbox hb; have n0_ := Aside0.mk (below_step (by repeat (first | (with_reducible first | exact HB.out | apply below_alloc | apply pw_below_drewN | apply below_drew1) | exact HB.out)) hb); have n1_ := Aside0.mk (hbox); have n2_ := Aside0.mk ((by rw [hg]; exact (below_size (by repeat (first | (with_reducible first | exact HB.out | apply below_alloc | apply pw_below_drewN | apply below_drew1) | exact HB.out))) : w.heap.size ≤ gb117)); have n3_ := Aside0.mk ((by rw [hg]; exact (below_size (by repeat (first | (with_reducible first | exact HB.out | apply below_alloc | apply pw_below_drewN | apply below_drew1) | exact HB.out))) : w.heap.size ≤ gb117)); clear HB; have HB := n0_; have BK117 := n1_; have GW117 := n2_; have GE117 := n3_; clear n0_ n1_ n2_ n3_; clear hb hbox hg) | ((with_reducible refine gate_dst (N := 2) rfl ?_); refine box_event ?hg (N := 2) ?hd (cs := #[.int .i64 0, .slice none 0 0]) (t := 30) ?hr ?_; (case hd => rfl); (case hg => rfl); (case hr => first | (go_simp; done) | (go_simp; rfl)); intro gb118 hg w3 hbox hb; have n0_ := Aside0.mk (blk_below (g := gb117) (o := .cells #[.int .i64 a0_0, .slice A0_1 l0_1.length c0_1] 24 (0, 0)) (by (with_reducible repeat (first | refine blk_drewN ?_ _ | refine blk_drew ?_ | refine blk_alloc ?_ _)); exact BK117.out) hb); have n1_ := Aside0.mk (below_step (by repeat (first | (with_reducible first | exact HB.out | apply below_alloc | apply pw_below_drewN | apply below_drew1 | refine below_set ?_ GE117.out) | exact HB.out)) hb); have n2_ := Aside0.mk (hbox); have n3_ := Aside0.mk ((by rw [hg]; exact (below_size (by repeat (first | (with_reducible first | exact HB.out | apply below_alloc | apply pw_below_drewN | apply below_drew1 | refine below_set ?_ GE117.out) | exact HB.out))) : w.heap.size ≤ gb118)); have n4_ := Aside0.mk ((by rw [hg]; exact (below_size (by repeat (first | (with_reducible first | exact HB.out | apply below_alloc | apply pw_below_drewN | apply below_drew1 | refine below_set ?_ GE117.out) | exact HB.out))) : w.heap.size ≤ gb118)); have n5_ := Aside0.mk ((by rw [hg]; exact Nat.ne_of_lt (blk_lt (g := gb117) (o := .cells #[.int .i64 a0_0, .slice A0_1 l0_1.length c0_1] 24 (0, 0)) (by (with_reducible repeat (first | refine blk_drewN ?_ _ | refine blk_drew ?_ | refine blk_alloc ?_ _)); exact BK117.out)) : gb117 ≠ gb118)); have n6_ := Aside0.mk ((by rw [hg]; exact Nat.ne_of_gt (blk_lt (g := gb117) (o := .cells #[.int .i64 a0_0, .slice A0_1 l0_1.length c0_1] 24 (0, 0)) (by (with_reducible repeat (first | refine blk_drewN ?_ _ | refine blk_drew ?_ | refine blk_alloc ?_ _)); exact BK117.out)) : gb118 ≠ gb117)); clear BK117; clear HB; have BK117 := n0_; have HB := n1_; have BK118 := n2_; have GW118 := n3_; have GE118 := n4_; have NB117_118 := n5_; have NB118_117 := n6_; clear n0_ n1_ n2_ n3_ n4_ n5_ n6_; clear hb hbox hg; have hnb4 := NB117_118.out; have hnc4 := NB118_117.out; have hcz5_0 : w3.cell? ⟨gb117, 0, none⟩ = some (.int .i64 a0_0) := (blk_cell BK117.out 0).trans rfl; have hcz5_1 : w3.cell? ⟨gb117, 1, none⟩ = some (.slice A0_1 l0_1.length c0_1) := (blk_cell BK117.out 1).trans rfl; have hfz5_0 := blk_frozen BK117.out 0; have hfz5_1 := blk_frozen BK117.out 1) | ((with_reducible refine gate_dst (N := 3) rfl ?_); refine box_event ?hg (N := 3) ?hd (cs := #[.int .i64 0, .slice none 0 0]) (t := 30) ?hr ?_; (case hd => rfl); (case hg => rfl); (case hr => first | (go_simp; done) | (go_simp; rfl)); intro gb119 hg w6 hbox hb; have n0_ := Aside0.mk (blk_below (g := gb117) (o := .cells #[.int .i64 a0_0, .slice A0_1 l0_1.length c0_1] 24 (0, 0)) (by (with_reducible repeat (first | refine blk_drewN ?_ _ | refine blk_drew ?_ | refine blk_alloc ?_ _)); exact BK117.out) hb); have n1_ := Aside0.mk (blk_below (g := gb118) (o := .cells #[.int .i64 0, .slice none 0 0] 30 (0, 0)) (by (with_reducible repeat (first | refine blk_drewN ?_ _ | refine blk_drew ?_ | refine blk_alloc ?_ _)); exact BK118.out) hb); have n2_ := Aside0.mk (below_step (by repeat (first | (with_reducible first | exact HB.out | apply below_alloc | apply pw_below_drewN | apply below_drew1 | refine below_set ?_ GE117.out | refine below_set ?_ GE118.out) | exact HB.out)) hb); have n3_ := Aside0.mk (hbox); have n4_ := Aside0.mk ((by rw [hg]; exact (below_size (by repeat (first | (with_reducible first | exact HB.out | apply below_alloc | apply pw_below_drewN | apply below_drew1 | refine below_set ?_ GE117.out | refine below_set ?_ GE118.out) | exact HB.out))) : w.heap.size ≤ gb119)); have n5_ := Aside0.mk ((by rw [hg]; exact (below_size (by repeat (first | (with_reducible first | exact HB.out | apply below_alloc | apply pw_below_drewN | apply below_drew1 | refine below_set ?_ GE117.out | refine below_set ?_ GE118.out) | exact HB.out))) : w.heap.size ≤ gb119)); have n6_ := Aside0.mk ((by rw [hg]; exact Nat.ne_of_lt (blk_lt (g := gb117) (o := .cells #[.int .i64 a0_0, .slice A0_1 l0_1.length c0_1] 24 (0, 0)) (by (with_reducible repeat (first | refine blk_drewN ?_ _ | refine blk_drew ?_ | refine blk_alloc ?_ _)); exact BK117.out)) : gb117 ≠ gb119)); have n7_ := Aside0.mk ((by rw [hg]; exact Nat.ne_of_gt (blk_lt (g := gb117) (o := .cells #[.int .i64 a0_0, .slice A0_1 l0_1.length c0_1] 24 (0, 0)) (by (with_reducible repeat (first | refine blk_drewN ?_ _ | refine blk_drew ?_ | refine blk_alloc ?_ _)); exact BK117.out)) : gb119 ≠ gb117)); have n8_ := Aside0.mk ((by rw [hg]; exact Nat.ne_of_lt (blk_lt (g := gb118) (o := .cells #[.int .i64 0, .slice none 0 0] 30 (0, 0)) (by (with_reducible repeat (first | refine blk_drewN ?_ _ | refine blk_drew ?_ | refine blk_alloc ?_ _)); exact BK118.out)) : gb118 ≠ gb119)); have n9_ := Aside0.mk ((by rw [hg]; exact Nat.ne_of_gt (blk_lt (g := gb118) (o := .cells #[.int .i64 0, .slice none 0 0] 30 (0, 0)) (by (with_reducible repeat (first | refine blk_drewN ?_ _ | refine blk_drew ?_ | refine blk_alloc ?_ _)); exact BK118.out)) : gb119 ≠ gb118)); clear BK117; clear BK118; clear HB; have BK117 := n0_; have BK118 := n1_; have HB := n2_; have BK119 := n3_; have GW119 := n4_; have GE119 := n5_; have NB117_119 := n6_; have NB119_117 := n7_; have NB118_119 := n8_; have NB119_118 := n9_; clear n0_ n1_ n2_ n3_ n4_ n5_ n6_ n7_ n8_ n9_; clear hb hbox hg; have hnb7 := NB119_117.out; have hnc7 := NB117_119.out; have hnb8 := NB119_118.out; have hnc8 := NB118_119.out; have hcz9_0 : w6.cell? ⟨gb119, 0, none⟩ = some (.int .i64 0) := (blk_cell BK119.out 0).trans rfl; have hcz9_1 : w6.cell? ⟨gb119, 1, none⟩ = some (.slice none 0 0) := (blk_cell BK119.out 1).trans rfl; have hfz9_0 := blk_frozen BK119.out 0; have hfz9_1 := blk_frozen BK119.out 1))
  go_loopg [4] k (fun kq v4 w' => ∃ (x4_1 : Int) (x120001_1 : List (S30)) (u120001 : Value), v4 = .int .i64 x4_1 ∧ Aside0 (soriteslaw06_Of.l0 kq x4_1 a0_0 l0_1 a0_0 x120001_1 = some (r1, r2)) ∧ Aside0 (kq ≤ k) ∧ Aside0 (Kd.R k30 30 w' w.heap.size (fun k_ => k_ ≠ gb118 ∧ k_ ≠ gb119) u120001 x120001_1) ∧ Aside0 (w'.heap[gb117]? = some (.cells #[.int .i64 a0_0, (.slice A0_1 l0_1.length c0_1)] 24 (0, 0))) ∧ Aside0 (w'.heap[gb118]? = some (.cells #[.int .i64 0, (.slice none 0 0)] 30 (0, 0))) ∧ Aside0 (w'.heap[gb119]? = some (.cells #[.int .i64 a0_0, u120001] 30 (0, 0))) ∧ Aside0 (Below w.heap.size w w'))
  case atStart => exact ⟨(0), (([] : List (S30))), (.slice none 0 0), (by first | rfl | (simp; done) | (simp [*]; done)), H', ⟨Nat.le_refl _⟩, ⟨by first | exact Kd.R_nil _ _ _ _ _ | exact Kd.N_nil _ _ _ _ _ | exact Kd.V_nil _ _ _ _ _ | exact Kd.Q_nil _ _ _ _ _ | exact Kd.S_nil _ _ _ _ _⟩, ⟨by (with_reducible repeat (first | refine blk_drewN ?_ _ | refine blk_drew ?_ | refine blk_alloc ?_ _)); refine blk_far ?_ NB117_119.out _; (with_reducible repeat (first | refine blk_drewN ?_ _ | refine blk_drew ?_ | refine blk_alloc ?_ _)); refine blk_far ?_ NB117_119.out _; (with_reducible repeat (first | refine blk_drewN ?_ _ | refine blk_drew ?_ | refine blk_alloc ?_ _)); exact BK117.out⟩, ⟨by (with_reducible repeat (first | refine blk_drewN ?_ _ | refine blk_drew ?_ | refine blk_alloc ?_ _)); refine blk_far ?_ NB118_119.out _; (with_reducible repeat (first | refine blk_drewN ?_ _ | refine blk_drew ?_ | refine blk_alloc ?_ _)); refine blk_far ?_ NB118_119.out _; (with_reducible repeat (first | refine blk_drewN ?_ _ | refine blk_drew ?_ | refine blk_alloc ?_ _)); exact BK118.out⟩, ⟨by (with_reducible repeat (first | refine blk_drewN ?_ _ | refine blk_drew ?_ | refine blk_alloc ?_ _)); refine blk_put (cs := #[.int .i64 a0_0, .slice none 0 0]) ?_ 1 _ rfl; (with_reducible repeat (first | refine blk_drewN ?_ _ | refine blk_drew ?_ | refine blk_alloc ?_ _)); refine blk_put (cs := #[.int .i64 0, .slice none 0 0]) ?_ 0 _ rfl; (with_reducible repeat (first | refine blk_drewN ?_ _ | refine blk_drew ?_ | refine blk_alloc ?_ _)); exact BK119.out⟩, ⟨by repeat (first | (with_reducible first | exact HB.out | apply below_alloc | apply pw_below_drewN | apply below_drew1 | refine below_set ?_ GE117.out | refine below_set ?_ GE118.out | refine below_set ?_ GE119.out) | exact HB.out)⟩⟩
  case round =>
    clear H'
    try clear c2
    try clear p2
    try clear c4
    try clear c7
    try clear c8
    try clear hcz5_0
    try clear hcz5_1
    try clear hcz9_0
    try clear hcz9_1
    try clear hfz5_0
    try clear hfz5_1
    try clear hfz9_0
    try clear hfz9_1
    obtain ⟨x4_1, x120001_1, u120001, rfl, HA, HK1, HO_120001, BK117, BK118, BK119, HB⟩ := hrel
    cases gk with
    | zero => exact absurd HA.out (by simp [soriteslaw06_Of.l0])
    | succ k1 =>
      have H := HA.out
      clear HA
      simp only [soriteslaw06_Of.l0] at H
      by_cases c10 : x4_1 < (l0_1.length : Int)
      · rw [if_pos c10] at H
        have c10b0 : decide (x4_1 < (l0_1.length : Int)) = true := decide_eq_true c10
        clear c10
        by_cases c11 : 0 ≤ x4_1
        · rw [if_pos c11] at H
          have c11b0 : decide (0 ≤ x4_1) = true := decide_eq_true c11
          clear c11
          replace H := Option.bind_eq_some_iff.mp H
          obtain ⟨⟨t121, t122⟩, A120, H⟩ := H
          replace H : (if x120001_1.length < 4398046511104 then (soriteslaw06_Of.l0 k1 (wrap64 (x4_1 + 1)) a0_0 l0_1 a0_0 (x120001_1 ++ [(⟨t121, t122⟩ : S30)])) else (none)) = some (r1, r2) := H
          have A12 := Aside0.mk A120
          clear A120
          by_cases c13 : x120001_1.length < 4398046511104
          · rw [if_pos c13] at H
            have LMc13 := Aside0.mk c13
            clear c13
            obtain ⟨y125, hy125⟩ : ∃ y_ : List (S30), y_ = (x120001_1 ++ [(⟨t121, t122⟩ : S30)]) := ⟨_, rfl⟩
            replace H : (soriteslaw06_Of.l0 k1 (wrap64 (x4_1 + 1)) a0_0 l0_1 a0_0 y125) = some (r1, r2) := by first | (rw [hy125]; with_reducible exact H) | (have H2_ := (Option.bind_some _ _).symm.trans H; rw [hy125]; with_reducible exact H2_) | (have H2_ := (Option.bind_some _ _).symm.trans H; with_reducible exact H2_) | with_reducible exact H | (rw [hy125]; exact H) | exact H
            have Ny125 := Aside0.mk hy125
            clear hy125
            have H' := Aside0.mk H
            clear H
            have hnb14 := NB117_118.out
            have hnc14 := NB118_117.out
            have hnb15 := NB117_119.out
            have hnc15 := NB119_117.out
            have hcz16_0 : wr.cell? ⟨gb117, 0, none⟩ = some (.int .i64 a0_0) := (blk_cell BK117.out 0).trans rfl
            have hcz16_1 : wr.cell? ⟨gb117, 1, none⟩ = some (.slice A0_1 l0_1.length c0_1) := (blk_cell BK117.out 1).trans rfl
            have hfz16_0 := blk_frozen BK117.out 0
            have hfz16_1 := blk_frozen BK117.out 1
            try go_wp2
            have n0_ := Aside0.mk (Kd.R_drew HO_120001.out)
            have n1_ := Aside0.mk (blk_drew BK117.out)
            have n2_ := Aside0.mk (blk_drew BK118.out)
            have n3_ := Aside0.mk (blk_drew BK119.out)
            have n4_ := Aside0.mk (below_drew1 HB.out)
            clear HO_120001
            clear BK117
            clear BK118
            clear BK119
            clear HB
            have HO_120001 := n0_
            have BK117 := n1_
            have BK118 := n2_
            have BK119 := n3_
            have HB := n4_
            clear n0_ n1_ n2_ n3_ n4_
            have p120 : 0 ≤ (x4_1 : Int) := of_decide_eq_true (by first | (with_reducible assumption) | assumption)
            have q120 : x4_1 < (l0_1.length : Int) := of_decide_eq_true (by first | (with_reducible assumption) | assumption)
            obtain ⟨ad120, A120_1, c120_1, e120, hx120_0, hx120_1, hl120_1, hi120_1⟩ := at_T24 HR0_1.out x4_1 p120 q120
            have hw120_1 := hx120_1
            have hw120_0 := hx120_0
            cases e120
            replace hx120_0 := (HB.out.cell (World.block_lt_of_cell? w _ hx120_0)).trans hx120_0
            replace hx120_1 := (HB.out.cell (World.block_lt_of_cell? w _ hx120_1)).trans hx120_1
            have HR120_1 := Aside0.mk hi120_1
            have HC120_1 := Aside0.mk hl120_1
            clear hi120_1 hl120_1
            replace p120 := eq_true p120
            replace q120 := eq_true q120
            refine start_ (n := 12) (S := fun w' => w'.cell? ⟨gb119, 0, none⟩ = some (.int .i64 a0_0) ∧ w'.cell? ⟨gb119, 1, none⟩ = some (u120001) ∧ w'.cell? ⟨gb117, 0, none⟩ = some (.int .i64 a0_0) ∧ w'.cell? ⟨gb117, 1, none⟩ = some (.slice (some ad120) l0_1.length c0_1) ∧ w'.cell? (ad120.add ((x4_1).toNat * 2)) = some (.int .i64 ((rd_T24 l0_1 x4_1).f0)) ∧ w'.cell? ⟨(ad120.add ((x4_1).toNat * 2)).block, (ad120.add ((x4_1).toNat * 2)).off + 1, none⟩ = some (.slice A120_1 ((rd_T24 l0_1 x4_1).f1).length c120_1)) (ds := [11]) #[false, false, false, false, false, false, false, false, false, false, false, false] (by kernel_rfl) rfl rfl ⟨(blk_cell BK119.out 0).trans rfl, (blk_cell BK119.out 1).trans rfl, (blk_cell BK117.out 0).trans rfl, (blk_cell BK117.out 1).trans rfl, ((HB.out.cell (World.block_lt_of_cell? w _ hw120_0)).trans hw120_0), ((HB.out.cell (World.block_lt_of_cell? w _ hw120_1)).trans hw120_1)⟩ (fun hHeld => ?_); refine with_tabW soriteslaw06_Of.tab5 soriteslaw06_Of.bits5 (fun HT_ HW_ => ?_)
            generalize wr.drew = w17 at HO_120001 BK117 BK118 BK119 HB HR120_1 hx120_0 hx120_1 hHeld ⊢
            refine pure_ (i := 0) (N := some 15) (v := ?_) (a' := ?_) #[true, false, false, false, false, false, false, false, false, false, false, false] rfl rfl (any_of HT_.out (by kernel_rfl)) (fun _ _ _ h => h) (Or.inl ⟨by rfl, ?_⟩) ?_ ?_
            rotate_left
            · intro w'
              go_simp
              with_reducible rfl
            rotate_left
            · simp only [Act.put, List.setIfInBounds_toArray, List.set_cons_zero, List.set_cons_succ, i64_w, i32_w]
              rfl
            refine pure_ (i := 2) (N := some 17) (v := ?_) (a' := ?_) #[true, false, true, false, false, false, false, false, false, false, false, false] rfl rfl (any_of HT_.out (by kernel_rfl)) (fun _ _ _ h => h) (Or.inl ⟨by rfl, ?_⟩) ?_ ?_
            rotate_left
            · intro w'
              go_simp
              with_reducible rfl
            rotate_left
            · simp only [Act.put, List.setIfInBounds_toArray, List.set_cons_zero, List.set_cons_succ, i64_w, i32_w]
              rfl
            refine pure_ (i := 4) (N := some 19) (v := ?_) (a' := ?_) #[true, false, true, false, true, false, false, false, false, false, false, false] rfl rfl (any_of HT_.out (by kernel_rfl)) (fun _ _ _ h => h) (Or.inl ⟨by rfl, ?_⟩) ?_ ?_
            rotate_left
            · intro w'
              go_simp
              with_reducible rfl
            rotate_left
            · simp only [Act.put, List.setIfInBounds_toArray, List.set_cons_zero, List.set_cons_succ, i64_w, i32_w]
              rfl
            refine take_ (i := 1) (N := some 16) (v := ?_) (a' := ?_) #[true, true, true, false, true, false, false, false, false, false, false, false] rfl rfl (take_ofW HT_.out HW_.out (by kernel_rfl)) (fun _ _ _ h => h) (Or.inl ⟨by rfl, ?_⟩) hHeld ?_ ?_
            rotate_left
            · rintro w' ⟨s0, s1, s2, s3, s4, s5⟩
              go_simp
              with_reducible rfl
            rotate_left
            · simp only [Act.put, List.setIfInBounds_toArray, List.set_cons_zero, List.set_cons_succ, i64_w, i32_w]
              rfl
            refine take_ (i := 3) (N := some 18) (v := ?_) (a' := ?_) #[true, true, true, true, true, false, false, false, false, false, false, false] rfl rfl (take_ofW HT_.out HW_.out (by kernel_rfl)) (fun _ _ _ h => h) (Or.inl ⟨by rfl, ?_⟩) hHeld ?_ ?_
            rotate_left
            · rintro w' ⟨s0, s1, s2, s3, s4, s5⟩
              go_simp
              with_reducible rfl
            rotate_left
            · simp only [Act.put, List.setIfInBounds_toArray, List.set_cons_zero, List.set_cons_succ, i64_w, i32_w]
              rfl
            refine pure_ (i := 5) (N := some 20) (v := ?_) (a' := ?_) #[true, true, true, true, true, true, false, false, false, false, false, false] rfl rfl (any_of HT_.out (by kernel_rfl)) (fun _ _ _ h => h) (Or.inl ⟨by rfl, ?_⟩) ?_ ?_
            rotate_left
            · intro w'
              go_simp
              with_reducible rfl
            rotate_left
            · simp only [Act.put, List.setIfInBounds_toArray, List.set_cons_zero, List.set_cons_succ, i64_w, i32_w]
              rfl
            refine take_ (i := 6) (N := some 21) (v := ?_) (a' := ?_) #[true, true, true, true, true, true, true, false, false, false, false, false] rfl rfl (take_ofW HT_.out HW_.out (by kernel_rfl)) (fun _ _ _ h => h) (Or.inl ⟨by rfl, ?_⟩) hHeld ?_ ?_
            rotate_left
            · rintro w' ⟨s0, s1, s2, s3, s4, s5⟩
              go_simp
              with_reducible rfl
            rotate_left
            · simp only [Act.put, List.setIfInBounds_toArray, List.set_cons_zero, List.set_cons_succ, i64_w, i32_w]
              rfl
            refine one_ (i := 7) (N := some 22) #[true, true, true, true, true, true, true, true, false, false, false, false] rfl rfl (one_of HT_.out (by kernel_rfl)) (by decide) (fun K hK => ?_)
            refine goes_ Try.func22 (by kernel_rfl) rfl #[.agg #[.int .i64 ((rd_T24 l0_1 x4_1).f0), .slice A120_1 ((rd_T24 l0_1 x4_1).f1).length c120_1]] (by rfl) rfl rfl (by (try simp only [List.map_toArray, List.map_cons, List.map_nil]); first | done | rfl | (simp only [List.length_drop, List.length_take]; rfl)) ?_
            with_reducible refine (ih k1 (by have := HK1.out; omega) ((rd_T24 l0_1 x4_1).f0) _ _ ((rd_T24 l0_1 x4_1).f1) t121 t122 _ ?side1 ?side2 A12.out).mono ?_
            (case side1 => repeat (first | exact (Kd.C_below HR120_1.out HB.out) | (with_reducible refine Kd.C_alloc ?_ _) | (with_reducible refine Kd.C_drewN ?_ _) | (with_reducible refine Kd.C_drew ?_)))
            (case side2 => exact HC120_1.out)
            rintro e w18 ⟨v123, rfl, ho0, hb⟩
            refine ⟨_, rfl, ?_⟩
            have n0_ := Aside0.mk (Kd.R_elder' (by (with_reducible repeat (first | apply Kd.R_alloc | apply Kd.R_drewN | apply Kd.R_drew)); exact HO_120001.out) (Kd.R_base ho0) hb)
            have n1_ := Aside0.mk (Kd.R_lower (Kd.R_newB (Kd.R_newB (Kd.R_new' ho0 (Kd.R_lt (by (with_reducible repeat (first | apply Kd.R_alloc | apply Kd.R_drewN | apply Kd.R_drew)); exact HO_120001.out))) (g := gb118) (o := .cells #[.int .i64 0, .slice none 0 0] 30 (0, 0)) (by (with_reducible repeat (first | refine blk_drewN ?_ _ | refine blk_drew ?_ | refine blk_alloc ?_ _)); exact BK118.out)) (g := gb119) (o := .cells #[.int .i64 a0_0, u120001] 30 (0, 0)) (by (with_reducible repeat (first | refine blk_drewN ?_ _ | refine blk_drew ?_ | refine blk_alloc ?_ _)); exact BK119.out)) (below_size (by repeat (first | (with_reducible first | exact HB.out | apply below_alloc | apply pw_below_drewN | apply below_drew1 | refine below_set ?_ GE117.out | refine below_set ?_ GE118.out | refine below_set ?_ GE119.out) | exact HB.out))))
            have n2_ := Aside0.mk (blk_below (g := gb117) (o := .cells #[.int .i64 a0_0, .slice (some ad120) l0_1.length c0_1] 24 (0, 0)) (by (with_reducible repeat (first | refine blk_drewN ?_ _ | refine blk_drew ?_ | refine blk_alloc ?_ _)); exact BK117.out) hb)
            have n3_ := Aside0.mk (blk_below (g := gb118) (o := .cells #[.int .i64 0, .slice none 0 0] 30 (0, 0)) (by (with_reducible repeat (first | refine blk_drewN ?_ _ | refine blk_drew ?_ | refine blk_alloc ?_ _)); exact BK118.out) hb)
            have n4_ := Aside0.mk (blk_below (g := gb119) (o := .cells #[.int .i64 a0_0, u120001] 30 (0, 0)) (by (with_reducible repeat (first | refine blk_drewN ?_ _ | refine blk_drew ?_ | refine blk_alloc ?_ _)); exact BK119.out) hb)
            have n5_ := Aside0.mk (below_step (by repeat (first | (with_reducible first | exact HB.out | apply below_alloc | apply pw_below_drewN | apply below_drew1 | refine below_set ?_ GE117.out | refine below_set ?_ GE118.out | refine below_set ?_ GE119.out) | exact HB.out)) hb)
            clear HO_120001
            clear BK117
            clear BK118
            clear BK119
            clear HB
            have HO_120001 := n0_
            have HO124 := n1_
            have BK117 := n2_
            have BK118 := n3_
            have BK119 := n4_
            have HB := n5_
            clear n0_ n1_ n2_ n3_ n4_ n5_
            (try clear hb)
            (try clear hb2)
            (try clear hk)
            (try clear hi)
            (try clear ho0)
            obtain ⟨Ao20, co20, eo20⟩ := Kd.R_slice HO124.out
            (first | subst eo20 | (injection eo20 with f1_ f2_ f3_; have f4_ := f1_.symm; have f5_ := f3_.symm; clear f1_ f2_ f3_; subst f4_; subst f5_))
            refine hK.out _ _ ⟨(blk_cell BK119.out 0).trans rfl, (blk_cell BK119.out 1).trans rfl, (blk_cell BK117.out 0).trans rfl, (blk_cell BK117.out 1).trans rfl, ((HB.out.cell (World.block_lt_of_cell? w _ hw120_0)).trans hw120_0), ((HB.out.cell (World.block_lt_of_cell? w _ hw120_1)).trans hw120_1)⟩ (fun hHeld => ?_)
            clear hK K
            refine norm_ (a' := ?_) ?_ ?_
            rotate_left
            · show Act.put _ (some 22) _ = _
              simp only [Act.put, List.setIfInBounds_toArray, List.set_cons_zero, List.set_cons_succ, i64_w, i32_w]
              rfl
            refine one_ (i := 8) (N := some 23) #[true, true, true, true, true, true, true, true, true, false, false, false] rfl rfl (one_of HT_.out (by kernel_rfl)) (by decide) (fun K hK => ?_)
            refine value_ (w1 := ?_) (v := ?_) (by rfl) rfl ?_ ?_
            rotate_left 2
            · go_simp
              constructor
              · rfl
              · rfl
            refine hK.out _ _ ⟨(blk_cell (blk_alloc BK119.out _) 0).trans rfl, (blk_cell (blk_alloc BK119.out _) 1).trans rfl, (blk_cell (blk_alloc BK117.out _) 0).trans rfl, (blk_cell (blk_alloc BK117.out _) 1).trans rfl, (World.cell?_alloc_lt _ _ _ (World.block_lt_of_cell? _ _ (((HB.out.cell (World.block_lt_of_cell? w _ hw120_0)).trans hw120_0)))).trans (((HB.out.cell (World.block_lt_of_cell? w _ hw120_0)).trans hw120_0)), (World.cell?_alloc_lt _ _ _ (World.block_lt_of_cell? _ _ (((HB.out.cell (World.block_lt_of_cell? w _ hw120_1)).trans hw120_1)))).trans (((HB.out.cell (World.block_lt_of_cell? w _ hw120_1)).trans hw120_1))⟩ (fun hHeld => ?_)
            clear hK K
            refine norm_ (a' := ?_) ?_ ?_
            rotate_left
            · show Act.put _ (some 23) _ = _
              simp only [Act.put, List.setIfInBounds_toArray, List.set_cons_zero, List.set_cons_succ, i64_w, i32_w]
              rfl
            refine one_ (i := 9) (N := some 24) #[true, true, true, true, true, true, true, true, true, true, false, false] rfl rfl (one_of HT_.out (by kernel_rfl)) (by decide) (fun K hK => ?_)
            refine Kd.R_append_step k30 (w0 := w) w.heap.size (by rfl) (.tmp 16) (.tmp 23) 28 30 (.agg #[(.int .i64 0), (.slice none 0 0)]) 32 rfl Try.underlying28 info30 rfl (by decide) (by omega) u120001 x120001_1 (⟨t121, t122⟩ : S30) [.int .i64 t121, .slice Ao20 t122.length co20] (fun k_ => k_ ≠ gb118 ∧ k_ ≠ gb119) (fun k_ => ((fun k_ => k_ ≠ gb118 ∧ k_ ≠ gb119)) k_ ∧ some k_ ≠ (u120001 : Value).ownBlock) rfl rfl ?aP (fun _ hk => hk) ?aF ?aO ?aB ?aS ?aL ?_
            (case aP => exact k30_mkM _ _ _ (⟨t121, t122⟩ : S30) (Kd.R_mono (HO124.out) (fun k_ hk => ⟨⟨hk.1.2, hk.2⟩, hk.1.1.2⟩)))
            (case aB => exact (by repeat (first | (with_reducible first | exact HB.out | apply below_alloc | apply pw_below_drewN | apply below_drew1 | refine below_set ?_ GE117.out | refine below_set ?_ GE118.out | refine below_set ?_ GE119.out) | exact HB.out)))
            (case aF => exact (fun k_ hk => ⟨Kd.freshB (g := gb118) (o := .cells #[.int .i64 0, .slice none 0 0] 30 (0, 0)) (by (with_reducible repeat (first | refine blk_drewN ?_ _ | refine blk_drew ?_ | refine blk_alloc ?_ _)); exact BK118.out) k_ hk, Kd.freshB (g := gb119) (o := .cells #[.int .i64 a0_0, u120001] 30 (0, 0)) (by (with_reducible repeat (first | refine blk_drewN ?_ _ | refine blk_drew ?_ | refine blk_alloc ?_ _)); exact BK119.out) k_ hk⟩))
            (case aO => exact (by (with_reducible repeat (first | apply Kd.R_alloc | apply Kd.R_drewN | apply Kd.R_drew)); exact Kd.R_mono HO_120001.out (fun _ hk => ⟨hk.1.1, hk.1.2⟩)))
            (case aS => exact (below_size (by repeat (first | (with_reducible first | exact HB.out | apply below_alloc | apply pw_below_drewN | apply below_drew1 | refine below_set ?_ GE117.out | refine below_set ?_ GE118.out | refine below_set ?_ GE119.out) | exact HB.out))))
            (case aL => have := LMc13.out; omega)
            intro v126 w19 ho hb hg hat
            rw [← Ny125.out] at ho
            have n0_ := Aside0.mk (blk_grown (g := gb117) (o := .cells #[.int .i64 a0_0, .slice (some ad120) l0_1.length c0_1] 24 (0, 0)) (by (with_reducible repeat (first | refine blk_drewN ?_ _ | refine blk_drew ?_ | refine blk_alloc ?_ _)); exact BK117.out) hg (Kd.R_ne HO_120001.out BK117.out (by decide)))
            have n1_ := Aside0.mk (blk_grown (g := gb118) (o := .cells #[.int .i64 0, .slice none 0 0] 30 (0, 0)) (by (with_reducible repeat (first | refine blk_drewN ?_ _ | refine blk_drew ?_ | refine blk_alloc ?_ _)); exact BK118.out) hg (Kd.R_away HO_120001.out (fun _ hk => hk.1.1)))
            have n2_ := Aside0.mk (blk_grown (g := gb119) (o := .cells #[.int .i64 a0_0, u120001] 30 (0, 0)) (by (with_reducible repeat (first | refine blk_drewN ?_ _ | refine blk_drew ?_ | refine blk_alloc ?_ _)); exact BK119.out) hg (Kd.R_away HO_120001.out (fun _ hk => hk.1.2)))
            have n3_ := Aside0.mk (hb)
            have n4_ := Aside0.mk (ho)
            clear BK117
            clear BK118
            clear BK119
            clear HB
            clear HO_120001
            clear HO124
            have BK117 := n0_
            have BK118 := n1_
            have BK119 := n2_
            have HB := n3_
            have HO127 := n4_
            clear n0_ n1_ n2_ n3_ n4_
            clear ho hb hg hat
            obtain ⟨Ao21, co21, eo21⟩ := Kd.R_slice HO127.out
            (first | subst eo21 | (injection eo21 with f1_ f2_ f3_; have f4_ := f1_.symm; have f5_ := f3_.symm; clear f1_ f2_ f3_; subst f4_; subst f5_))
            refine hK.out _ _ ⟨(blk_cell BK119.out 0).trans rfl, (blk_cell BK119.out 1).trans rfl, (blk_cell BK117.out 0).trans rfl, (blk_cell BK117.out 1).trans rfl, ((HB.out.cell (World.block_lt_of_cell? w _ hw120_0)).trans hw120_0), ((HB.out.cell (World.block_lt_of_cell? w _ hw120_1)).trans hw120_1)⟩ (fun hHeld => ?_)
            clear hK K
            refine norm_ (a' := ?_) ?_ ?_
            rotate_left
            · show Act.put _ (some 24) _ = _
              simp only [Act.put, List.setIfInBounds_toArray, List.set_cons_zero, List.set_cons_succ, i64_w, i32_w]
              rfl
            refine pure_ (i := 10) (N := some 25) (v := ?_) (a' := ?_) #[true, true, true, true, true, true, true, true, true, true, true, false] rfl rfl (any_of HT_.out (by kernel_rfl)) (fun _ _ _ h => h) (Or.inl ⟨by rfl, ?_⟩) ?_ ?_
            rotate_left
            · intro w'
              go_simp
              with_reducible rfl
            rotate_left
            · simp only [Act.put, List.setIfInBounds_toArray, List.set_cons_zero, List.set_cons_succ, i64_w, i32_w]
              rfl
            refine last_ (i := 11) (N := none) #[true, true, true, true, true, true, true, true, true, true, true, true] rfl rfl (one_of HT_.out (by kernel_rfl)) (by decide) (fun K hK => ?_)
            have hs22 : w19.cell? ⟨gb119, 1, none⟩ = some (u120001) := (blk_cell BK119.out 1).trans rfl
            have hfs22 := blk_frozen BK119.out 1
            have hns22_0 := NB117_119.out
            have hns22_1 := NB118_119.out
            have hms22_0 := NB119_117.out
            have hms22_1 := NB119_118.out
            refine skip_ (w1 := ?_) (by rfl) rfl ?_ ?_
            rotate_left
            · go_simp
              rfl
            refine hK.out _ _ ?_
            clear hK K
            refine done_ (done_of HT_.out (by kernel_rfl)) ?_
            try go_wp2
            go_roundg k1
            case measure => have := HK1.out; omega
            case rel => exact ⟨(wrap64 (x4_1 + 1)), (y125), (.slice Ao21 y125.length co21), (by first | rfl | (simp; done) | (simp [*]; done)), H', ⟨by have := HK1.out; omega⟩, ⟨by (with_reducible repeat (first | apply Kd.R_alloc | apply Kd.R_drewN | apply Kd.R_drew)); exact Kd.R_mono (Kd.R_far (p := ⟨gb119, 1, none⟩) (Kd.R_mono HO127.out (fun k_ hk => (⟨hk, hk.2⟩ : _ ∧ k_ ≠ gb119))) (fun _ hk => hk.2) (.slice Ao21 y125.length co21)) (fun _ hk => ⟨hk.1.1, hk.1.2⟩)⟩, ⟨by (with_reducible repeat (first | refine blk_drewN ?_ _ | refine blk_drew ?_ | refine blk_alloc ?_ _)); refine blk_far ?_ NB117_119.out _; (with_reducible repeat (first | refine blk_drewN ?_ _ | refine blk_drew ?_ | refine blk_alloc ?_ _)); exact BK117.out⟩, ⟨by (with_reducible repeat (first | refine blk_drewN ?_ _ | refine blk_drew ?_ | refine blk_alloc ?_ _)); refine blk_far ?_ NB118_119.out _; (with_reducible repeat (first | refine blk_drewN ?_ _ | refine blk_drew ?_ | refine blk_alloc ?_ _)); exact BK118.out⟩, ⟨by (with_reducible repeat (first | refine blk_drewN ?_ _ | refine blk_drew ?_ | refine blk_alloc ?_ _)); refine blk_put (cs := #[.int .i64 a0_0, u120001]) ?_ 1 _ rfl; (with_reducible repeat (first | refine blk_drewN ?_ _ | refine blk_drew ?_ | refine blk_alloc ?_ _)); exact BK119.out⟩, ⟨by repeat (first | (with_reducible first | exact HB.out | apply below_alloc | apply pw_below_drewN | apply below_drew1 | refine below_set ?_ GE117.out | refine below_set ?_ GE118.out | refine below_set ?_ GE119.out) | exact HB.out)⟩⟩
          · rw [if_neg c13] at H
            exact absurd H (by simp)
        · rw [if_neg c11] at H
          exact absurd H (by simp)
      · rw [if_neg c10] at H
        have c10b0 : decide (x4_1 < (l0_1.length : Int)) = false := decide_eq_false c10
        clear c10
        simp only [Option.some.injEq, Prod.mk.injEq] at H
        obtain ⟨rfl, rfl⟩ := H
        have hnb23 := NB117_118.out
        have hnc23 := NB118_117.out
        have hnb24 := NB117_119.out
        have hnc24 := NB119_117.out
        have hcz25_0 : wr.cell? ⟨gb117, 0, none⟩ = some (.int .i64 a0_0) := (blk_cell BK117.out 0).trans rfl
        have hcz25_1 : wr.cell? ⟨gb117, 1, none⟩ = some (.slice A0_1 l0_1.length c0_1) := (blk_cell BK117.out 1).trans rfl
        have hfz25_0 := blk_frozen BK117.out 0
        have hfz25_1 := blk_frozen BK117.out 1
        have hnb26 := NB119_118.out
        have hnc26 := NB118_119.out
        have hcz27_0 : wr.cell? ⟨gb119, 0, none⟩ = some (.int .i64 a0_0) := (blk_cell BK119.out 0).trans rfl
        have hcz27_1 : wr.cell? ⟨gb119, 1, none⟩ = some (u120001) := (blk_cell BK119.out 1).trans rfl
        have hfz27_0 := blk_frozen BK119.out 0
        have hfz27_1 := blk_frozen BK119.out 1
        have hcz28_0 : wr.cell? ⟨gb118, 0, none⟩ = some (.int .i64 0) := (blk_cell BK118.out 0).trans rfl
        have hcz28_1 : wr.cell? ⟨gb118, 1, none⟩ = some (.slice none 0 0) := (blk_cell BK118.out 1).trans rfl
        have hfz28_0 := blk_frozen BK118.out 0
        have hfz28_1 := blk_frozen BK118.out 1
        obtain ⟨Ao29, co29, eo29⟩ := Kd.R_slice HO_120001.out
        subst eo29
        go_wp2
        refine bodyPost_ret (results_cell_row rfl _ _ gb118 30 #[.int .i64 a0_0, .slice Ao29 x120001_1.length co29] (0, 0) _ rfl (by (with_reducible repeat (first | refine blk_drewN ?_ _ | refine blk_drew ?_ | refine blk_alloc ?_ _)); refine blk_put (cs := #[.int .i64 a0_0, .slice none 0 0]) ?_ 1 _ rfl; (with_reducible repeat (first | refine blk_drewN ?_ _ | refine blk_drew ?_ | refine blk_alloc ?_ _)); refine blk_put (cs := #[.int .i64 0, .slice none 0 0]) ?_ 0 _ rfl; (with_reducible repeat (first | refine blk_drewN ?_ _ | refine blk_drew ?_ | refine blk_alloc ?_ _)); exact BK118.out) Try.underlying30 rfl (by kernel_rfl)) rfl ?_
        exact ⟨_, by first | rfl | (simp [errW_none, errW_some] <;> rfl) | (simp [*, errW_none, errW_some] <;> rfl), by (with_reducible repeat (first | apply Kd.R_alloc | apply Kd.R_drewN | apply Kd.R_drew)); exact Kd.R_mono (Kd.R_far (p := ⟨gb118, 1, none⟩) (Kd.R_far (p := ⟨gb118, 0, none⟩) (Kd.R_mono HO_120001.out (fun k_ hk => (⟨hk, hk.1⟩ : _ ∧ k_ ≠ gb118))) (fun _ hk => hk.2) (.int .i64 a0_0)) (fun _ hk => hk.2) (.slice Ao29 x120001_1.length co29)) (fun _ hk => trivial), by repeat (first | (with_reducible first | exact HB.out | apply below_alloc | apply pw_below_drewN | apply below_drew1 | refine below_set ?_ GE117.out | refine below_set ?_ GE118.out | refine below_set ?_ GE119.out) | exact HB.out)⟩
end Go.Proofs.Ytpfddihcikiofaa.P
end
section
namespace Go.Proofs.Ytpfddihcikiofaa.P
open Go.RowKit Go.Proofs.YtpfddihcikiofaaW.PrintWords Go.Proofs.YtpfddihcikiofaaW.PrintLast Go.Proofs.YtpfddihcikiofaaW.PrintMore
set_option linter.unusedVariables false
set_option linter.unusedSimpArgs false
mutual
def wt : S30 → Nat
  | ⟨_, l⟩ => 1 + wts l
def wts : List S30 → Nat
  | [] => 0
  | x :: r => wt x + wts r
end
mutual
def ok : S30 → Prop
  | ⟨f, l⟩ => -1000 ≤ f ∧ f ≤ 1000 ∧ l.length ≤ 20 ∧ oks l
def oks : List S30 → Prop
  | [] => True
  | x :: r => ok x ∧ oks r
end
theorem oks_mem {l : List S30} (h : oks l) : ∀ x ∈ l, ok x := by
  induction l with
  | nil => intro x hx; cases hx
  | cons y l ih =>
    intro x hx
    rcases List.mem_cons.1 hx with rfl | hx
    · exact h.1
    · exact ih h.2 x hx
theorem oks_of {l : List S30} (h : ∀ x ∈ l, ok x) : oks l := by
  induction l with
  | nil => trivial
  | cons y l ih => exact ⟨h y (by simp), ih (fun x hx => h x (by simp [hx]))⟩
theorem wts_snoc (l : List S30) (x : S30) : wts (l ++ [x]) = wts l + wt x := by
  induction l with
  | nil => simp [wts]
  | cons y l ih => simp only [List.cons_append, wts, ih]; omega
theorem wts_take (l : List S30) (k : Nat) (h : k < l.length) : wts (l.take (k + 1)) = wts (l.take k) + wt l[k] := by
  rw [List.take_succ_eq_append_getElem h, wts_snoc]
theorem S30.eta (t : S30) : (⟨t.f0, t.f1⟩ : S30) = t := by cases t; rfl
theorem w64 (n : Int) (h : -9223372036854775808 ≤ n ∧ n ≤ 9223372036854775807) : wrap64 n = n := by unfold wrap64; omega
theorem rd_at (l : List S30) (k : Nat) (h : k < l.length) : rd_T24 l (k : Int) = l[k] := by
  unfold rd_T24
  simp [List.getD, List.getElem?_eq_getElem h]
theorem Small_j0_f (k : Nat) (a1 a2 : Int) (b : Bool) (f : Int) (l : List S24) : soriteslaw06_Small.j0 (k + 1) a1 a2 b f l = if b = true then some (-1) else soriteslaw06_Small.l0 k (wrap64 (a1 - 1)) a2 0 f l := by rw [soriteslaw06_Small.j0]
theorem Small_spec : ∀ (D : Nat) (t : S24) (most deep : Int), deep = (D : Int) - 1 → D ≤ 1000 → 0 ≤ most → most ≤ 1000 →
    ∃ r, Ev (fun k => soriteslaw06_Small.f k t.f0 t.f1 most deep) r ∧ r ≤ most - 1 ∧ -1 ≤ r ∧ (0 ≤ r → ok t ∧ (wt t : Int) = most - r) := by
  intro D
  induction D with
  | zero =>
    intro t most deep hd _ h0 h1
    refine ⟨-1, Ev.step (f := fun k => soriteslaw06_Small.j0 k most deep true t.f0 t.f1) (fun k => ?_) (Ev.step (f := fun _ => some (-1)) (fun k => ?_) (Ev.now _)), by omega, by omega, fun h => by omega⟩
    · rw [soriteslaw06_Small.f]
      rw [if_pos (by omega)]
    · rw [Small_j0_f]
      simp
  | succ D ih =>
    intro t most deep hd hD h0 h1
    obtain ⟨f, l⟩ := t
    by_cases hb : f < -1000 ∨ f > 1000 ∨ (l.length : Int) > 20
    · refine ⟨-1, Ev.step (f := fun k => soriteslaw06_Small.j0 k most deep true f l) (fun k => ?_) (Ev.step (f := fun _ => some (-1)) (fun k => ?_) (Ev.now _)), by omega, by omega, fun h => by omega⟩
      · rw [soriteslaw06_Small.f]
        rw [if_neg (by omega)]
        by_cases h2 : f < -1000
        · rw [if_pos h2]
        · rw [if_neg h2]
          by_cases h3 : f > 1000
          · rw [if_pos h3]
          · rw [if_neg h3, show decide ((l.length : Int) > 20) = true from decide_eq_true (by omega)]
      · rw [Small_j0_f]
        simp
    · have hl : l.length ≤ 20 := by omega
      have hloop : ∀ (m i : Nat), l.length - i = m → i ≤ l.length → ∀ q : Int, q ≤ most - 1 → -1 ≤ q → (0 ≤ q → oks (l.take i) ∧ (1 + wts (l.take i) : Nat) = most - q) →
          ∃ r, Ev (fun k => soriteslaw06_Small.l0 k q deep (i : Int) f l) r ∧ r ≤ most - 1 ∧ -1 ≤ r ∧ (0 ≤ r → oks l ∧ ((1 + wts l : Nat) : Int) = most - r) := by
        intro m
        induction m with
        | zero =>
          intro i hi hle q hq1 hq2 hq3
          have : i = l.length := by omega
          subst this
          refine ⟨q, Ev.step (f := fun _ => some q) (fun k => ?_) (Ev.now q), hq1, hq2, fun h => ?_⟩
          · rw [soriteslaw06_Small.l0, if_neg (by omega)]
          · have := hq3 h
            rw [List.take_length] at this
            exact this
        | succ m ihm =>
          intro i hi hle q hq1 hq2 hq3
          by_cases hq : q ≥ 0
          · have hlt : i < l.length := by omega
            obtain ⟨r1, he, hr1, hr2, hr3⟩ := ih l[i] q (wrap64 (deep - 1)) (by rw [w64 _ (by omega)]; omega) (by omega) hq (by omega)
            obtain ⟨r, he2, h3⟩ := ihm (i + 1) (by omega) (by omega) r1 (by omega) (by omega) (fun h => by
              have h4 := hr3 h
              have h5 := hq3 hq
              refine ⟨?_, ?_⟩
              · rw [List.take_succ_eq_append_getElem hlt]
                refine oks_of (fun x hx => ?_)
                rcases List.mem_append.1 hx with hx | hx
                · exact oks_mem h5.1 x hx
                · rw [List.mem_singleton] at hx
                  exact hx ▸ h4.1
              · rw [wts_take l i hlt]
                have := h5.2
                have := h4.2
                omega)
            refine ⟨r, ?_, h3⟩
            refine Ev.step (f := fun k => (soriteslaw06_Small.f k l[i].f0 l[i].f1 q (wrap64 (deep - 1))).bind fun t => soriteslaw06_Small.l0 k t deep ((i + 1 : Nat) : Int) f l) (fun k => ?_) (Ev.bind he he2)
            rw [soriteslaw06_Small.l0, if_pos (by omega), if_pos hq, if_pos (by omega), rd_at l i hlt, show wrap64 ((i : Int) + 1) = ((i + 1 : Nat) : Int) from by rw [w64 _ (by omega)]; omega]
          · refine ⟨q, Ev.step (f := fun _ => some q) (fun k => ?_) (Ev.now q), hq1, hq2, fun h => by omega⟩
            rw [soriteslaw06_Small.l0, if_pos (by omega), if_neg hq]
      obtain ⟨r, he, h1', h2', h3'⟩ := hloop l.length 0 rfl (by omega) (most - 1) (by omega) (by omega) (fun _ => ⟨trivial, by simp [wts]; omega⟩)
      refine ⟨r, ?_, h1', h2', fun h => ⟨⟨by show -1000 ≤ f; omega, by show f ≤ 1000; omega, hl, (h3' h).1⟩, (h3' h).2⟩⟩
      refine Ev.step (f := fun k => soriteslaw06_Small.j0 k most deep false f l) (fun k => ?_) (Ev.step (f := fun k => soriteslaw06_Small.l0 k (most - 1) deep 0 f l) (fun k => ?_) he)
      · show soriteslaw06_Small.f (k + 1) f l most deep = _
        rw [soriteslaw06_Small.f, if_neg (by omega), if_neg (by omega), if_neg (by omega)]
        rw [show decide ((l.length : Int) > 20) = false from decide_eq_false (by omega)]
      · rw [Small_j0_f, w64 _ (by omega)]
        simp
def Ok (t : S30) : Prop := ok t ∧ wt t ≤ 60
theorem Fine_spec (l : List S24) (hl : l.length ≤ 1000) : ∃ r, Ev (fun k => soriteslaw06_Fine.f k l) r ∧ (r = true → ∀ t ∈ l, Ok t) := by
  have hloop : ∀ (m i : Nat), l.length - i = m → i ≤ l.length → (∀ t ∈ l.take i, Ok t) → ∃ r, Ev (fun k => soriteslaw06_Fine.l0 k l (i : Int)) r ∧ (r = true → ∀ t ∈ l, Ok t) := by
    intro m
    induction m with
    | zero =>
      intro i hi hle hq
      refine ⟨true, Ev.step (f := fun _ => some true) (fun k => ?_) (Ev.now _), fun _ => ?_⟩
      · rw [soriteslaw06_Fine.l0, if_neg (by omega)]
      · rw [List.take_of_length_le (by omega)] at hq
        exact hq
    | succ m ihm =>
      intro i hi hle hq
      have hlt : i < l.length := by omega
      obtain ⟨r1, he, _, _, hr⟩ := Small_spec 21 l[i] 60 20 (by omega) (by omega) (by omega) (by omega)
      by_cases h0 : r1 < 0
      · refine ⟨false, Ev.step (f := fun k => (soriteslaw06_Small.f k l[i].f0 l[i].f1 60 20).bind fun t => if t < 0 then some false else soriteslaw06_Fine.l0 k l ((i + 1 : Nat) : Int)) (fun k => ?_) (Ev.bind he ?_), fun h => by cases h⟩
        · rw [soriteslaw06_Fine.l0, if_pos (by omega), if_pos (by omega), rd_at l i hlt, show wrap64 ((i : Int) + 1) = ((i + 1 : Nat) : Int) from by rw [w64 _ (by omega)]; omega]
        · simp only [if_pos h0]
          exact Ev.now _
      · obtain ⟨r, he2, h3⟩ := ihm (i + 1) (by omega) (by omega) (fun t ht => by
          rw [List.take_succ_eq_append_getElem hlt] at ht
          rcases List.mem_append.1 ht with ht | ht
          · exact hq t ht
          · rw [List.mem_singleton] at ht
            have := hr (by omega)
            subst ht
            exact ⟨this.1, by omega⟩)
        refine ⟨r, Ev.step (f := fun k => (soriteslaw06_Small.f k l[i].f0 l[i].f1 60 20).bind fun t => if t < 0 then some false else soriteslaw06_Fine.l0 k l ((i + 1 : Nat) : Int)) (fun k => ?_) (Ev.bind he ?_), h3⟩
        · rw [soriteslaw06_Fine.l0, if_pos (by omega), if_pos (by omega), rd_at l i hlt, show wrap64 ((i : Int) + 1) = ((i + 1 : Nat) : Int) from by rw [w64 _ (by omega)]; omega]
        · simp only [if_neg h0]
          exact he2
  obtain ⟨r, he, h⟩ := hloop l.length 0 rfl (by omega) (fun t ht => by simp at ht)
  exact ⟨r, he, h⟩
theorem Of_spec : ∀ t : S30, ok t → Ev (fun k => soriteslaw06_Of.f k t.f0 t.f1) (t.f0, t.f1) := by
  refine S30.ind ?_
  intro f l ih hok
  obtain ⟨_, _, hl, hks⟩ := hok
  have hloop : ∀ (m i : Nat), l.length - i = m → i ≤ l.length → Ev (fun k => soriteslaw06_Of.l0 k (i : Int) f l f (l.take i)) (f, l) := by
    intro m
    induction m with
    | zero =>
      intro i hi hle
      refine Ev.step (f := fun _ => some (f, l)) (fun k => ?_) (Ev.now _)
      rw [soriteslaw06_Of.l0, if_neg (by omega), List.take_of_length_le (by omega)]
    | succ m ihm =>
      intro i hi hle
      have hlt : i < l.length := by omega
      have he := ih l[i] (List.getElem_mem hlt) (oks_mem hks _ (List.getElem_mem hlt))
      refine Ev.step (f := fun k => (soriteslaw06_Of.f k l[i].f0 l[i].f1).bind fun t => if (l.take i).length < 4398046511104 then soriteslaw06_Of.l0 k ((i + 1 : Nat) : Int) f l f (l.take i ++ [(⟨t.1, t.2⟩ : S30)]) else none) (fun k => ?_) (Ev.bind he ?_)
      · rw [soriteslaw06_Of.l0, if_pos (by omega), if_pos (by omega), rd_at l i hlt, show wrap64 ((i : Int) + 1) = ((i + 1 : Nat) : Int) from by rw [w64 _ (by omega)]; omega]
      · simp only [List.length_take]
        simp only [if_pos (show min i l.length < 4398046511104 by omega)]
        have := ihm (i + 1) (by omega) (by omega)
        rw [List.take_succ_eq_append_getElem hlt] at this
        simp only [S30.eta]
        exact this
  refine Ev.step (f := fun k => soriteslaw06_Of.l0 k 0 f l f []) (fun k => ?_) ?_
  · rw [soriteslaw06_Of.f]
  · exact hloop l.length 0 rfl (by omega)
end Go.Proofs.Ytpfddihcikiofaa.P
end
section
namespace Go.Proofs.Ytpfddihcikiofaa.P
open Go.RowKit Go.Proofs.YtpfddihcikiofaaW.PrintWords Go.Proofs.YtpfddihcikiofaaW.PrintLast Go.Proofs.YtpfddihcikiofaaW.PrintMore
set_option linter.unusedVariables false
set_option linter.unusedSimpArgs false
def Box (n : Nat) (v : Nat → Value) (d : Nat → Bool) (k : Nat) : Prop := ∃ i, i < n ∧ d (2 * n + i) = true ∧ v (2 * n + i) = .pointer (some ⟨k, 0, none⟩)
def TermAt (N : Nat) (ok : Nat → Prop) (w : World) (x : S30) (u : Value) : Prop := ∃ A c, u = .agg #[.int .i64 x.f0, .slice A x.f1.length c] ∧ x.f1.length ≤ c ∧ Kd.F k30 w (fun k => N ≤ k ∧ ok k) A x.f1.length x.f1
def cellsOf : Value → Array Value
  | .agg a => a
  | _ => #[]
structure OfI (n : Nat) (xs : Nat → S30) (arg : Nat → Value) (w0 : World) (v : Nat → Value) (d : Nat → Bool) (w : World) : Prop where
  below : Below w0.heap.size w0 w
  ld : ∀ i, i < n → d (2 * i) = true → v (2 * i) = arg i
  cl : ∀ i, i < n → d (2 * i + 1) = true → TermAt w0.heap.size (fun k => ¬ Box n v d k) w (xs i) (v (2 * i + 1))
  al : ∀ i, i < n → d (2 * n + i) = true → ∃ g, v (2 * n + i) = .pointer (some ⟨g, 0, none⟩) ∧ w0.heap.size ≤ g ∧ (d (3 * n + i) = false → w.heap[g]? = some (.cells #[.int .i64 0, .slice none 0 0] 30 (0, 0))) ∧ (d (3 * n + i) = true → w.heap[g]? = some (.cells (cellsOf (v (2 * i + 1))) 30 (0, 0)))
  ne : ∀ i j, i < n → j < n → i ≠ j → d (2 * n + i) = true → d (2 * n + j) = true → v (2 * n + i) ≠ v (2 * n + j)
  st : ∀ i, i < n → d (3 * n + i) = true → d (2 * n + i) = true ∧ d (2 * i + 1) = true
theorem Box.iff {n i : Nat} {v : Nat → Value} {d : Nat → Bool} {u : Value} (h : ∀ j, j < n → 2 * n + j ≠ i) (k : Nat) : Box n (upd v i u) (upd d i true) k ↔ Box n v d k := by
  unfold Box
  constructor
  · rintro ⟨j, hj, h1, h2⟩
    rw [upd_other _ _ (h j hj)] at h1 h2
    exact ⟨j, hj, h1, h2⟩
  · rintro ⟨j, hj, h1, h2⟩
    exact ⟨j, hj, by rw [upd_other _ _ (h j hj)]; exact h1, by rw [upd_other _ _ (h j hj)]; exact h2⟩
theorem TermAt.imp {N : Nat} {ok ok' : Nat → Prop} {w : World} {x : S30} {u : Value} (h : TermAt N ok w x u) (hi : ∀ k, ok k → ok' k) : TermAt N ok' w x u := by
  obtain ⟨A, c, h1, h2, h3⟩ := h
  exact ⟨A, c, h1, h2, Kd.F_mono h3 (fun k hk => ⟨hk.1, hi k hk.2⟩)⟩
theorem TermAt.step {N : Nat} {ok : Nat → Prop} {w w' : World} {x : S30} {u : Value} (h : TermAt N ok w x u) (hi : ∀ k, ok k → k < w.heap.size → w'.heap[k]? = w.heap[k]?) : TermAt N ok w' x u := by
  obtain ⟨A, c, h1, h2, h3⟩ := h
  exact ⟨A, c, h1, h2, Kd.F_step h3 (fun k hk hlt => hi k hk.2 hlt)⟩
theorem TermAt.bound {N : Nat} {ok : Nat → Prop} {w : World} {x : S30} {u : Value} (h : TermAt N ok w x u) : TermAt N (fun k => ok k ∧ k < w.heap.size) w x u := by
  obtain ⟨A, c, h1, h2, h3⟩ := h
  exact ⟨A, c, h1, h2, Kd.F_mono (Kd.F_bound h3) (fun k hk => ⟨hk.1.1, hk.1.2, hk.2⟩)⟩
theorem TermAt.C {N : Nat} {ok : Nat → Prop} {w : World} {x : S30} {u : Value} (h : TermAt N ok w x u) : ∃ A c, u = .agg #[.int .i64 x.f0, .slice A x.f1.length c] ∧ x.f1.length ≤ c ∧ k30.C w A x.f1.length x.f1 := by
  obtain ⟨A, c, h1, h2, h3⟩ := h
  exact ⟨A, c, h1, h2, Kd.F_now h3⟩
section
variable {n : Nat} {xs : Nat → S30} {arg : Nat → Value} {w0 w : World} {v : Nat → Value} {d : Nat → Bool}
theorem OfI.start (n : Nat) (xs : Nat → S30) (arg : Nat → Value) (w0 : World) (v : Nat → Value) : OfI n xs arg w0 v (fun _ => false) w0.drew :=
  ⟨pw_below_drewN (Below.refl _ _) 1, fun _ _ h => (by cases h), fun _ _ h => (by cases h), fun _ _ h => (by cases h), fun _ _ _ _ _ h => (by cases h), fun _ _ h => (by cases h)⟩
theorem OfI.load (h : OfI n xs arg w0 v d w) {i : Nat} (hi : i < n) (hd : d (2 * i) = false) : OfI n xs arg w0 (upd v (2 * i) (arg i)) (upd d (2 * i) true) w := by
  refine ⟨h.below, fun j hj h1 => ?_, fun j hj h1 => ?_, fun j hj h1 => ?_, fun a b ha hb hab h1 h2 => ?_, fun j hj h1 => ?_⟩
  · by_cases hji : j = i
    · subst hji; rw [upd_same]
    · rw [upd_other _ _ (by omega)] at h1 ⊢; exact h.ld j hj h1
  · rw [upd_other _ _ (by omega)] at h1 ⊢
    exact (h.cl j hj h1).imp (fun k hk hb => hk ((Box.iff (fun j hj => by omega) k).1 hb))
  · rw [upd_other _ _ (by omega)] at h1
    rw [upd_other _ _ (by omega), upd_other _ _ (by omega), upd_other _ _ (by omega)]
    exact h.al j hj h1
  · rw [upd_other _ _ (by omega)] at h1 h2
    rw [upd_other _ _ (by omega), upd_other _ _ (by omega)]
    exact h.ne a b ha hb hab h1 h2
  · rw [upd_other _ _ (by omega)] at h1
    rw [upd_other _ _ (by omega), upd_other _ _ (by omega)]
    exact h.st j hj h1
theorem OfI.boxLt (h : OfI n xs arg w0 v d w) {k : Nat} (hb : Box n v d k) : k < w.heap.size := by
  obtain ⟨i, hi, h1, h2⟩ := hb
  obtain ⟨g, hg, _, h3, h4⟩ := h.al i hi h1
  rw [hg] at h2
  injection h2 with h2
  injection h2 with h2
  injection h2 with h2
  subst h2
  cases hs : d (3 * n + i) with
  | false => exact blk_lt (h3 hs)
  | true => exact blk_lt (h4 hs)
theorem OfI.call (h : OfI n xs arg w0 v d w) {i : Nat} (hi : i < n) (hd : d (2 * i + 1) = false) {v1 : Value} {w' : World} (hb : Below w.heap.size w w') (hR : Kd.R k30 30 w' w.heap.size (fun _ => True) v1 (xs i).f1) :
    OfI n xs arg w0 (upd v (2 * i + 1) (.agg #[.int .i64 (xs i).f0, v1])) (upd d (2 * i + 1) true) w' := by
  have hs := h.below.size
  refine ⟨h.below.trans (hb.mono hs), fun j hj h1 => ?_, fun j hj h1 => ?_, fun j hj h1 => ?_, fun a b ha hb hab h1 h2 => ?_, fun j hj h1 => ?_⟩
  · rw [upd_other _ _ (by omega)] at h1 ⊢; exact h.ld j hj h1
  · by_cases hji : j = i
    · subst hji
      rw [upd_same]
      obtain ⟨A, c, rfl⟩ := Kd.R_slice hR
      have hr := Kd.R_reads' hR
      refine ⟨A, c, rfl, hr.2.1, Kd.F_mono (Kd.R_F (Kd.R_bound hR)) (fun k hk => ⟨by have := hk.2.1; omega, fun hbx => ?_⟩)⟩
      have h1 := h.boxLt ((Box.iff (fun j hj => by omega) k).1 hbx)
      have := hk.2.1
      omega
    · rw [upd_other _ _ (by omega)] at h1 ⊢
      exact ((h.cl j hj h1).step (fun k _ hlt => hb.block k hlt)).imp (fun k hk hb => hk ((Box.iff (fun j hj => by omega) k).1 hb))
  · rw [upd_other _ _ (by omega)] at h1
    rw [upd_other _ _ (by omega), upd_other _ _ (by omega)]
    obtain ⟨g, hg, hge, h3, h4⟩ := h.al j hj h1
    refine ⟨g, hg, hge, fun h5 => blk_below (h3 h5) hb, fun h5 => ?_⟩
    have hji : j ≠ i := fun e => by subst e; have := (h.st j hj h5).2; rw [hd] at this; cases this
    rw [upd_other _ _ (by omega)]
    exact blk_below (h4 h5) hb
  · rw [upd_other _ _ (by omega)] at h1 h2
    rw [upd_other _ _ (by omega), upd_other _ _ (by omega)]
    exact h.ne a b ha hb hab h1 h2
  · rw [upd_other _ _ (by omega)] at h1
    have h2 := h.st j hj h1
    refine ⟨by rw [upd_other _ _ (by omega)]; exact h2.1, ?_⟩
    by_cases hji : j = i
    · subst hji; exact upd_same _ _ _
    · rw [upd_other _ _ (by omega)]; exact h2.2
theorem OfI.alloc (h : OfI n xs arg w0 v d w) {i : Nat} (hi : i < n) (hd : d (2 * n + i) = false) :
    OfI n xs arg w0 (upd v (2 * n + i) (.pointer (some ⟨w.heap.size, 0, none⟩))) (upd d (2 * n + i) true) (w.alloc (.cells #[.int .i64 0, .slice none 0 0] 30)) := by
  have hs := h.below.size
  have hb := below_alloc (Below.refl w.heap.size w) (.cells #[.int .i64 0, .slice none 0 0] 30)
  refine ⟨h.below.trans (hb.mono hs), fun j hj h1 => ?_, fun j hj h1 => ?_, fun j hj h1 => ?_, fun a b ha hb hab h1 h2 => ?_, fun j hj h1 => ?_⟩
  · rw [upd_other _ _ (by omega)] at h1 ⊢; exact h.ld j hj h1
  · rw [upd_other _ _ (by omega)] at h1 ⊢
    refine ((h.cl j hj h1).bound.step (fun k _ hlt => hb.block k hlt)).imp (fun k hk hbx => ?_)
    obtain ⟨q, hq, h2, h3⟩ := hbx
    by_cases hqi : q = i
    · subst hqi
      rw [upd_same] at h3
      injection h3 with h3
      injection h3 with h3
      injection h3 with h3
      have := hk.2
      omega
    · rw [upd_other _ _ (by omega)] at h2 h3
      exact hk.1 ⟨q, hq, h2, h3⟩
  · by_cases hji : j = i
    · subst hji
      rw [upd_same]
      refine ⟨_, rfl, hs, fun _ => heap_alloc_new _ _, fun h5 => ?_⟩
      rw [upd_other _ _ (by omega)] at h5
      have := (h.st j hj h5).1
      rw [hd] at this; cases this
    · rw [upd_other _ _ (by omega)] at h1
      rw [upd_other _ _ (by omega), upd_other _ _ (by omega), upd_other _ _ (by omega)]
      obtain ⟨g, hg, hge, h3, h4⟩ := h.al j hj h1
      exact ⟨g, hg, hge, fun h5 => blk_below (h3 h5) hb, fun h5 => blk_below (h4 h5) hb⟩
  · have hfresh : ∀ j, j < n → d (2 * n + j) = true → v (2 * n + j) ≠ .pointer (some ⟨w.heap.size, 0, none⟩) := by
      intro j hj h3 e
      have := h.boxLt ⟨j, hj, h3, e⟩
      omega
    by_cases hai : a = i
    · subst hai
      rw [upd_other _ _ (by omega)] at h2
      rw [upd_same, upd_other _ _ (by omega)]
      exact fun e => hfresh b hb h2 e.symm
    · rw [upd_other _ _ (by omega)] at h1
      rw [upd_other _ _ (show 2 * n + a ≠ 2 * n + i by omega)]
      by_cases hbi : b = i
      · subst hbi
        rw [upd_same]
        exact hfresh a ha h1
      · rw [upd_other _ _ (by omega)] at h2 ⊢
        exact h.ne a b ha hb hab h1 h2
  · rw [upd_other _ _ (by omega)] at h1
    have h2 := h.st j hj h1
    refine ⟨?_, by rw [upd_other _ _ (by omega)]; exact h2.2⟩
    by_cases hji : j = i
    · subst hji; exact upd_same _ _ _
    · rw [upd_other _ _ (by omega)]; exact h2.1
theorem OfI.store (h : OfI n xs arg w0 v d w) {i : Nat} (hi : i < n) (hd : d (3 * n + i) = false) (ha : d (2 * n + i) = true) (hc : d (2 * i + 1) = true) {g : Nat} (hg : v (2 * n + i) = .pointer (some ⟨g, 0, none⟩)) {f : Int} {s : Value}
    (hu : v (2 * i + 1) = .agg #[.int .i64 f, s]) (u : Value) : OfI n xs arg w0 (upd v (3 * n + i) u) (upd d (3 * n + i) true) ((w.setCell ⟨g, 0, none⟩ (.int .i64 f)).setCell ⟨g, 1, none⟩ s) := by
  have hs := h.below.size
  obtain ⟨g', hg', hge, hz, _⟩ := h.al i hi ha
  rw [hg] at hg'
  injection hg' with hg'
  injection hg' with hg'
  injection hg' with hg'
  subst hg'
  have hz := hz hd
  have hfar : ∀ k, k ≠ g → ((w.setCell ⟨g, 0, none⟩ (.int .i64 f)).setCell ⟨g, 1, none⟩ s).heap[k]? = w.heap[k]? := fun k hk => (Below.heap_setCell _ _ _ _ hk).trans (Below.heap_setCell _ _ _ _ hk)
  have hnew : ((w.setCell ⟨g, 0, none⟩ (.int .i64 f)).setCell ⟨g, 1, none⟩ s).heap[g]? = some (.cells #[.int .i64 f, s] 30 (0, 0)) := blk_put (blk_put hz 0 (.int .i64 f) rfl) 1 s rfl
  refine ⟨(h.below.setCell hge _).setCell hge _, fun j hj h1 => ?_, fun j hj h1 => ?_, fun j hj h1 => ?_, fun a b ha hb hab h1 h2 => ?_, fun j hj h1 => ?_⟩
  · rw [upd_other _ _ (by omega)] at h1 ⊢; exact h.ld j hj h1
  · rw [upd_other _ _ (by omega)] at h1 ⊢
    refine ((h.cl j hj h1).step (fun k hk _ => hfar k (fun e => hk ?_))).imp (fun k hk hb => hk ((Box.iff (fun j hj => by omega) k).1 hb))
    subst e
    exact ⟨i, hi, ha, hg⟩
  · rw [upd_other _ _ (by omega)] at h1
    rw [upd_other _ _ (by omega), upd_other (i := 3 * n + i) (j := 2 * j + 1) _ _ (by omega)]
    obtain ⟨g2, hg2, hge2, h3, h4⟩ := h.al j hj h1
    by_cases hji : j = i
    · subst hji
      rw [hg] at hg2
      injection hg2 with hg2
      injection hg2 with hg2
      injection hg2 with hg2
      subst hg2
      refine ⟨g, hg, hge, fun h5 => ?_, fun _ => ?_⟩
      · rw [upd_same] at h5; cases h5
      · rw [hnew, hu]; rfl
    · have hne : g2 ≠ g := fun e => h.ne j i hj hi hji h1 ha (by rw [hg2, hg, e])
      refine ⟨g2, hg2, hge2, fun h5 => ?_, fun h5 => ?_⟩
      · rw [upd_other _ _ (by omega)] at h5; rw [hfar _ hne]; exact h3 h5
      · rw [upd_other _ _ (by omega)] at h5; rw [hfar _ hne]; exact h4 h5
  · rw [upd_other _ _ (by omega)] at h1 h2
    rw [upd_other _ _ (by omega), upd_other _ _ (by omega)]
    exact h.ne a b ha hb hab h1 h2
  · by_cases hji : j = i
    · subst hji
      exact ⟨by rw [upd_other _ _ (by omega)]; exact ha, by rw [upd_other _ _ (by omega)]; exact hc⟩
    · rw [upd_other _ _ (by omega)] at h1
      rw [upd_other _ _ (by omega), upd_other _ _ (by omega)]
      exact h.st j hj h1
end
set_option maxRecDepth 100000 in
set_option maxHeartbeats 4000000 in
theorem of_three {id : Nat} {l0 s0 c0 b0 l1 s1 c1 b1 l2 s2 c2 b2 : Tmp} {p0 p1 p2 p3 p4 p5 p6 p7 p8 p9 p10 p11 : String} {a : Act} {w : World} {Q : Exit → Act → World → Prop}
    (hr : regionOk #[{ dst := some l0, op := Op.load 24 (Operand.tmp s0), type := 24, pos := p0, after := #[], guard := none }, { dst := some c0, op := Op.call { callee := Callee.value (Operand.func 22), args := #[Operand.tmp l0], argTypes := #[24] }, type := 30, pos := p1, after := #[{ on := 0, ground := Ground.data }], guard := none }, { dst := some l1, op := Op.load 24 (Operand.tmp s1), type := 24, pos := p2, after := #[], guard := none }, { dst := some c1, op := Op.call { callee := Callee.value (Operand.func 22), args := #[Operand.tmp l1], argTypes := #[24] }, type := 30, pos := p3, after := #[{ on := 2, ground := Ground.data }, { on := 1, ground := Ground.chain }], guard := none }, { dst := some l2, op := Op.load 24 (Operand.tmp s2), type := 24, pos := p4, after := #[], guard := none }, { dst := some c2, op := Op.call { callee := Callee.value (Operand.func 22), args := #[Operand.tmp l2], argTypes := #[24] }, type := 30, pos := p5, after := #[{ on := 4, ground := Ground.data }, { on := 3, ground := Ground.chain }], guard := none }, { dst := some b0, op := Op.alloc 30, type := 0, pos := p6, after := #[], guard := none }, { dst := some b1, op := Op.alloc 30, type := 0, pos := p7, after := #[], guard := none }, { dst := some b2, op := Op.alloc 30, type := 0, pos := p8, after := #[], guard := none }, { dst := none, op := Op.store 30 (Operand.tmp b0) (Operand.tmp c0), type := 0, pos := p9, after := #[{ on := 6, ground := Ground.data }, { on := 1, ground := Ground.data }, { on := 5, ground := Ground.chain }, { on := 0, ground := Ground.phase }, { on := 1, ground := Ground.phase }, { on := 2, ground := Ground.textOnly Departure.lateStores }, { on := 3, ground := Ground.textOnly Departure.lateStoresUnsure }, { on := 4, ground := Ground.textOnly Departure.lateStores }, { on := 5, ground := Ground.textOnly Departure.lateStoresUnsure }, { on := 6, ground := Ground.phase }, { on := 7, ground := Ground.phase }, { on := 8, ground := Ground.phase }], guard := none }, { dst := none, op := Op.store 30 (Operand.tmp b1) (Operand.tmp c1), type := 0, pos := p10, after := #[{ on := 7, ground := Ground.data }, { on := 3, ground := Ground.data }, { on := 9, ground := Ground.chain }, { on := 0, ground := Ground.phase }, { on := 1, ground := Ground.phase }, { on := 2, ground := Ground.phase }, { on := 3, ground := Ground.phase }, { on := 4, ground := Ground.textOnly Departure.lateStores }, { on := 5, ground := Ground.textOnly Departure.lateStoresUnsure }, { on := 6, ground := Ground.phase }, { on := 7, ground := Ground.phase }, { on := 8, ground := Ground.phase }, { on := 9, ground := Ground.phase }], guard := none }, { dst := none, op := Op.store 30 (Operand.tmp b2) (Operand.tmp c2), type := 0, pos := p11, after := #[{ on := 8, ground := Ground.data }, { on := 5, ground := Ground.data }, { on := 10, ground := Ground.chain }, { on := 0, ground := Ground.phase }, { on := 1, ground := Ground.phase }, { on := 2, ground := Ground.phase }, { on := 3, ground := Ground.phase }, { on := 4, ground := Ground.phase }, { on := 5, ground := Ground.phase }, { on := 6, ground := Ground.phase }, { on := 7, ground := Ground.phase }, { on := 8, ground := Ground.phase }, { on := 9, ground := Ground.phase }, { on := 10, ground := Ground.phase }], guard := none }] a.tmps.size = true)
    (hn : ([s0, s1, s2]).all (fun t => (List.range 12).all fun j => decide (dstOf #[{ dst := some l0, op := Op.load 24 (Operand.tmp s0), type := 24, pos := p0, after := #[], guard := none }, { dst := some c0, op := Op.call { callee := Callee.value (Operand.func 22), args := #[Operand.tmp l0], argTypes := #[24] }, type := 30, pos := p1, after := #[{ on := 0, ground := Ground.data }], guard := none }, { dst := some l1, op := Op.load 24 (Operand.tmp s1), type := 24, pos := p2, after := #[], guard := none }, { dst := some c1, op := Op.call { callee := Callee.value (Operand.func 22), args := #[Operand.tmp l1], argTypes := #[24] }, type := 30, pos := p3, after := #[{ on := 2, ground := Ground.data }, { on := 1, ground := Ground.chain }], guard := none }, { dst := some l2, op := Op.load 24 (Operand.tmp s2), type := 24, pos := p4, after := #[], guard := none }, { dst := some c2, op := Op.call { callee := Callee.value (Operand.func 22), args := #[Operand.tmp l2], argTypes := #[24] }, type := 30, pos := p5, after := #[{ on := 4, ground := Ground.data }, { on := 3, ground := Ground.chain }], guard := none }, { dst := some b0, op := Op.alloc 30, type := 0, pos := p6, after := #[], guard := none }, { dst := some b1, op := Op.alloc 30, type := 0, pos := p7, after := #[], guard := none }, { dst := some b2, op := Op.alloc 30, type := 0, pos := p8, after := #[], guard := none }, { dst := none, op := Op.store 30 (Operand.tmp b0) (Operand.tmp c0), type := 0, pos := p9, after := #[{ on := 6, ground := Ground.data }, { on := 1, ground := Ground.data }, { on := 5, ground := Ground.chain }, { on := 0, ground := Ground.phase }, { on := 1, ground := Ground.phase }, { on := 2, ground := Ground.textOnly Departure.lateStores }, { on := 3, ground := Ground.textOnly Departure.lateStoresUnsure }, { on := 4, ground := Ground.textOnly Departure.lateStores }, { on := 5, ground := Ground.textOnly Departure.lateStoresUnsure }, { on := 6, ground := Ground.phase }, { on := 7, ground := Ground.phase }, { on := 8, ground := Ground.phase }], guard := none }, { dst := none, op := Op.store 30 (Operand.tmp b1) (Operand.tmp c1), type := 0, pos := p10, after := #[{ on := 7, ground := Ground.data }, { on := 3, ground := Ground.data }, { on := 9, ground := Ground.chain }, { on := 0, ground := Ground.phase }, { on := 1, ground := Ground.phase }, { on := 2, ground := Ground.phase }, { on := 3, ground := Ground.phase }, { on := 4, ground := Ground.textOnly Departure.lateStores }, { on := 5, ground := Ground.textOnly Departure.lateStoresUnsure }, { on := 6, ground := Ground.phase }, { on := 7, ground := Ground.phase }, { on := 8, ground := Ground.phase }, { on := 9, ground := Ground.phase }], guard := none }, { dst := none, op := Op.store 30 (Operand.tmp b2) (Operand.tmp c2), type := 0, pos := p11, after := #[{ on := 8, ground := Ground.data }, { on := 5, ground := Ground.data }, { on := 10, ground := Ground.chain }, { on := 0, ground := Ground.phase }, { on := 1, ground := Ground.phase }, { on := 2, ground := Ground.phase }, { on := 3, ground := Ground.phase }, { on := 4, ground := Ground.phase }, { on := 5, ground := Ground.phase }, { on := 6, ground := Ground.phase }, { on := 7, ground := Ground.phase }, { on := 8, ground := Ground.phase }, { on := 9, ground := Ground.phase }, { on := 10, ground := Ground.phase }], guard := none }] j ≠ some t)) = true)
    {x0 : S30} {A0 : Option Addr} {k0 g0 : Nat} (hs0 : a.tmps.getD s0 undef = .pointer (some ⟨g0, 0, none⟩)) (hb0 : w.heap[g0]? = some (.cells #[.int .i64 x0.f0, .slice A0 x0.f1.length k0] 24 (0, 0))) (hC0 : k24.C w A0 x0.f1.length x0.f1) (hk0 : x0.f1.length ≤ k0) (ho0 : ok x0)
    {x1 : S30} {A1 : Option Addr} {k1 g1 : Nat} (hs1 : a.tmps.getD s1 undef = .pointer (some ⟨g1, 0, none⟩)) (hb1 : w.heap[g1]? = some (.cells #[.int .i64 x1.f0, .slice A1 x1.f1.length k1] 24 (0, 0))) (hC1 : k24.C w A1 x1.f1.length x1.f1) (hk1 : x1.f1.length ≤ k1) (ho1 : ok x1)
    {x2 : S30} {A2 : Option Addr} {k2 g2 : Nat} (hs2 : a.tmps.getD s2 undef = .pointer (some ⟨g2, 0, none⟩)) (hb2 : w.heap[g2]? = some (.cells #[.int .i64 x2.f0, .slice A2 x2.f1.length k2] 24 (0, 0))) (hC2 : k24.C w A2 x2.f1.length x2.f1) (hk2 : x2.f1.length ≤ k2) (ho2 : ok x2)
    (hK : ∀ (w' : World) (X0 : Option Addr) (q0 h0 : Nat) (X1 : Option Addr) (q1 h1 : Nat) (X2 : Option Addr) (q2 h2 : Nat), Below w.heap.size w w' → w.heap.size ≤ h0 → w'.heap[h0]? = some (.cells #[.int .i64 x0.f0, .slice X0 x0.f1.length q0] 30 (0, 0)) → x0.f1.length ≤ q0 → k30.C w' X0 x0.f1.length x0.f1 → w.heap.size ≤ h1 → w'.heap[h1]? = some (.cells #[.int .i64 x1.f0, .slice X1 x1.f1.length q1] 30 (0, 0)) → x1.f1.length ≤ q1 → k30.C w' X1 x1.f1.length x1.f1 → w.heap.size ≤ h2 → w'.heap[h2]? = some (.cells #[.int .i64 x2.f0, .slice X2 x2.f1.length q2] 30 (0, 0)) → x2.f1.length ≤ q2 → k30.C w' X2 x2.f1.length x2.f1 → Q .normal { tmps := (((((((((a.tmps.setIfInBounds l0 (.agg #[.int .i64 x0.f0, .slice A0 x0.f1.length k0])).setIfInBounds c0 (.agg #[.int .i64 x0.f0, .slice X0 x0.f1.length q0])).setIfInBounds l1 (.agg #[.int .i64 x1.f0, .slice A1 x1.f1.length k1])).setIfInBounds c1 (.agg #[.int .i64 x1.f0, .slice X1 x1.f1.length q1])).setIfInBounds l2 (.agg #[.int .i64 x2.f0, .slice A2 x2.f1.length k2])).setIfInBounds c2 (.agg #[.int .i64 x2.f0, .slice X2 x2.f1.length q2])).setIfInBounds b0 (.pointer (some ⟨h0, 0, none⟩))).setIfInBounds b1 (.pointer (some ⟨h1, 0, none⟩))).setIfInBounds b2 (.pointer (some ⟨h2, 0, none⟩))), defers := a.defers } w') :
    (Code.region id #[{ dst := some l0, op := Op.load 24 (Operand.tmp s0), type := 24, pos := p0, after := #[], guard := none }, { dst := some c0, op := Op.call { callee := Callee.value (Operand.func 22), args := #[Operand.tmp l0], argTypes := #[24] }, type := 30, pos := p1, after := #[{ on := 0, ground := Ground.data }], guard := none }, { dst := some l1, op := Op.load 24 (Operand.tmp s1), type := 24, pos := p2, after := #[], guard := none }, { dst := some c1, op := Op.call { callee := Callee.value (Operand.func 22), args := #[Operand.tmp l1], argTypes := #[24] }, type := 30, pos := p3, after := #[{ on := 2, ground := Ground.data }, { on := 1, ground := Ground.chain }], guard := none }, { dst := some l2, op := Op.load 24 (Operand.tmp s2), type := 24, pos := p4, after := #[], guard := none }, { dst := some c2, op := Op.call { callee := Callee.value (Operand.func 22), args := #[Operand.tmp l2], argTypes := #[24] }, type := 30, pos := p5, after := #[{ on := 4, ground := Ground.data }, { on := 3, ground := Ground.chain }], guard := none }, { dst := some b0, op := Op.alloc 30, type := 0, pos := p6, after := #[], guard := none }, { dst := some b1, op := Op.alloc 30, type := 0, pos := p7, after := #[], guard := none }, { dst := some b2, op := Op.alloc 30, type := 0, pos := p8, after := #[], guard := none }, { dst := none, op := Op.store 30 (Operand.tmp b0) (Operand.tmp c0), type := 0, pos := p9, after := #[{ on := 6, ground := Ground.data }, { on := 1, ground := Ground.data }, { on := 5, ground := Ground.chain }, { on := 0, ground := Ground.phase }, { on := 1, ground := Ground.phase }, { on := 2, ground := Ground.textOnly Departure.lateStores }, { on := 3, ground := Ground.textOnly Departure.lateStoresUnsure }, { on := 4, ground := Ground.textOnly Departure.lateStores }, { on := 5, ground := Ground.textOnly Departure.lateStoresUnsure }, { on := 6, ground := Ground.phase }, { on := 7, ground := Ground.phase }, { on := 8, ground := Ground.phase }], guard := none }, { dst := none, op := Op.store 30 (Operand.tmp b1) (Operand.tmp c1), type := 0, pos := p10, after := #[{ on := 7, ground := Ground.data }, { on := 3, ground := Ground.data }, { on := 9, ground := Ground.chain }, { on := 0, ground := Ground.phase }, { on := 1, ground := Ground.phase }, { on := 2, ground := Ground.phase }, { on := 3, ground := Ground.phase }, { on := 4, ground := Ground.textOnly Departure.lateStores }, { on := 5, ground := Ground.textOnly Departure.lateStoresUnsure }, { on := 6, ground := Ground.phase }, { on := 7, ground := Ground.phase }, { on := 8, ground := Ground.phase }, { on := 9, ground := Ground.phase }], guard := none }, { dst := none, op := Op.store 30 (Operand.tmp b2) (Operand.tmp c2), type := 0, pos := p11, after := #[{ on := 8, ground := Ground.data }, { on := 5, ground := Ground.data }, { on := 10, ground := Ground.chain }, { on := 0, ground := Ground.phase }, { on := 1, ground := Ground.phase }, { on := 2, ground := Ground.phase }, { on := 3, ground := Ground.phase }, { on := 4, ground := Ground.phase }, { on := 5, ground := Ground.phase }, { on := 6, ground := Ground.phase }, { on := 7, ground := Ground.phase }, { on := 8, ground := Ground.phase }, { on := 9, ground := Ground.phase }, { on := 10, ground := Ground.phase }], guard := none }] true).wp Try.prog Q a w := by
  have hmx : Try.prog.follows .mixedOrders = true := by kernel_rfl
  obtain ⟨K0, hO0⟩ := (Of_spec x0 ho0).rounds
  obtain ⟨K1, hO1⟩ := (Of_spec x1 ho1).rounds
  obtain ⟨K2, hO2⟩ := (Of_spec x2 ho2).rounds
  have hne : ∀ j t, t ∈ [s0, s1, s2] → dstOf #[{ dst := some l0, op := Op.load 24 (Operand.tmp s0), type := 24, pos := p0, after := #[], guard := none }, { dst := some c0, op := Op.call { callee := Callee.value (Operand.func 22), args := #[Operand.tmp l0], argTypes := #[24] }, type := 30, pos := p1, after := #[{ on := 0, ground := Ground.data }], guard := none }, { dst := some l1, op := Op.load 24 (Operand.tmp s1), type := 24, pos := p2, after := #[], guard := none }, { dst := some c1, op := Op.call { callee := Callee.value (Operand.func 22), args := #[Operand.tmp l1], argTypes := #[24] }, type := 30, pos := p3, after := #[{ on := 2, ground := Ground.data }, { on := 1, ground := Ground.chain }], guard := none }, { dst := some l2, op := Op.load 24 (Operand.tmp s2), type := 24, pos := p4, after := #[], guard := none }, { dst := some c2, op := Op.call { callee := Callee.value (Operand.func 22), args := #[Operand.tmp l2], argTypes := #[24] }, type := 30, pos := p5, after := #[{ on := 4, ground := Ground.data }, { on := 3, ground := Ground.chain }], guard := none }, { dst := some b0, op := Op.alloc 30, type := 0, pos := p6, after := #[], guard := none }, { dst := some b1, op := Op.alloc 30, type := 0, pos := p7, after := #[], guard := none }, { dst := some b2, op := Op.alloc 30, type := 0, pos := p8, after := #[], guard := none }, { dst := none, op := Op.store 30 (Operand.tmp b0) (Operand.tmp c0), type := 0, pos := p9, after := #[{ on := 6, ground := Ground.data }, { on := 1, ground := Ground.data }, { on := 5, ground := Ground.chain }, { on := 0, ground := Ground.phase }, { on := 1, ground := Ground.phase }, { on := 2, ground := Ground.textOnly Departure.lateStores }, { on := 3, ground := Ground.textOnly Departure.lateStoresUnsure }, { on := 4, ground := Ground.textOnly Departure.lateStores }, { on := 5, ground := Ground.textOnly Departure.lateStoresUnsure }, { on := 6, ground := Ground.phase }, { on := 7, ground := Ground.phase }, { on := 8, ground := Ground.phase }], guard := none }, { dst := none, op := Op.store 30 (Operand.tmp b1) (Operand.tmp c1), type := 0, pos := p10, after := #[{ on := 7, ground := Ground.data }, { on := 3, ground := Ground.data }, { on := 9, ground := Ground.chain }, { on := 0, ground := Ground.phase }, { on := 1, ground := Ground.phase }, { on := 2, ground := Ground.phase }, { on := 3, ground := Ground.phase }, { on := 4, ground := Ground.textOnly Departure.lateStores }, { on := 5, ground := Ground.textOnly Departure.lateStoresUnsure }, { on := 6, ground := Ground.phase }, { on := 7, ground := Ground.phase }, { on := 8, ground := Ground.phase }, { on := 9, ground := Ground.phase }], guard := none }, { dst := none, op := Op.store 30 (Operand.tmp b2) (Operand.tmp c2), type := 0, pos := p11, after := #[{ on := 8, ground := Ground.data }, { on := 5, ground := Ground.data }, { on := 10, ground := Ground.chain }, { on := 0, ground := Ground.phase }, { on := 1, ground := Ground.phase }, { on := 2, ground := Ground.phase }, { on := 3, ground := Ground.phase }, { on := 4, ground := Ground.phase }, { on := 5, ground := Ground.phase }, { on := 6, ground := Ground.phase }, { on := 7, ground := Ground.phase }, { on := 8, ground := Ground.phase }, { on := 9, ground := Ground.phase }, { on := 10, ground := Ground.phase }], guard := none }] j ≠ some t := by
    intro j t ht
    rw [List.all_eq_true] at hn
    have h1 := hn t ht
    rw [List.all_eq_true] at h1
    rcases Nat.lt_or_ge j 12 with hlt | hge
    · exact of_decide_eq_true (h1 j (List.mem_range.2 hlt))
    · unfold dstOf
      rw [Array.getElem?_eq_none (by simpa using hge)]
      simp
  refine region_vals hmx hr (OfI 3 (fun i => match i with | 0 => x0 | 1 => x1 | 2 => x2 | _ => z30) (fun i => match i with | 0 => .agg #[.int .i64 x0.f0, .slice A0 x0.f1.length k0] | 1 => .agg #[.int .i64 x1.f0, .slice A1 x1.f1.length k1] | 2 => .agg #[.int .i64 x2.f0, .slice A2 x2.f1.length k2] | _ => undef) w) (fun v => OfI.start _ _ _ _ _) (fun i => ?_) (fun v d w' hall hI => ?_)
  · rcases Nat.lt_or_ge i 12 with hlt | hge
    rotate_left
    · intro o ho
      rw [Array.getElem?_eq_none (by simpa using hge)] at ho
      cases ho
    intro o ho v d T w' hH hI hd hdep K hK
    match i, hlt with
    | 0, _ =>
      simp only [List.getElem?_toArray, List.getElem?_cons_zero, List.getElem?_cons_succ, Option.some.injEq] at ho
      subst ho
      have e1 : T.getD s0 undef = .pointer (some ⟨g0, 0, none⟩) := (hH.base _ (fun j _ => hne j _ (by simp))).trans hs0
      have hb := hI.below.block g0 (blk_lt hb0)
      have hc0 : w'.cell? ⟨g0, 0, none⟩ = some (.int .i64 x0.f0) := (blk_cell (hb.trans hb0) 0).trans rfl
      have hc1 : w'.cell? ⟨g0, 1, none⟩ = some (.slice A0 x0.f1.length k0) := (blk_cell (hb.trans hb0) 1).trans rfl
      have hfin := hK _ _ (OfI.load (i := 0) hI (by omega) hd)
      clear hK hdep hI hH hr hn hne
      go_simp
      exact hfin
    | 1, _ =>
      simp only [List.getElem?_toArray, List.getElem?_cons_zero, List.getElem?_cons_succ, Option.some.injEq] at ho
      subst ho
      have hd0 : d 0 = true := hdep { on := 0, ground := Ground.data } (by simp) rfl
      have e1 : T.getD l0 undef = .agg #[.int .i64 x0.f0, .slice A0 x0.f1.length k0] := (hH.done 0 _ hd0 rfl).trans (hI.ld 0 (by omega) hd0)
      have hcall := (soriteslaw06_Of.calls K0 x0.f0 A0 k0 x0.f1 x0.f0 x0.f1 w' (Kd.C_below hC0 hI.below) hk0 hO0)
      have hfin : ∀ v1 w2, Kd.R k30 30 w2 w'.heap.size (fun _ => True) v1 x0.f1 → Below w'.heap.size w' w2 → _ := fun v1 w2 h1 h2 => hK _ _ (OfI.call (i := 0) hI (by omega) hd h2 h1)
      clear hK hdep hI hH hr hn hne
      go_simp
      go_at_call 22
      refine hcall.mono ?_
      rintro e w2 ⟨v1, rfl, h1, h2⟩
      exact hfin _ _ h1 h2
    | 2, _ =>
      simp only [List.getElem?_toArray, List.getElem?_cons_zero, List.getElem?_cons_succ, Option.some.injEq] at ho
      subst ho
      have e1 : T.getD s1 undef = .pointer (some ⟨g1, 0, none⟩) := (hH.base _ (fun j _ => hne j _ (by simp))).trans hs1
      have hb := hI.below.block g1 (blk_lt hb1)
      have hc0 : w'.cell? ⟨g1, 0, none⟩ = some (.int .i64 x1.f0) := (blk_cell (hb.trans hb1) 0).trans rfl
      have hc1 : w'.cell? ⟨g1, 1, none⟩ = some (.slice A1 x1.f1.length k1) := (blk_cell (hb.trans hb1) 1).trans rfl
      have hfin := hK _ _ (OfI.load (i := 1) hI (by omega) hd)
      clear hK hdep hI hH hr hn hne
      go_simp
      exact hfin
    | 3, _ =>
      simp only [List.getElem?_toArray, List.getElem?_cons_zero, List.getElem?_cons_succ, Option.some.injEq] at ho
      subst ho
      have hd0 : d 2 = true := hdep { on := 2, ground := Ground.data } (by simp) rfl
      have e1 : T.getD l1 undef = .agg #[.int .i64 x1.f0, .slice A1 x1.f1.length k1] := (hH.done 2 _ hd0 rfl).trans (hI.ld 1 (by omega) hd0)
      have hcall := (soriteslaw06_Of.calls K1 x1.f0 A1 k1 x1.f1 x1.f0 x1.f1 w' (Kd.C_below hC1 hI.below) hk1 hO1)
      have hfin : ∀ v1 w2, Kd.R k30 30 w2 w'.heap.size (fun _ => True) v1 x1.f1 → Below w'.heap.size w' w2 → _ := fun v1 w2 h1 h2 => hK _ _ (OfI.call (i := 1) hI (by omega) hd h2 h1)
      clear hK hdep hI hH hr hn hne
      go_simp
      go_at_call 22
      refine hcall.mono ?_
      rintro e w2 ⟨v1, rfl, h1, h2⟩
      exact hfin _ _ h1 h2
    | 4, _ =>
      simp only [List.getElem?_toArray, List.getElem?_cons_zero, List.getElem?_cons_succ, Option.some.injEq] at ho
      subst ho
      have e1 : T.getD s2 undef = .pointer (some ⟨g2, 0, none⟩) := (hH.base _ (fun j _ => hne j _ (by simp))).trans hs2
      have hb := hI.below.block g2 (blk_lt hb2)
      have hc0 : w'.cell? ⟨g2, 0, none⟩ = some (.int .i64 x2.f0) := (blk_cell (hb.trans hb2) 0).trans rfl
      have hc1 : w'.cell? ⟨g2, 1, none⟩ = some (.slice A2 x2.f1.length k2) := (blk_cell (hb.trans hb2) 1).trans rfl
      have hfin := hK _ _ (OfI.load (i := 2) hI (by omega) hd)
      clear hK hdep hI hH hr hn hne
      go_simp
      exact hfin
    | 5, _ =>
      simp only [List.getElem?_toArray, List.getElem?_cons_zero, List.getElem?_cons_succ, Option.some.injEq] at ho
      subst ho
      have hd0 : d 4 = true := hdep { on := 4, ground := Ground.data } (by simp) rfl
      have e1 : T.getD l2 undef = .agg #[.int .i64 x2.f0, .slice A2 x2.f1.length k2] := (hH.done 4 _ hd0 rfl).trans (hI.ld 2 (by omega) hd0)
      have hcall := (soriteslaw06_Of.calls K2 x2.f0 A2 k2 x2.f1 x2.f0 x2.f1 w' (Kd.C_below hC2 hI.below) hk2 hO2)
      have hfin : ∀ v1 w2, Kd.R k30 30 w2 w'.heap.size (fun _ => True) v1 x2.f1 → Below w'.heap.size w' w2 → _ := fun v1 w2 h1 h2 => hK _ _ (OfI.call (i := 2) hI (by omega) hd h2 h1)
      clear hK hdep hI hH hr hn hne
      go_simp
      go_at_call 22
      refine hcall.mono ?_
      rintro e w2 ⟨v1, rfl, h1, h2⟩
      exact hfin _ _ h1 h2
    | 6, _ =>
      simp only [List.getElem?_toArray, List.getElem?_cons_zero, List.getElem?_cons_succ, Option.some.injEq] at ho
      subst ho
      have hfin := hK _ _ (OfI.alloc (i := 0) hI (by omega) hd)
      clear hK hdep hI hH hr hn hne
      go_simp
      exact hfin
    | 7, _ =>
      simp only [List.getElem?_toArray, List.getElem?_cons_zero, List.getElem?_cons_succ, Option.some.injEq] at ho
      subst ho
      have hfin := hK _ _ (OfI.alloc (i := 1) hI (by omega) hd)
      clear hK hdep hI hH hr hn hne
      go_simp
      exact hfin
    | 8, _ =>
      simp only [List.getElem?_toArray, List.getElem?_cons_zero, List.getElem?_cons_succ, Option.some.injEq] at ho
      subst ho
      have hfin := hK _ _ (OfI.alloc (i := 2) hI (by omega) hd)
      clear hK hdep hI hH hr hn hne
      go_simp
      exact hfin
    | 9, _ =>
      simp only [List.getElem?_toArray, List.getElem?_cons_zero, List.getElem?_cons_succ, Option.some.injEq] at ho
      subst ho
      have hda : d 6 = true := hdep { on := 6, ground := Ground.data } (by simp) rfl
      have hdc : d 1 = true := hdep { on := 1, ground := Ground.data } (by simp) rfl
      obtain ⟨g, hg, hge, hz, _⟩ := hI.al 0 (by omega) hda
      obtain ⟨X, q, hX, hq, hF⟩ := hI.cl 0 (by omega) hdc
      have e1 : T.getD b0 undef = .pointer (some ⟨g, 0, none⟩) := (hH.done 6 _ hda rfl).trans hg
      have e2 : T.getD c0 undef = .agg #[.int .i64 x0.f0, .slice X x0.f1.length q] := (hH.done 1 _ hdc rfl).trans hX
      have hz := hz hd
      have hc0 : w'.cell? ⟨g, 0, none⟩ = some (.int .i64 0) := (blk_cell hz 0).trans rfl
      have hc1 : w'.cell? ⟨g, 1, none⟩ = some (.slice none 0 0) := (blk_cell hz 1).trans rfl
      have hf0 := blk_frozen hz 0
      have hf1 := blk_frozen hz 1
      have hfin := fun u => hK u _ (OfI.store (i := 0) hI (by omega) hd hda hdc hg hX u)
      clear hK hdep hI hH hr hn hne hz
      go_simp
      exact hfin undef
    | 10, _ =>
      simp only [List.getElem?_toArray, List.getElem?_cons_zero, List.getElem?_cons_succ, Option.some.injEq] at ho
      subst ho
      have hda : d 7 = true := hdep { on := 7, ground := Ground.data } (by simp) rfl
      have hdc : d 3 = true := hdep { on := 3, ground := Ground.data } (by simp) rfl
      obtain ⟨g, hg, hge, hz, _⟩ := hI.al 1 (by omega) hda
      obtain ⟨X, q, hX, hq, hF⟩ := hI.cl 1 (by omega) hdc
      have e1 : T.getD b1 undef = .pointer (some ⟨g, 0, none⟩) := (hH.done 7 _ hda rfl).trans hg
      have e2 : T.getD c1 undef = .agg #[.int .i64 x1.f0, .slice X x1.f1.length q] := (hH.done 3 _ hdc rfl).trans hX
      have hz := hz hd
      have hc0 : w'.cell? ⟨g, 0, none⟩ = some (.int .i64 0) := (blk_cell hz 0).trans rfl
      have hc1 : w'.cell? ⟨g, 1, none⟩ = some (.slice none 0 0) := (blk_cell hz 1).trans rfl
      have hf0 := blk_frozen hz 0
      have hf1 := blk_frozen hz 1
      have hfin := fun u => hK u _ (OfI.store (i := 1) hI (by omega) hd hda hdc hg hX u)
      clear hK hdep hI hH hr hn hne hz
      go_simp
      exact hfin undef
    | 11, _ =>
      simp only [List.getElem?_toArray, List.getElem?_cons_zero, List.getElem?_cons_succ, Option.some.injEq] at ho
      subst ho
      have hda : d 8 = true := hdep { on := 8, ground := Ground.data } (by simp) rfl
      have hdc : d 5 = true := hdep { on := 5, ground := Ground.data } (by simp) rfl
      obtain ⟨g, hg, hge, hz, _⟩ := hI.al 2 (by omega) hda
      obtain ⟨X, q, hX, hq, hF⟩ := hI.cl 2 (by omega) hdc
      have e1 : T.getD b2 undef = .pointer (some ⟨g, 0, none⟩) := (hH.done 8 _ hda rfl).trans hg
      have e2 : T.getD c2 undef = .agg #[.int .i64 x2.f0, .slice X x2.f1.length q] := (hH.done 5 _ hdc rfl).trans hX
      have hz := hz hd
      have hc0 : w'.cell? ⟨g, 0, none⟩ = some (.int .i64 0) := (blk_cell hz 0).trans rfl
      have hc1 : w'.cell? ⟨g, 1, none⟩ = some (.slice none 0 0) := (blk_cell hz 1).trans rfl
      have hf0 := blk_frozen hz 0
      have hf1 := blk_frozen hz 1
      have hfin := fun u => hK u _ (OfI.store (i := 2) hI (by omega) hd hda hdc hg hX u)
      clear hK hdep hI hH hr hn hne hz
      go_simp
      exact hfin undef
  · obtain ⟨h0, hg0, hge0, _, hz0⟩ := hI.al 0 (by omega) (hall 6 (by simp))
    obtain ⟨X0, q0, hX0, hq0, hF0⟩ := (hI.cl 0 (by omega) (hall 1 (by simp))).C
    have hz0 := hz0 (hall 9 (by simp))
    have hl0 := hI.ld 0 (by omega) (hall 0 (by simp))
    simp only [Nat.reduceMul, Nat.reduceAdd] at hg0 hz0 hX0 hl0
    rw [hX0] at hz0
    obtain ⟨h1, hg1, hge1, _, hz1⟩ := hI.al 1 (by omega) (hall 7 (by simp))
    obtain ⟨X1, q1, hX1, hq1, hF1⟩ := (hI.cl 1 (by omega) (hall 3 (by simp))).C
    have hz1 := hz1 (hall 10 (by simp))
    have hl1 := hI.ld 1 (by omega) (hall 2 (by simp))
    simp only [Nat.reduceMul, Nat.reduceAdd] at hg1 hz1 hX1 hl1
    rw [hX1] at hz1
    obtain ⟨h2, hg2, hge2, _, hz2⟩ := hI.al 2 (by omega) (hall 8 (by simp))
    obtain ⟨X2, q2, hX2, hq2, hF2⟩ := (hI.cl 2 (by omega) (hall 5 (by simp))).C
    have hz2 := hz2 (hall 11 (by simp))
    have hl2 := hI.ld 2 (by omega) (hall 4 (by simp))
    simp only [Nat.reduceMul, Nat.reduceAdd] at hg2 hz2 hX2 hl2
    rw [hX2] at hz2
    have := hK w' X0 q0 h0 X1 q1 h1 X2 q2 h2 hI.below hge0 hz0 hq0 hF0 hge1 hz1 hq1 hF1 hge2 hz2 hq2 hF2
    have hlay : layAll #[{ dst := some l0, op := Op.load 24 (Operand.tmp s0), type := 24, pos := p0, after := #[], guard := none }, { dst := some c0, op := Op.call { callee := Callee.value (Operand.func 22), args := #[Operand.tmp l0], argTypes := #[24] }, type := 30, pos := p1, after := #[{ on := 0, ground := Ground.data }], guard := none }, { dst := some l1, op := Op.load 24 (Operand.tmp s1), type := 24, pos := p2, after := #[], guard := none }, { dst := some c1, op := Op.call { callee := Callee.value (Operand.func 22), args := #[Operand.tmp l1], argTypes := #[24] }, type := 30, pos := p3, after := #[{ on := 2, ground := Ground.data }, { on := 1, ground := Ground.chain }], guard := none }, { dst := some l2, op := Op.load 24 (Operand.tmp s2), type := 24, pos := p4, after := #[], guard := none }, { dst := some c2, op := Op.call { callee := Callee.value (Operand.func 22), args := #[Operand.tmp l2], argTypes := #[24] }, type := 30, pos := p5, after := #[{ on := 4, ground := Ground.data }, { on := 3, ground := Ground.chain }], guard := none }, { dst := some b0, op := Op.alloc 30, type := 0, pos := p6, after := #[], guard := none }, { dst := some b1, op := Op.alloc 30, type := 0, pos := p7, after := #[], guard := none }, { dst := some b2, op := Op.alloc 30, type := 0, pos := p8, after := #[], guard := none }, { dst := none, op := Op.store 30 (Operand.tmp b0) (Operand.tmp c0), type := 0, pos := p9, after := #[{ on := 6, ground := Ground.data }, { on := 1, ground := Ground.data }, { on := 5, ground := Ground.chain }, { on := 0, ground := Ground.phase }, { on := 1, ground := Ground.phase }, { on := 2, ground := Ground.textOnly Departure.lateStores }, { on := 3, ground := Ground.textOnly Departure.lateStoresUnsure }, { on := 4, ground := Ground.textOnly Departure.lateStores }, { on := 5, ground := Ground.textOnly Departure.lateStoresUnsure }, { on := 6, ground := Ground.phase }, { on := 7, ground := Ground.phase }, { on := 8, ground := Ground.phase }], guard := none }, { dst := none, op := Op.store 30 (Operand.tmp b1) (Operand.tmp c1), type := 0, pos := p10, after := #[{ on := 7, ground := Ground.data }, { on := 3, ground := Ground.data }, { on := 9, ground := Ground.chain }, { on := 0, ground := Ground.phase }, { on := 1, ground := Ground.phase }, { on := 2, ground := Ground.phase }, { on := 3, ground := Ground.phase }, { on := 4, ground := Ground.textOnly Departure.lateStores }, { on := 5, ground := Ground.textOnly Departure.lateStoresUnsure }, { on := 6, ground := Ground.phase }, { on := 7, ground := Ground.phase }, { on := 8, ground := Ground.phase }, { on := 9, ground := Ground.phase }], guard := none }, { dst := none, op := Op.store 30 (Operand.tmp b2) (Operand.tmp c2), type := 0, pos := p11, after := #[{ on := 8, ground := Ground.data }, { on := 5, ground := Ground.data }, { on := 10, ground := Ground.chain }, { on := 0, ground := Ground.phase }, { on := 1, ground := Ground.phase }, { on := 2, ground := Ground.phase }, { on := 3, ground := Ground.phase }, { on := 4, ground := Ground.phase }, { on := 5, ground := Ground.phase }, { on := 6, ground := Ground.phase }, { on := 7, ground := Ground.phase }, { on := 8, ground := Ground.phase }, { on := 9, ground := Ground.phase }, { on := 10, ground := Ground.phase }], guard := none }] v a.tmps = (((((((((a.tmps.setIfInBounds l0 (.agg #[.int .i64 x0.f0, .slice A0 x0.f1.length k0])).setIfInBounds c0 (.agg #[.int .i64 x0.f0, .slice X0 x0.f1.length q0])).setIfInBounds l1 (.agg #[.int .i64 x1.f0, .slice A1 x1.f1.length k1])).setIfInBounds c1 (.agg #[.int .i64 x1.f0, .slice X1 x1.f1.length q1])).setIfInBounds l2 (.agg #[.int .i64 x2.f0, .slice A2 x2.f1.length k2])).setIfInBounds c2 (.agg #[.int .i64 x2.f0, .slice X2 x2.f1.length q2])).setIfInBounds b0 (.pointer (some ⟨h0, 0, none⟩))).setIfInBounds b1 (.pointer (some ⟨h1, 0, none⟩))).setIfInBounds b2 (.pointer (some ⟨h2, 0, none⟩))) := by
      have hrange : (List.range 12) = [0, 1, 2, 3, 4, 5, 6, 7, 8, 9, 10, 11] := by decide
      unfold layAll
      simp only [List.size_toArray, List.length_cons, List.length_nil, Nat.reduceAdd, hrange, List.foldl_cons, List.foldl_nil, dstOf, List.getElem?_toArray, List.getElem?_cons_zero, List.getElem?_cons_succ, Option.bind_some, hg0, hX0, hl0, hg1, hX1, hl1, hg2, hX2, hl2]
    rw [hlay]
    exact this
end Go.Proofs.Ytpfddihcikiofaa.P
end
section
namespace Go.Proofs.Ytpfddihcikiofaa.P
open Go.RowKit Go.Proofs.YtpfddihcikiofaaW.PrintWords Go.Proofs.YtpfddihcikiofaaW.PrintLast Go.Proofs.YtpfddihcikiofaaW.PrintMore
set_option linter.unusedVariables false
set_option linter.unusedSimpArgs false
def layL : List (Option Tmp) → Nat → (Nat → Value) → Array Value → Array Value
  | [], _, _, T => T
  | some t :: r, i, v, T => layL r (i + 1) v (T.setIfInBounds t (v i))
  | none :: r, i, v, T => layL r (i + 1) v T
theorem layFirst_layL {ops : Array Oper} {m : Nat} {l : List (Option Tmp)} (h : (List.range m).map (dstOf ops) = l) (v : Nat → Value) (T : Array Value) : layFirst ops m v T = layL l 0 v T := by
  subst h
  have key : ∀ (n k : Nat) (T : Array Value), (List.range' k n).foldl (fun T i => match dstOf ops i with | some t => T.setIfInBounds t (v i) | none => T) T = layL ((List.range' k n).map (dstOf ops)) k v T := by
    intro n
    induction n with
    | zero => intro k T; rfl
    | succ n ih =>
      intro k T
      rw [List.range'_succ, List.foldl_cons, List.map_cons, ih]
      cases dstOf ops k <;> rfl
  unfold layFirst
  rw [List.range_eq_range']
  exact key m 0 T
theorem DetAll.fin {P : Program} {ops : Array Oper} {Q : Exit → Act → World → Prop} {base : Array Value} {ds : List Deferred} {w0 : World} {m i : Nat} {ps : List Told} (l : List (Option Tmp)) (hd : (List.range m).map (dstOf ops) = l) (hl : ps.length = m) (hi : i = m)
    (h : ∀ v w', Below w0.heap.size w0 w' → (∀ (j : Nat) (p : Told), ps[j]? = some p → p (v j) w') → wpAny P .any ops Q (ops.size - m) (firstDone ops.size m) { tmps := layL l 0 v base, defers := ds } w') : DetAll P ops Q base ds w0 m i ps :=
  DetAll.nil hl hi (fun v w' hb hv => by rw [layFirst_layL hd]; exact h v w' hb hv)
theorem DetAll.done {P : Program} {ops : Array Oper} {Q : Exit → Act → World → Prop} {base : Array Value} {ds : List Deferred} {w0 : World} {m i : Nat} {ps : List Told} (l : List (Option Tmp)) (hd : (List.range m).map (dstOf ops) = l) (hl : ps.length = m) (hi : i = m)
    (hr : Region.ready .any ops (firstDone ops.size m) = []) (h : ∀ v w', Below w0.heap.size w0 w' → (∀ (j : Nat) (p : Told), ps[j]? = some p → p (v j) w') → Q .normal { tmps := layL l 0 v base, defers := ds } w') : DetAll P ops Q base ds w0 m i ps :=
  DetAll.fin l hd hl hi (fun v w' hb hv => wpAny_done hr (h v w' hb hv) _)
def RowTold {α : Type} (d : Kd α) (l : List α) : Told := fun u w => ∃ A c, u = .slice A l.length c ∧ l.length ≤ c ∧ d.C w A l.length l
theorem RowTold.grows {α : Type} (d : Kd α) (l : List α) : (RowTold d l).grows := fun u w w' h hb => by
  obtain ⟨A, c, h1, h2, h3⟩ := h
  exact ⟨A, c, h1, h2, Kd.C_below h3 hb⟩
def TermTold (d : Kd S30) (f : Int) (l : List S30) : Told := fun u w => ∃ A c, u = .agg #[.int .i64 f, .slice A l.length c] ∧ l.length ≤ c ∧ d.C w A l.length l
theorem TermTold.grows (d : Kd S30) (f : Int) (l : List S30) : (TermTold d f l).grows := fun u w w' h hb => by
  obtain ⟨A, c, h1, h2, h3⟩ := h
  exact ⟨A, c, h1, h2, Kd.C_below h3 hb⟩
theorem TermTold.of {d : Kd S30} {e b : Nat} {ok : Nat → Prop} {f : Int} {l : List S30} {w : World} {v : Value} (h : d.R e w b ok v l) : TermTold d f l (.agg #[.int .i64 f, v]) w := by
  obtain ⟨A, c, rfl⟩ := Kd.R_slice h
  have h2 := Kd.R_reads' h
  exact ⟨A, c, rfl, h2.2.1, h2.2.2⟩
def BlockTold (N : Nat) (f : Nat → Value) (cs : Array Value) (t : TypeId) : Told := fun u w => ∃ g, u = f g ∧ N ≤ g ∧ w.heap[g]? = some (.cells cs t (0, 0))
theorem BlockTold.grows (N : Nat) (f : Nat → Value) (cs : Array Value) (t : TypeId) : (BlockTold N f cs t).grows := fun u w w' h hb => by
  obtain ⟨g, h1, h2, h3⟩ := h
  exact ⟨g, h1, h2, blk_below h3 hb⟩
theorem wanted_of {o : Oper} {ops : Array Oper} {T : Array Value} {j : Nat} {t : Tmp} {b want : Bool} (hg : o.guard = some (j, want)) (hd : dstOf ops j = some t) (he : T.getD t undef = .bool b) : Region.wanted o (yielded ops T) = (b == want) := by
  have h1 : T[t]? = some (.bool b) := by
    rw [Array.getD_eq_getD_getElem?] at he
    cases hx : T[t]? with
    | none => rw [hx] at he; cases he
    | some x => rw [hx] at he; simp at he; rw [he]
  unfold Region.wanted
  rw [hg]
  simp only [yielded]
  rw [show ((ops[j]?).bind (·.dst)) = some t from hd]
  simp only [Option.bind_some, h1]
  cases b <;> cases want <;> rfl
theorem wanted_none {o : Oper} (y : Nat → Option Bool) (hg : o.guard = none) : Region.wanted o y = true := by
  unfold Region.wanted
  rw [hg]
theorem wanted_yes {o : Oper} {ops : Array Oper} {T : Array Value} (j : Nat) (t : Tmp) (b : Bool) (hg : o.guard = some (j, b)) (hd : dstOf ops j = some t) (he : T.getD t undef = .bool b) : Region.wanted o (yielded ops T) = true := (wanted_of hg hd he).trans (by cases b <;> rfl)
def DetR (P : Program) (ops : Array Oper) (Q : Exit → Act → World → Prop) (base : Array Value) (ds : List Deferred) (w0 : World) (m i : Nat) (rs : List Told) : Prop := rs.length = i → DetAll P ops Q base ds w0 m i rs.reverse
theorem rev_at {rs : List Told} {i j : Nat} {p : Told} (hl : rs.length = i) (hj : j < i) (h : rs[i - 1 - j]? = some p) : rs.reverse[j]? = some p := by
  rw [List.getElem?_reverse (by omega), hl]
  exact h
theorem DetR.cons {P : Program} {ops : Array Oper} {Q : Exit → Act → World → Prop} {base : Array Value} {ds : List Deferred} {w0 : World} {m i : Nat} {rs : List Told} {o : Oper} (p : Told) (ho : ops[i]? = some o) (him : i < m) (hg : p.grows)
    (h : ∀ (T : Array Value) (w : World), Below w0.heap.size w0 w →
      (∀ j t p, j < i → (o.after.any fun e => Region.binds .any e && decide (e.on = j)) = true → dstOf ops j = some t → rs[i - 1 - j]? = some p → p (T.getD t undef) w) →
      (∀ t, ((List.range ops.size).all fun j => decide (dstOf ops j ≠ some t)) = true → T.getD t undef = base.getD t undef) →
      ∀ K : Act → World → Prop, (∀ u w2, Below w.heap.size w w2 → p u w2 → K ({ tmps := T, defers := ds : Act }.put o.dst u) w2) →
        if Region.wanted o (yielded ops T) = true then Oper.wp P o { tmps := T, defers := ds } w K Q else K ({ tmps := T, defers := ds : Act }.put o.dst undef) w)
    (hs : DetR P ops Q base ds w0 m (i + 1) (p :: rs)) : DetR P ops Q base ds w0 m i rs := fun hl => by
  refine DetAll.cons (p := p) ho (by rw [List.length_reverse, hl]) him hg (fun T w hb hd hB K hK => ?_) (by have := hs (by rw [List.length_cons, hl]); rwa [List.reverse_cons] at this)
  exact h T w hb (fun j t p hj h1 h2 h3 => hd j t p h1 h2 (rev_at hl hj h3)) hB K hK
theorem DetR.is {P : Program} {ops : Array Oper} {Q : Exit → Act → World → Prop} {base : Array Value} {ds : List Deferred} {w0 : World} {m i : Nat} {rs : List Told} {o : Oper} {u : Value} (ho : ops[i]? = some o) (him : i < m)
    (h : ∀ (T : Array Value) (w : World), Below w0.heap.size w0 w →
      (∀ j t p, j < i → (o.after.any fun e => Region.binds .any e && decide (e.on = j)) = true → dstOf ops j = some t → rs[i - 1 - j]? = some p → p (T.getD t undef) w) →
      (∀ t, ((List.range ops.size).all fun j => decide (dstOf ops j ≠ some t)) = true → T.getD t undef = base.getD t undef) →
      ∀ K : Act → World → Prop, (∀ w2, Below w.heap.size w w2 → K ({ tmps := T, defers := ds : Act }.put o.dst u) w2) →
        if Region.wanted o (yielded ops T) = true then Oper.wp P o { tmps := T, defers := ds } w K Q else K ({ tmps := T, defers := ds : Act }.put o.dst undef) w)
    (hs : DetR P ops Q base ds w0 m (i + 1) (Told.is u :: rs)) : DetR P ops Q base ds w0 m i rs :=
  DetR.cons (Told.is u) ho him (Told.is_grows u) (fun T w hb hd hB K hK => h T w hb hd hB K (fun w2 h2 => hK u w2 h2 rfl)) hs
theorem DetR.fin {P : Program} {ops : Array Oper} {Q : Exit → Act → World → Prop} {base : Array Value} {ds : List Deferred} {w0 : World} {m i : Nat} {rs : List Told} (l : List (Option Tmp)) (hd : (List.range m).map (dstOf ops) = l) (hi : i = m)
    (h : ∀ v w', Below w0.heap.size w0 w' → (∀ (j : Nat) (p : Told), j < m → rs[m - 1 - j]? = some p → p (v j) w') → wpAny P .any ops Q (ops.size - m) (firstDone ops.size m) { tmps := layL l 0 v base, defers := ds } w') : DetR P ops Q base ds w0 m i rs := fun hl =>
  DetAll.fin l hd (by rw [List.length_reverse]; omega) hi (fun v w' hb hv => h v w' hb (fun j p hj h1 => hv j p (rev_at (by omega) hj h1)))
theorem DetR.done {P : Program} {ops : Array Oper} {Q : Exit → Act → World → Prop} {base : Array Value} {ds : List Deferred} {w0 : World} {m i : Nat} {rs : List Told} (l : List (Option Tmp)) (hd : (List.range m).map (dstOf ops) = l) (hi : i = m)
    (hr : Region.ready .any ops (firstDone ops.size m) = []) (h : ∀ v w', Below w0.heap.size w0 w' → (∀ (j : Nat) (p : Told), j < m → rs[m - 1 - j]? = some p → p (v j) w') → Q .normal { tmps := layL l 0 v base, defers := ds } w') : DetR P ops Q base ds w0 m i rs :=
  DetR.fin l hd hi (fun v w' hb hv => wpAny_done hr (h v w' hb hv) _)
theorem region_detR {P : Program} {ops : Array Oper} {Q : Exit → Act → World → Prop} {id : Nat} {a : Act} {w : World} (m : Nat) (hm : P.follows .mixedOrders = true) (hr : regionOk ops a.tmps.size = true) (hw : waitsAll ops m = true) (h : DetR P ops Q a.tmps a.defers w m 0 []) : (Code.region id ops true).wp P Q a w :=
  region_det m hm hr hw (h rfl)
end Go.Proofs.Ytpfddihcikiofaa.P
end
section
namespace Go.Proofs.Ytpfddihcikiofaa.P
open Go.RowKit Go.Proofs.YtpfddihcikiofaaW.PrintWords Go.Proofs.YtpfddihcikiofaaW.PrintLast Go.Proofs.YtpfddihcikiofaaW.PrintMore
attribute [local go_sem] max2_int min2_int max_two min_two max_three min_three max_four min_four
set_option linter.unusedVariables false
set_option linter.unusedSimpArgs false
def cmp_isNaN_int.f (a0 : Int) : Option (Bool) := some (a0 != a0)
set_option maxHeartbeats 8000000 in
set_option maxRecDepth 100000 in
theorem cmp_isNaN_int.calls (a0 : Int) (r : Bool) (w : World) (h : cmp_isNaN_int.f a0 = some r) :
    Calls Try.prog 106 #[.int .i64 a0] w fun e w' => e = .returned (.bool r) ∧ Drawn0 w w' := by
  have H : (some (a0 != a0)) = some r := h
  clear h
  obtain rfl := Option.some.inj H
  go_enter Try.func106, Try.ntmps106
  go_wp2
  go_ret
  exact ⟨by first | rfl | (simp; done) | (simp [*]; done), by repeat (first | exact Drawn0.refl _ | apply Drawn0.step)⟩
end Go.Proofs.Ytpfddihcikiofaa.P
end
section
namespace Go.Proofs.Ytpfddihcikiofaa.P
open Go.RowKit Go.Proofs.YtpfddihcikiofaaW.PrintWords Go.Proofs.YtpfddihcikiofaaW.PrintLast Go.Proofs.YtpfddihcikiofaaW.PrintMore
attribute [local go_sem] max2_int min2_int max_two min_two max_three min_three max_four min_four
set_option linter.unusedVariables false
set_option linter.unusedSimpArgs false
def cmp_Compare_int.f (a0 : Int) (a1 : Int) : Option (Int) := (cmp_isNaN_int.f a0).bind fun t258 => ((cmp_isNaN_int.f a1).bind fun t259 => (if t258 = true then (if t259 = true then (some 0) else (some (-1))) else (if t259 = true then (some 1) else (if a0 < a1 then (some (-1)) else (if a0 > a1 then (some 1) else (some 0))))))
set_option maxHeartbeats 8000000 in
set_option maxRecDepth 100000 in
theorem cmp_Compare_int.calls (a0 : Int) (a1 : Int) (r : Int) (w : World) (h : cmp_Compare_int.f a0 a1 = some r) :
    Calls Try.prog 76 #[.int .i64 a0, .int .i64 a1] w fun e w' => e = .returned (.int .i64 r) ∧ Drawn0 w w' := by
  have H : ((cmp_isNaN_int.f a0).bind fun t258 => ((cmp_isNaN_int.f a1).bind fun t259 => (if t258 = true then (if t259 = true then (some 0) else (some (-1))) else (if t259 = true then (some 1) else (if a0 < a1 then (some (-1)) else (if a0 > a1 then (some 1) else (some 0))))))) = some r := h
  clear h
  replace H := Option.bind_eq_some_iff.mp H
  obtain ⟨t258, A30, H⟩ := H
  replace H : ((cmp_isNaN_int.f a1).bind fun t259 => (if t258 = true then (if t259 = true then (some 0) else (some (-1))) else (if t259 = true then (some 1) else (if a0 < a1 then (some (-1)) else (if a0 > a1 then (some 1) else (some 0)))))) = some r := H
  have A3 := Aside0.mk A30
  clear A30
  replace H := Option.bind_eq_some_iff.mp H
  obtain ⟨t259, A40, H⟩ := H
  replace H : (if t258 = true then (if t259 = true then (some 0) else (some (-1))) else (if t259 = true then (some 1) else (if a0 < a1 then (some (-1)) else (if a0 > a1 then (some 1) else (some 0))))) = some r := H
  have A4 := Aside0.mk A40
  clear A40
  by_cases c5 : t258 = true
  · subst c5
    have H1 : (if t259 = true then (some 0) else (some (-1))) = some r := by rw [if_pos rfl] at H; exact H
    clear H
    have H := H1
    clear H1
    by_cases c6 : t259 = true
    · subst c6
      have H1 : (some 0) = some r := by rw [if_pos rfl] at H; exact H
      clear H
      have H := H1
      clear H1
      obtain rfl := Option.some.inj H
      go_enter Try.func76, Try.ntmps76
      go_wp2_with (first | ((with_reducible refine gate_callee (f := 106) rfl ?_); refine goesL_ (some 8) rfl rfl Try.func106 (by kernel_rfl) rfl #[.int .i64 a0] rfl (by (try simp only [List.map_toArray, List.map_cons, List.map_nil]); first | done | rfl | (simp only [List.length_drop, List.length_take]; rfl)) ?_; (with_reducible refine (cmp_isNaN_int.calls a0 true _ A3.out).mono ?_); rintro e w' ⟨rfl, ⟨nd, rfl⟩⟩; refine ⟨_, rfl, ?_⟩) | ((with_reducible refine gate_callee (f := 106) rfl ?_); refine goesL_ (some 10) rfl rfl Try.func106 (by kernel_rfl) rfl #[.int .i64 a1] rfl (by (try simp only [List.map_toArray, List.map_cons, List.map_nil]); first | done | rfl | (simp only [List.length_drop, List.length_take]; rfl)) ?_; (with_reducible refine (cmp_isNaN_int.calls a1 true _ A4.out).mono ?_); rintro e w' ⟨rfl, ⟨nd, rfl⟩⟩; refine ⟨_, rfl, ?_⟩))
      go_ret
      exact ⟨by first | rfl | (simp; done) | (simp [*]; done), by repeat (first | exact Drawn0.refl _ | apply Drawn0.step)⟩
    · replace c6 := Bool.eq_false_iff.mpr c6
      subst c6
      have H1 : (some (-1)) = some r := by rw [if_neg (show ¬ (false = true) by decide)] at H; exact H
      clear H
      have H := H1
      clear H1
      obtain rfl := Option.some.inj H
      go_enter Try.func76, Try.ntmps76
      go_wp2_with (first | ((with_reducible refine gate_callee (f := 106) rfl ?_); refine goesL_ (some 8) rfl rfl Try.func106 (by kernel_rfl) rfl #[.int .i64 a0] rfl (by (try simp only [List.map_toArray, List.map_cons, List.map_nil]); first | done | rfl | (simp only [List.length_drop, List.length_take]; rfl)) ?_; (with_reducible refine (cmp_isNaN_int.calls a0 true _ A3.out).mono ?_); rintro e w' ⟨rfl, ⟨nd, rfl⟩⟩; refine ⟨_, rfl, ?_⟩) | ((with_reducible refine gate_callee (f := 106) rfl ?_); refine goesL_ (some 10) rfl rfl Try.func106 (by kernel_rfl) rfl #[.int .i64 a1] rfl (by (try simp only [List.map_toArray, List.map_cons, List.map_nil]); first | done | rfl | (simp only [List.length_drop, List.length_take]; rfl)) ?_; (with_reducible refine (cmp_isNaN_int.calls a1 false _ A4.out).mono ?_); rintro e w' ⟨rfl, ⟨nd, rfl⟩⟩; refine ⟨_, rfl, ?_⟩))
      go_ret
      exact ⟨by first | rfl | (simp; done) | (simp [*]; done), by repeat (first | exact Drawn0.refl _ | apply Drawn0.step)⟩
  · replace c5 := Bool.eq_false_iff.mpr c5
    subst c5
    have H1 : (if t259 = true then (some 1) else (if a0 < a1 then (some (-1)) else (if a0 > a1 then (some 1) else (some 0)))) = some r := by rw [if_neg (show ¬ (false = true) by decide)] at H; exact H
    clear H
    have H := H1
    clear H1
    by_cases c7 : t259 = true
    · subst c7
      have H1 : (some 1) = some r := by rw [if_pos rfl] at H; exact H
      clear H
      have H := H1
      clear H1
      obtain rfl := Option.some.inj H
      go_enter Try.func76, Try.ntmps76
      go_wp2_with (first | ((with_reducible refine gate_callee (f := 106) rfl ?_); refine goesL_ (some 8) rfl rfl Try.func106 (by kernel_rfl) rfl #[.int .i64 a0] rfl (by (try simp only [List.map_toArray, List.map_cons, List.map_nil]); first | done | rfl | (simp only [List.length_drop, List.length_take]; rfl)) ?_; (with_reducible refine (cmp_isNaN_int.calls a0 false _ A3.out).mono ?_); rintro e w' ⟨rfl, ⟨nd, rfl⟩⟩; refine ⟨_, rfl, ?_⟩) | ((with_reducible refine gate_callee (f := 106) rfl ?_); refine goesL_ (some 10) rfl rfl Try.func106 (by kernel_rfl) rfl #[.int .i64 a1] rfl (by (try simp only [List.map_toArray, List.map_cons, List.map_nil]); first | done | rfl | (simp only [List.length_drop, List.length_take]; rfl)) ?_; (with_reducible refine (cmp_isNaN_int.calls a1 true _ A4.out).mono ?_); rintro e w' ⟨rfl, ⟨nd, rfl⟩⟩; refine ⟨_, rfl, ?_⟩))
      go_ret
      exact ⟨by first | rfl | (simp; done) | (simp [*]; done), by repeat (first | exact Drawn0.refl _ | apply Drawn0.step)⟩
    · replace c7 := Bool.eq_false_iff.mpr c7
      subst c7
      have H1 : (if a0 < a1 then (some (-1)) else (if a0 > a1 then (some 1) else (some 0))) = some r := by rw [if_neg (show ¬ (false = true) by decide)] at H; exact H
      clear H
      have H := H1
      clear H1
      by_cases c8 : a0 < a1
      · rw [if_pos c8] at H
        have c8b0 : decide (a0 < a1) = true := decide_eq_true c8
        clear c8
        obtain rfl := Option.some.inj H
        go_enter Try.func76, Try.ntmps76
        go_wp2_with (first | ((with_reducible refine gate_callee (f := 106) rfl ?_); refine goesL_ (some 8) rfl rfl Try.func106 (by kernel_rfl) rfl #[.int .i64 a0] rfl (by (try simp only [List.map_toArray, List.map_cons, List.map_nil]); first | done | rfl | (simp only [List.length_drop, List.length_take]; rfl)) ?_; (with_reducible refine (cmp_isNaN_int.calls a0 false _ A3.out).mono ?_); rintro e w' ⟨rfl, ⟨nd, rfl⟩⟩; refine ⟨_, rfl, ?_⟩) | ((with_reducible refine gate_callee (f := 106) rfl ?_); refine goesL_ (some 10) rfl rfl Try.func106 (by kernel_rfl) rfl #[.int .i64 a1] rfl (by (try simp only [List.map_toArray, List.map_cons, List.map_nil]); first | done | rfl | (simp only [List.length_drop, List.length_take]; rfl)) ?_; (with_reducible refine (cmp_isNaN_int.calls a1 false _ A4.out).mono ?_); rintro e w' ⟨rfl, ⟨nd, rfl⟩⟩; refine ⟨_, rfl, ?_⟩))
        go_ret
        exact ⟨by first | rfl | (simp; done) | (simp [*]; done), by repeat (first | exact Drawn0.refl _ | apply Drawn0.step)⟩
      · rw [if_neg c8] at H
        have c8b0 : decide (a0 < a1) = false := decide_eq_false c8
        clear c8
        by_cases c9 : a0 > a1
        · rw [if_pos c9] at H
          have c9b0 : decide (a1 < a0) = true := decide_eq_true c9
          clear c9
          obtain rfl := Option.some.inj H
          go_enter Try.func76, Try.ntmps76
          go_wp2_with (first | ((with_reducible refine gate_callee (f := 106) rfl ?_); refine goesL_ (some 8) rfl rfl Try.func106 (by kernel_rfl) rfl #[.int .i64 a0] rfl (by (try simp only [List.map_toArray, List.map_cons, List.map_nil]); first | done | rfl | (simp only [List.length_drop, List.length_take]; rfl)) ?_; (with_reducible refine (cmp_isNaN_int.calls a0 false _ A3.out).mono ?_); rintro e w' ⟨rfl, ⟨nd, rfl⟩⟩; refine ⟨_, rfl, ?_⟩) | ((with_reducible refine gate_callee (f := 106) rfl ?_); refine goesL_ (some 10) rfl rfl Try.func106 (by kernel_rfl) rfl #[.int .i64 a1] rfl (by (try simp only [List.map_toArray, List.map_cons, List.map_nil]); first | done | rfl | (simp only [List.length_drop, List.length_take]; rfl)) ?_; (with_reducible refine (cmp_isNaN_int.calls a1 false _ A4.out).mono ?_); rintro e w' ⟨rfl, ⟨nd, rfl⟩⟩; refine ⟨_, rfl, ?_⟩))
          go_ret
          exact ⟨by first | rfl | (simp; done) | (simp [*]; done), by repeat (first | exact Drawn0.refl _ | apply Drawn0.step)⟩
        · rw [if_neg c9] at H
          have c9b0 : decide (a1 < a0) = false := decide_eq_false c9
          clear c9
          obtain rfl := Option.some.inj H
          go_enter Try.func76, Try.ntmps76
          go_wp2_with (first | ((with_reducible refine gate_callee (f := 106) rfl ?_); refine goesL_ (some 8) rfl rfl Try.func106 (by kernel_rfl) rfl #[.int .i64 a0] rfl (by (try simp only [List.map_toArray, List.map_cons, List.map_nil]); first | done | rfl | (simp only [List.length_drop, List.length_take]; rfl)) ?_; (with_reducible refine (cmp_isNaN_int.calls a0 false _ A3.out).mono ?_); rintro e w' ⟨rfl, ⟨nd, rfl⟩⟩; refine ⟨_, rfl, ?_⟩) | ((with_reducible refine gate_callee (f := 106) rfl ?_); refine goesL_ (some 10) rfl rfl Try.func106 (by kernel_rfl) rfl #[.int .i64 a1] rfl (by (try simp only [List.map_toArray, List.map_cons, List.map_nil]); first | done | rfl | (simp only [List.length_drop, List.length_take]; rfl)) ?_; (with_reducible refine (cmp_isNaN_int.calls a1 false _ A4.out).mono ?_); rintro e w' ⟨rfl, ⟨nd, rfl⟩⟩; refine ⟨_, rfl, ?_⟩))
          go_ret
          exact ⟨by first | rfl | (simp; done) | (simp [*]; done), by repeat (first | exact Drawn0.refl _ | apply Drawn0.step)⟩
end Go.Proofs.Ytpfddihcikiofaa.P
end
section
namespace Go.Proofs.Ytpfddihcikiofaa.P
open Go.RowKit Go.Proofs.YtpfddihcikiofaaW.PrintWords Go.Proofs.YtpfddihcikiofaaW.PrintLast Go.Proofs.YtpfddihcikiofaaW.PrintMore
attribute [local go_sem] max2_int min2_int max_two min_two max_three min_three max_four min_four
set_option linter.unusedVariables false
set_option linter.unusedSimpArgs false
def cmp_Or_int.l0 : Nat → Int → List Int → Int → Int → Option (Int)
  | 0, _, _, _, _ => none
  | k + 1, x3, x6, x7, x8 => if x8 < x7 then (if 0 ≤ x8 then (if x8 < (x6.length : Int) then (if (rd x6 x8) = x3 then (cmp_Or_int.l0 k x3 x6 x7 (wrap64 (x8 + 1))) else (some (rd x6 x8))) else (none)) else (none)) else (some x3)
def cmp_Or_int.f (k : Nat) (l0 : List Int) : Option (Int) := cmp_Or_int.l0 k 0 l0 (l0.length : Int) 0
set_option maxHeartbeats 8000000 in
set_option maxRecDepth 100000 in
theorem cmp_Or_int.calls (k : Nat) (A0 : Option Addr) (c0 : Nat) (l0 : List Int) (r : Int) (w : World) (hr0 : Kd.C (Kd.int .i64) w A0 l0.length l0) (hc0 : l0.length ≤ c0) (h : cmp_Or_int.f k l0 = some r) :
    Calls Try.prog 77 #[.slice A0 l0.length c0] w fun e w' => e = .returned (.int .i64 r) ∧ Drawn0 w w' := by
  have HR0 := Aside0.mk hr0
  have HC0 := Aside0.mk hc0
  clear hr0 hc0
  have H : (cmp_Or_int.l0 k 0 l0 (l0.length : Int) 0) = some r := h
  clear h
  have H' := Aside0.mk H
  clear H
  go_enter Try.func77, Try.ntmps77
  go_wp2
  go_loopg [8] k (fun kq v8 w' => ∃ (x8_1 : Int), v8 = .int .i64 x8_1 ∧ Aside0 (cmp_Or_int.l0 kq 0 l0 (l0.length : Int) x8_1 = some r) ∧ Aside0 (kq ≤ k) ∧ Drawn0 w w')
  case atStart => exact ⟨(0), (by first | rfl | (simp; done) | (simp [*]; done)), H', ⟨Nat.le_refl _⟩, by repeat (first | exact Drawn0.refl _ | apply Drawn0.step)⟩
  case round =>
    clear H'
    obtain ⟨x8_1, rfl, HA, HK1, ⟨m1, rfl⟩⟩ := hrel
    cases gk with
    | zero => exact absurd HA.out (by simp [cmp_Or_int.l0])
    | succ k1 =>
      have H := HA.out
      clear HA
      simp only [cmp_Or_int.l0] at H
      by_cases c2 : x8_1 < (l0.length : Int)
      · rw [if_pos c2] at H
        have c2b0 : decide (x8_1 < (l0.length : Int)) = true := decide_eq_true c2
        clear c2
        by_cases c3 : 0 ≤ x8_1
        · rw [if_pos c3] at H
          have c3b0 : decide (0 ≤ x8_1) = true := decide_eq_true c3
          clear c3
          by_cases c4 : x8_1 < (l0.length : Int)
          · rw [if_pos c4] at H
            have c4b0 : decide (x8_1 < (l0.length : Int)) = true := decide_eq_true c4
            clear c4
            by_cases c5 : (rd l0 x8_1) = 0
            · rw [if_pos c5] at H
              have c5b0 : ((rd l0 x8_1) == 0) = true := beq_iff_eq.mpr c5
              have c5b1 : ((rd l0 x8_1) != 0) = false := bne_eq_false_iff_eq.mpr c5
              clear c5
              have H' := Aside0.mk H
              clear H
              have p260 : 0 ≤ (x8_1 : Int) := of_decide_eq_true (by first | (with_reducible assumption) | assumption)
              have q260 : x8_1 < (l0.length : Int) := of_decide_eq_true (by first | (with_reducible assumption) | assumption)
              obtain ⟨ad260, e260, hx260_0⟩ := Kd.at_int HR0.out x8_1 p260 q260
              cases e260
              replace p260 := eq_true p260
              replace q260 := eq_true q260
              go_wp2
              go_roundg k1
              case measure => have := HK1.out; omega
              case rel => exact ⟨(wrap64 (x8_1 + 1)), (by first | rfl | (simp; done) | (simp [*]; done)), H', ⟨by have := HK1.out; omega⟩, by repeat (first | exact Drawn0.refl _ | apply Drawn0.step)⟩
            · rw [if_neg c5] at H
              have c5b0 : ((rd l0 x8_1) == 0) = false := beq_eq_false_iff_ne.mpr c5
              have c5b1 : ((rd l0 x8_1) != 0) = true := bne_iff_ne.mpr c5
              obtain rfl := Option.some.inj H
              have p260 : 0 ≤ (x8_1 : Int) := of_decide_eq_true (by first | (with_reducible assumption) | assumption)
              have q260 : x8_1 < (l0.length : Int) := of_decide_eq_true (by first | (with_reducible assumption) | assumption)
              obtain ⟨ad260, e260, hx260_0⟩ := Kd.at_int HR0.out x8_1 p260 q260
              cases e260
              replace p260 := eq_true p260
              replace q260 := eq_true q260
              go_wp2
              go_ret
              exact ⟨by first | rfl | (simp; done) | (simp [*]; done), by repeat (first | exact Drawn0.refl _ | apply Drawn0.step)⟩
          · rw [if_neg c4] at H
            exact absurd H (by simp)
        · rw [if_neg c3] at H
          exact absurd H (by simp)
      · rw [if_neg c2] at H
        have c2b0 : decide (x8_1 < (l0.length : Int)) = false := decide_eq_false c2
        clear c2
        obtain rfl := Option.some.inj H
        go_wp2
        go_ret
        exact ⟨by first | rfl | (simp; done) | (simp [*]; done), by repeat (first | exact Drawn0.refl _ | apply Drawn0.step)⟩
end Go.Proofs.Ytpfddihcikiofaa.P
end
section
namespace Go.Proofs.Ytpfddihcikiofaa.P
open Go.RowKit Go.Proofs.YtpfddihcikiofaaW.PrintWords Go.Proofs.YtpfddihcikiofaaW.PrintLast Go.Proofs.YtpfddihcikiofaaW.PrintMore
set_option linter.unusedVariables false
set_option linter.unusedSimpArgs false
def cmpI (a b : Int) : Int := if a < b then -1 else if a > b then 1 else 0
def orI (a b c : Int) : Int := if a = 0 then (if b = 0 then c else b) else a
mutual
def cmpT : S30 → S30 → Int
  | ⟨f, l⟩, ⟨g, m⟩ => if f < 0 ∨ g < 0 then (if f < 0 ∧ g < 0 then cmpI g f else cmpI f g) else orI (cmpI f g) (cmpI l.length m.length) (cmpTs l m)
def cmpTs : List S30 → List S30 → Int
  | [], [] => 0
  | [], _ :: _ => -1
  | _ :: _, [] => 1
  | x :: l, y :: m => if cmpT x y = 0 then cmpTs l m else cmpT x y
end
theorem isNaN_f (a : Int) : cmp_isNaN_int.f a = some false := by simp [cmp_isNaN_int.f]
theorem cmpI_f (a b : Int) : cmp_Compare_int.f a b = some (cmpI a b) := by
  simp only [cmp_Compare_int.f, isNaN_f, Option.bind_some, cmpI]
  simp
  split
  · rfl
  · split <;> rfl
theorem orI_f (a b c : Int) : Ev (fun k => cmp_Or_int.f k [a, b, c]) (orI a b c) := by
  refine ⟨4, fun k hk => ?_⟩
  obtain ⟨k, rfl⟩ : ∃ m, k = m + 4 := ⟨k - 4, by omega⟩
  simp only [cmp_Or_int.f, cmp_Or_int.l0, rd, List.length_cons, List.length_nil, orI, wrap64]
  simp
  by_cases ha : a = 0
  · simp [ha]
    by_cases hb : b = 0
    · simp [hb]
      by_cases hc : c = 0
      · simp [hc]
      · simp [hc]
    · simp [hb]
  · simp [ha]
def term_Compare.f (a0_0 : Int) (l0_1 : List S30) (a1_0 : Int) (l1_1 : List S30) : Option Int := some (cmpT ⟨a0_0, l0_1⟩ ⟨a1_0, l1_1⟩)
set_option maxHeartbeats 4000000 in
set_option maxRecDepth 100000 in
theorem Compare_r5 {id : Nat} {a : Act} {w : World} {Q : Exit → Act → World → Prop} {f g c1 c2 c3 r : Int} {A B : Option Addr} {nl nm c e g0 g1 : Nat}
    (hr : regionOk #[{ dst := some 31, op := Op.fieldAddr 30 (Operand.tmp 2) 0, type := 0, pos := "term.go:32", after := #[], guard := none }, { dst := some 32, op := Op.load 3 (Operand.tmp 31), type := 3, pos := "term.go:32", after := #[{ on := 0, ground := Ground.data }], guard := none }, { dst := some 33, op := Op.fieldAddr 30 (Operand.tmp 3) 0, type := 0, pos := "term.go:32", after := #[], guard := none }, { dst := some 34, op := Op.load 3 (Operand.tmp 33), type := 3, pos := "term.go:32", after := #[{ on := 2, ground := Ground.data }], guard := none }, { dst := some 35, op := Op.call { callee := Callee.value (Operand.func 76), args := #[Operand.tmp 32, Operand.tmp 34], argTypes := #[3, 3] }, type := 3, pos := "term.go:32", after := #[{ on := 1, ground := Ground.data }, { on := 3, ground := Ground.data }], guard := none }, { dst := some 36, op := Op.fieldAddr 30 (Operand.tmp 2) 1, type := 0, pos := "term.go:32", after := #[], guard := none }, { dst := some 37, op := Op.load 28 (Operand.tmp 36), type := 28, pos := "term.go:32", after := #[{ on := 5, ground := Ground.data }], guard := none }, { dst := some 38, op := Op.call { callee := Callee.builtin Builtin.len, args := #[Operand.tmp 37], argTypes := #[28] }, type := 3, pos := "term.go:32", after := #[{ on := 6, ground := Ground.data }], guard := none }, { dst := some 39, op := Op.fieldAddr 30 (Operand.tmp 3) 1, type := 0, pos := "term.go:32", after := #[], guard := none }, { dst := some 40, op := Op.load 28 (Operand.tmp 39), type := 28, pos := "term.go:32", after := #[{ on := 8, ground := Ground.data }], guard := none }, { dst := some 41, op := Op.call { callee := Callee.builtin Builtin.len, args := #[Operand.tmp 40], argTypes := #[28] }, type := 3, pos := "term.go:32", after := #[{ on := 9, ground := Ground.data }], guard := none }, { dst := some 42, op := Op.call { callee := Callee.value (Operand.func 76), args := #[Operand.tmp 38, Operand.tmp 41], argTypes := #[3, 3] }, type := 3, pos := "term.go:32", after := #[{ on := 7, ground := Ground.data }, { on := 10, ground := Ground.data }, { on := 4, ground := Ground.chain }], guard := none }, { dst := some 43, op := Op.fieldAddr 30 (Operand.tmp 2) 1, type := 0, pos := "term.go:32", after := #[], guard := none }, { dst := some 44, op := Op.load 28 (Operand.tmp 43), type := 28, pos := "term.go:32", after := #[{ on := 12, ground := Ground.data }], guard := none }, { dst := some 45, op := Op.fieldAddr 30 (Operand.tmp 3) 1, type := 0, pos := "term.go:32", after := #[], guard := none }, { dst := some 46, op := Op.load 28 (Operand.tmp 45), type := 28, pos := "term.go:32", after := #[{ on := 14, ground := Ground.data }], guard := none }, { dst := some 47, op := Op.call { callee := Callee.value (Operand.func 78), args := #[Operand.tmp 44, Operand.tmp 46, Operand.func 36], argTypes := #[28, 28, 49] }, type := 3, pos := "term.go:32", after := #[{ on := 13, ground := Ground.data }, { on := 15, ground := Ground.data }, { on := 11, ground := Ground.chain }], guard := none }, { dst := some 48, op := Op.buildSlice 25 3 #[(0, Operand.tmp 35), (1, Operand.tmp 42), (2, Operand.tmp 47)], type := 25, pos := "term.go:32", after := #[{ on := 4, ground := Ground.data }, { on := 11, ground := Ground.data }, { on := 16, ground := Ground.data }], guard := none }, { dst := some 49, op := Op.call { callee := Callee.value (Operand.func 77), args := #[Operand.tmp 48], argTypes := #[25] }, type := 3, pos := "term.go:32", after := #[{ on := 17, ground := Ground.data }, { on := 16, ground := Ground.chain }], guard := none }, { dst := some 4, op := Op.assign (Operand.tmp 49), type := 3, pos := "term.go:32", after := #[{ on := 18, ground := Ground.data }, { on := 18, ground := Ground.chain }, { on := 0, ground := Ground.phase }, { on := 1, ground := Ground.phase }, { on := 2, ground := Ground.phase }, { on := 3, ground := Ground.phase }, { on := 4, ground := Ground.phase }, { on := 5, ground := Ground.phase }, { on := 6, ground := Ground.phase }, { on := 7, ground := Ground.phase }, { on := 8, ground := Ground.phase }, { on := 9, ground := Ground.phase }, { on := 10, ground := Ground.phase }, { on := 11, ground := Ground.phase }, { on := 12, ground := Ground.phase }, { on := 13, ground := Ground.phase }, { on := 14, ground := Ground.phase }, { on := 15, ground := Ground.phase }, { on := 16, ground := Ground.phase }, { on := 17, ground := Ground.phase }, { on := 18, ground := Ground.phase }], guard := none }] a.tmps.size = true)
    (hT2 : a.tmps.getD 2 undef = .pointer (some ⟨g0, 0, none⟩)) (hX2 : w.heap[g0]? = some (.cells #[.int .i64 f, .slice A nl c] 30 (0, 0)))
    (hT3 : a.tmps.getD 3 undef = .pointer (some ⟨g1, 0, none⟩)) (hX3 : w.heap[g1]? = some (.cells #[.int .i64 g, .slice B nm e] 30 (0, 0)))
    (hF4 : ∀ w1, Below w.heap.size w w1 → Calls Try.prog 76 #[.int .i64 f, .int .i64 g] w1 fun e w2 => e = .returned (.int .i64 c1) ∧ Below w1.heap.size w1 w2)
    (hF11 : ∀ w1, Below w.heap.size w w1 → Calls Try.prog 76 #[.int .i64 (nl : Int), .int .i64 (nm : Int)] w1 fun e w2 => e = .returned (.int .i64 c2) ∧ Below w1.heap.size w1 w2)
    (hF16 : ∀ w1, Below w.heap.size w w1 → Calls Try.prog 78 #[.slice A nl c, .slice B nm e, .func (.func 36) #[] #[]] w1 fun e w2 => e = .returned (.int .i64 c3) ∧ Below w1.heap.size w1 w2)
    (hO : ∀ (w1 : World) (gs : Nat), w1.heap[gs]? = some (.cells #[.int .i64 c1, .int .i64 c2, .int .i64 c3] 3 (0, 0)) → Calls Try.prog 77 #[.slice (some ⟨gs, 0, none⟩) 3 3] w1 fun x w2 => x = .returned (.int .i64 r) ∧ Below w1.heap.size w1 w2) (hle : nl ≤ c) (hme : nm ≤ e)
    (hK : ∀ v w', Below w.heap.size w w' → v 19 = .int .i64 r → Q .normal { tmps := layL [some 31, some 32, some 33, some 34, some 35, some 36, some 37, some 38, some 39, some 40, some 41, some 42, some 43, some 44, some 45, some 46, some 47, some 48, some 49, some 4] 0 v a.tmps, defers := a.defers } w') :
    (Code.region id #[{ dst := some 31, op := Op.fieldAddr 30 (Operand.tmp 2) 0, type := 0, pos := "term.go:32", after := #[], guard := none }, { dst := some 32, op := Op.load 3 (Operand.tmp 31), type := 3, pos := "term.go:32", after := #[{ on := 0, ground := Ground.data }], guard := none }, { dst := some 33, op := Op.fieldAddr 30 (Operand.tmp 3) 0, type := 0, pos := "term.go:32", after := #[], guard := none }, { dst := some 34, op := Op.load 3 (Operand.tmp 33), type := 3, pos := "term.go:32", after := #[{ on := 2, ground := Ground.data }], guard := none }, { dst := some 35, op := Op.call { callee := Callee.value (Operand.func 76), args := #[Operand.tmp 32, Operand.tmp 34], argTypes := #[3, 3] }, type := 3, pos := "term.go:32", after := #[{ on := 1, ground := Ground.data }, { on := 3, ground := Ground.data }], guard := none }, { dst := some 36, op := Op.fieldAddr 30 (Operand.tmp 2) 1, type := 0, pos := "term.go:32", after := #[], guard := none }, { dst := some 37, op := Op.load 28 (Operand.tmp 36), type := 28, pos := "term.go:32", after := #[{ on := 5, ground := Ground.data }], guard := none }, { dst := some 38, op := Op.call { callee := Callee.builtin Builtin.len, args := #[Operand.tmp 37], argTypes := #[28] }, type := 3, pos := "term.go:32", after := #[{ on := 6, ground := Ground.data }], guard := none }, { dst := some 39, op := Op.fieldAddr 30 (Operand.tmp 3) 1, type := 0, pos := "term.go:32", after := #[], guard := none }, { dst := some 40, op := Op.load 28 (Operand.tmp 39), type := 28, pos := "term.go:32", after := #[{ on := 8, ground := Ground.data }], guard := none }, { dst := some 41, op := Op.call { callee := Callee.builtin Builtin.len, args := #[Operand.tmp 40], argTypes := #[28] }, type := 3, pos := "term.go:32", after := #[{ on := 9, ground := Ground.data }], guard := none }, { dst := some 42, op := Op.call { callee := Callee.value (Operand.func 76), args := #[Operand.tmp 38, Operand.tmp 41], argTypes := #[3, 3] }, type := 3, pos := "term.go:32", after := #[{ on := 7, ground := Ground.data }, { on := 10, ground := Ground.data }, { on := 4, ground := Ground.chain }], guard := none }, { dst := some 43, op := Op.fieldAddr 30 (Operand.tmp 2) 1, type := 0, pos := "term.go:32", after := #[], guard := none }, { dst := some 44, op := Op.load 28 (Operand.tmp 43), type := 28, pos := "term.go:32", after := #[{ on := 12, ground := Ground.data }], guard := none }, { dst := some 45, op := Op.fieldAddr 30 (Operand.tmp 3) 1, type := 0, pos := "term.go:32", after := #[], guard := none }, { dst := some 46, op := Op.load 28 (Operand.tmp 45), type := 28, pos := "term.go:32", after := #[{ on := 14, ground := Ground.data }], guard := none }, { dst := some 47, op := Op.call { callee := Callee.value (Operand.func 78), args := #[Operand.tmp 44, Operand.tmp 46, Operand.func 36], argTypes := #[28, 28, 49] }, type := 3, pos := "term.go:32", after := #[{ on := 13, ground := Ground.data }, { on := 15, ground := Ground.data }, { on := 11, ground := Ground.chain }], guard := none }, { dst := some 48, op := Op.buildSlice 25 3 #[(0, Operand.tmp 35), (1, Operand.tmp 42), (2, Operand.tmp 47)], type := 25, pos := "term.go:32", after := #[{ on := 4, ground := Ground.data }, { on := 11, ground := Ground.data }, { on := 16, ground := Ground.data }], guard := none }, { dst := some 49, op := Op.call { callee := Callee.value (Operand.func 77), args := #[Operand.tmp 48], argTypes := #[25] }, type := 3, pos := "term.go:32", after := #[{ on := 17, ground := Ground.data }, { on := 16, ground := Ground.chain }], guard := none }, { dst := some 4, op := Op.assign (Operand.tmp 49), type := 3, pos := "term.go:32", after := #[{ on := 18, ground := Ground.data }, { on := 18, ground := Ground.chain }, { on := 0, ground := Ground.phase }, { on := 1, ground := Ground.phase }, { on := 2, ground := Ground.phase }, { on := 3, ground := Ground.phase }, { on := 4, ground := Ground.phase }, { on := 5, ground := Ground.phase }, { on := 6, ground := Ground.phase }, { on := 7, ground := Ground.phase }, { on := 8, ground := Ground.phase }, { on := 9, ground := Ground.phase }, { on := 10, ground := Ground.phase }, { on := 11, ground := Ground.phase }, { on := 12, ground := Ground.phase }, { on := 13, ground := Ground.phase }, { on := 14, ground := Ground.phase }, { on := 15, ground := Ground.phase }, { on := 16, ground := Ground.phase }, { on := 17, ground := Ground.phase }, { on := 18, ground := Ground.phase }], guard := none }] true).wp Try.prog Q a w := by
  have hmx : Try.prog.follows .mixedOrders = true := by kernel_rfl
  refine region_detR 20 hmx hr (by kernel_rfl) ?_
  refine DetR.is (o := { dst := some 31, op := Op.fieldAddr 30 (Operand.tmp 2) 0, type := 0, pos := "term.go:32", after := #[], guard := none }) (u := ?ux1) rfl (by decide) (fun T w' hb hd hB K hK => ?sx1) ?rx1
  case sx1 =>
    have e2 := (hB 2 (by kernel_rfl)).trans hT2
    have q2_0 : w'.cell? ⟨g0, 0, none⟩ = some (.int .i64 f) := (blk_cell (blk_below hX2 hb) 0).trans rfl
    have q2_1 : w'.cell? ⟨g0, 1, none⟩ = some (.slice A nl c) := (blk_cell (blk_below hX2 hb) 1).trans rfl
    rw [if_pos (wanted_none _ rfl)]
    clear hd hB
    go_simp
    exact hK _ (Below.refl _ _)
  refine DetR.is (o := { dst := some 32, op := Op.load 3 (Operand.tmp 31), type := 3, pos := "term.go:32", after := #[{ on := 0, ground := Ground.data }], guard := none }) (u := ?ux2) rfl (by decide) (fun T w' hb hd hB K hK => ?sx2) ?rx2
  case sx2 =>
    have e31 := hd 0 31 _ (by decide) (by kernel_rfl) rfl rfl
    replace e31 : T.getD 31 undef = _ := e31
    rw [if_pos (wanted_none _ rfl)]
    have q2_0 : w'.cell? ⟨g0, 0, none⟩ = some (.int .i64 f) := (blk_cell (blk_below hX2 hb) 0).trans rfl
    have q2_1 : w'.cell? ⟨g0, 1, none⟩ = some (.slice A nl c) := (blk_cell (blk_below hX2 hb) 1).trans rfl
    have q3_0 : w'.cell? ⟨g1, 0, none⟩ = some (.int .i64 g) := (blk_cell (blk_below hX3 hb) 0).trans rfl
    have q3_1 : w'.cell? ⟨g1, 1, none⟩ = some (.slice B nm e) := (blk_cell (blk_below hX3 hb) 1).trans rfl
    clear hd hB
    go_simp
    exact hK _ (Below.refl _ _)
  refine DetR.is (o := { dst := some 33, op := Op.fieldAddr 30 (Operand.tmp 3) 0, type := 0, pos := "term.go:32", after := #[], guard := none }) (u := ?ux3) rfl (by decide) (fun T w' hb hd hB K hK => ?sx3) ?rx3
  case sx3 =>
    have e3 := (hB 3 (by kernel_rfl)).trans hT3
    have q3_0 : w'.cell? ⟨g1, 0, none⟩ = some (.int .i64 g) := (blk_cell (blk_below hX3 hb) 0).trans rfl
    have q3_1 : w'.cell? ⟨g1, 1, none⟩ = some (.slice B nm e) := (blk_cell (blk_below hX3 hb) 1).trans rfl
    rw [if_pos (wanted_none _ rfl)]
    clear hd hB
    go_simp
    exact hK _ (Below.refl _ _)
  refine DetR.is (o := { dst := some 34, op := Op.load 3 (Operand.tmp 33), type := 3, pos := "term.go:32", after := #[{ on := 2, ground := Ground.data }], guard := none }) (u := ?ux4) rfl (by decide) (fun T w' hb hd hB K hK => ?sx4) ?rx4
  case sx4 =>
    have e33 := hd 2 33 _ (by decide) (by kernel_rfl) rfl rfl
    replace e33 : T.getD 33 undef = _ := e33
    rw [if_pos (wanted_none _ rfl)]
    have q2_0 : w'.cell? ⟨g0, 0, none⟩ = some (.int .i64 f) := (blk_cell (blk_below hX2 hb) 0).trans rfl
    have q2_1 : w'.cell? ⟨g0, 1, none⟩ = some (.slice A nl c) := (blk_cell (blk_below hX2 hb) 1).trans rfl
    have q3_0 : w'.cell? ⟨g1, 0, none⟩ = some (.int .i64 g) := (blk_cell (blk_below hX3 hb) 0).trans rfl
    have q3_1 : w'.cell? ⟨g1, 1, none⟩ = some (.slice B nm e) := (blk_cell (blk_below hX3 hb) 1).trans rfl
    clear hd hB
    go_simp
    exact hK _ (Below.refl _ _)
  refine DetR.is (o := { dst := some 35, op := Op.call { callee := Callee.value (Operand.func 76), args := #[Operand.tmp 32, Operand.tmp 34], argTypes := #[3, 3] }, type := 3, pos := "term.go:32", after := #[{ on := 1, ground := Ground.data }, { on := 3, ground := Ground.data }], guard := none }) (u := ?ux5) rfl (by decide) (fun T w' hb hd hB K hK => ?sx5) ?rx5
  case sx5 =>
    have e32 := hd 1 32 _ (by decide) (by kernel_rfl) rfl rfl
    replace e32 : T.getD 32 undef = _ := e32
    have e34 := hd 3 34 _ (by decide) (by kernel_rfl) rfl rfl
    replace e34 : T.getD 34 undef = _ := e34
    rw [if_pos (wanted_none _ rfl)]
    have hcl := hF4 w' hb
    clear hd hB
    go_simp
    go_at_call 76
    refine hcl.mono ?_
    rintro e w2 ⟨rfl, h2⟩
    exact hK _ h2
  refine DetR.is (o := { dst := some 36, op := Op.fieldAddr 30 (Operand.tmp 2) 1, type := 0, pos := "term.go:32", after := #[], guard := none }) (u := ?ux6) rfl (by decide) (fun T w' hb hd hB K hK => ?sx6) ?rx6
  case sx6 =>
    have e2 := (hB 2 (by kernel_rfl)).trans hT2
    have q2_0 : w'.cell? ⟨g0, 0, none⟩ = some (.int .i64 f) := (blk_cell (blk_below hX2 hb) 0).trans rfl
    have q2_1 : w'.cell? ⟨g0, 1, none⟩ = some (.slice A nl c) := (blk_cell (blk_below hX2 hb) 1).trans rfl
    rw [if_pos (wanted_none _ rfl)]
    clear hd hB
    go_simp
    exact hK _ (Below.refl _ _)
  refine DetR.is (o := { dst := some 37, op := Op.load 28 (Operand.tmp 36), type := 28, pos := "term.go:32", after := #[{ on := 5, ground := Ground.data }], guard := none }) (u := ?ux7) rfl (by decide) (fun T w' hb hd hB K hK => ?sx7) ?rx7
  case sx7 =>
    have e36 := hd 5 36 _ (by decide) (by kernel_rfl) rfl rfl
    replace e36 : T.getD 36 undef = _ := e36
    rw [if_pos (wanted_none _ rfl)]
    have q2_0 : w'.cell? ⟨g0, 0, none⟩ = some (.int .i64 f) := (blk_cell (blk_below hX2 hb) 0).trans rfl
    have q2_1 : w'.cell? ⟨g0, 1, none⟩ = some (.slice A nl c) := (blk_cell (blk_below hX2 hb) 1).trans rfl
    have q3_0 : w'.cell? ⟨g1, 0, none⟩ = some (.int .i64 g) := (blk_cell (blk_below hX3 hb) 0).trans rfl
    have q3_1 : w'.cell? ⟨g1, 1, none⟩ = some (.slice B nm e) := (blk_cell (blk_below hX3 hb) 1).trans rfl
    clear hd hB
    go_simp
    exact hK _ (Below.refl _ _)
  refine DetR.is (o := { dst := some 38, op := Op.call { callee := Callee.builtin Builtin.len, args := #[Operand.tmp 37], argTypes := #[28] }, type := 3, pos := "term.go:32", after := #[{ on := 6, ground := Ground.data }], guard := none }) (u := ?ux8) rfl (by decide) (fun T w' hb hd hB K hK => ?sx8) ?rx8
  case sx8 =>
    have e37 := hd 6 37 _ (by decide) (by kernel_rfl) rfl rfl
    replace e37 : T.getD 37 undef = _ := e37
    rw [if_pos (wanted_none _ rfl)]
    clear hd hB
    go_simp
    exact hK _ (Below.refl _ _)
  refine DetR.is (o := { dst := some 39, op := Op.fieldAddr 30 (Operand.tmp 3) 1, type := 0, pos := "term.go:32", after := #[], guard := none }) (u := ?ux9) rfl (by decide) (fun T w' hb hd hB K hK => ?sx9) ?rx9
  case sx9 =>
    have e3 := (hB 3 (by kernel_rfl)).trans hT3
    have q3_0 : w'.cell? ⟨g1, 0, none⟩ = some (.int .i64 g) := (blk_cell (blk_below hX3 hb) 0).trans rfl
    have q3_1 : w'.cell? ⟨g1, 1, none⟩ = some (.slice B nm e) := (blk_cell (blk_below hX3 hb) 1).trans rfl
    rw [if_pos (wanted_none _ rfl)]
    clear hd hB
    go_simp
    exact hK _ (Below.refl _ _)
  refine DetR.is (o := { dst := some 40, op := Op.load 28 (Operand.tmp 39), type := 28, pos := "term.go:32", after := #[{ on := 8, ground := Ground.data }], guard := none }) (u := ?ux10) rfl (by decide) (fun T w' hb hd hB K hK => ?sx10) ?rx10
  case sx10 =>
    have e39 := hd 8 39 _ (by decide) (by kernel_rfl) rfl rfl
    replace e39 : T.getD 39 undef = _ := e39
    rw [if_pos (wanted_none _ rfl)]
    have q2_0 : w'.cell? ⟨g0, 0, none⟩ = some (.int .i64 f) := (blk_cell (blk_below hX2 hb) 0).trans rfl
    have q2_1 : w'.cell? ⟨g0, 1, none⟩ = some (.slice A nl c) := (blk_cell (blk_below hX2 hb) 1).trans rfl
    have q3_0 : w'.cell? ⟨g1, 0, none⟩ = some (.int .i64 g) := (blk_cell (blk_below hX3 hb) 0).trans rfl
    have q3_1 : w'.cell? ⟨g1, 1, none⟩ = some (.slice B nm e) := (blk_cell (blk_below hX3 hb) 1).trans rfl
    clear hd hB
    go_simp
    exact hK _ (Below.refl _ _)
  refine DetR.is (o := { dst := some 41, op := Op.call { callee := Callee.builtin Builtin.len, args := #[Operand.tmp 40], argTypes := #[28] }, type := 3, pos := "term.go:32", after := #[{ on := 9, ground := Ground.data }], guard := none }) (u := ?ux11) rfl (by decide) (fun T w' hb hd hB K hK => ?sx11) ?rx11
  case sx11 =>
    have e40 := hd 9 40 _ (by decide) (by kernel_rfl) rfl rfl
    replace e40 : T.getD 40 undef = _ := e40
    rw [if_pos (wanted_none _ rfl)]
    clear hd hB
    go_simp
    exact hK _ (Below.refl _ _)
  refine DetR.is (o := { dst := some 42, op := Op.call { callee := Callee.value (Operand.func 76), args := #[Operand.tmp 38, Operand.tmp 41], argTypes := #[3, 3] }, type := 3, pos := "term.go:32", after := #[{ on := 7, ground := Ground.data }, { on := 10, ground := Ground.data }, { on := 4, ground := Ground.chain }], guard := none }) (u := ?ux12) rfl (by decide) (fun T w' hb hd hB K hK => ?sx12) ?rx12
  case sx12 =>
    have e38 := hd 7 38 _ (by decide) (by kernel_rfl) rfl rfl
    replace e38 : T.getD 38 undef = _ := e38
    have e41 := hd 10 41 _ (by decide) (by kernel_rfl) rfl rfl
    replace e41 : T.getD 41 undef = _ := e41
    rw [if_pos (wanted_none _ rfl)]
    have hcl := hF11 w' hb
    clear hd hB
    go_simp
    go_at_call 76
    refine hcl.mono ?_
    rintro e w2 ⟨rfl, h2⟩
    exact hK _ h2
  refine DetR.is (o := { dst := some 43, op := Op.fieldAddr 30 (Operand.tmp 2) 1, type := 0, pos := "term.go:32", after := #[], guard := none }) (u := ?ux13) rfl (by decide) (fun T w' hb hd hB K hK => ?sx13) ?rx13
  case sx13 =>
    have e2 := (hB 2 (by kernel_rfl)).trans hT2
    have q2_0 : w'.cell? ⟨g0, 0, none⟩ = some (.int .i64 f) := (blk_cell (blk_below hX2 hb) 0).trans rfl
    have q2_1 : w'.cell? ⟨g0, 1, none⟩ = some (.slice A nl c) := (blk_cell (blk_below hX2 hb) 1).trans rfl
    rw [if_pos (wanted_none _ rfl)]
    clear hd hB
    go_simp
    exact hK _ (Below.refl _ _)
  refine DetR.is (o := { dst := some 44, op := Op.load 28 (Operand.tmp 43), type := 28, pos := "term.go:32", after := #[{ on := 12, ground := Ground.data }], guard := none }) (u := ?ux14) rfl (by decide) (fun T w' hb hd hB K hK => ?sx14) ?rx14
  case sx14 =>
    have e43 := hd 12 43 _ (by decide) (by kernel_rfl) rfl rfl
    replace e43 : T.getD 43 undef = _ := e43
    rw [if_pos (wanted_none _ rfl)]
    have q2_0 : w'.cell? ⟨g0, 0, none⟩ = some (.int .i64 f) := (blk_cell (blk_below hX2 hb) 0).trans rfl
    have q2_1 : w'.cell? ⟨g0, 1, none⟩ = some (.slice A nl c) := (blk_cell (blk_below hX2 hb) 1).trans rfl
    have q3_0 : w'.cell? ⟨g1, 0, none⟩ = some (.int .i64 g) := (blk_cell (blk_below hX3 hb) 0).trans rfl
    have q3_1 : w'.cell? ⟨g1, 1, none⟩ = some (.slice B nm e) := (blk_cell (blk_below hX3 hb) 1).trans rfl
    clear hd hB
    go_simp
    exact hK _ (Below.refl _ _)
  refine DetR.is (o := { dst := some 45, op := Op.fieldAddr 30 (Operand.tmp 3) 1, type := 0, pos := "term.go:32", after := #[], guard := none }) (u := ?ux15) rfl (by decide) (fun T w' hb hd hB K hK => ?sx15) ?rx15
  case sx15 =>
    have e3 := (hB 3 (by kernel_rfl)).trans hT3
    have q3_0 : w'.cell? ⟨g1, 0, none⟩ = some (.int .i64 g) := (blk_cell (blk_below hX3 hb) 0).trans rfl
    have q3_1 : w'.cell? ⟨g1, 1, none⟩ = some (.slice B nm e) := (blk_cell (blk_below hX3 hb) 1).trans rfl
    rw [if_pos (wanted_none _ rfl)]
    clear hd hB
    go_simp
    exact hK _ (Below.refl _ _)
  refine DetR.is (o := { dst := some 46, op := Op.load 28 (Operand.tmp 45), type := 28, pos := "term.go:32", after := #[{ on := 14, ground := Ground.data }], guard := none }) (u := ?ux16) rfl (by decide) (fun T w' hb hd hB K hK => ?sx16) ?rx16
  case sx16 =>
    have e45 := hd 14 45 _ (by decide) (by kernel_rfl) rfl rfl
    replace e45 : T.getD 45 undef = _ := e45
    rw [if_pos (wanted_none _ rfl)]
    have q2_0 : w'.cell? ⟨g0, 0, none⟩ = some (.int .i64 f) := (blk_cell (blk_below hX2 hb) 0).trans rfl
    have q2_1 : w'.cell? ⟨g0, 1, none⟩ = some (.slice A nl c) := (blk_cell (blk_below hX2 hb) 1).trans rfl
    have q3_0 : w'.cell? ⟨g1, 0, none⟩ = some (.int .i64 g) := (blk_cell (blk_below hX3 hb) 0).trans rfl
    have q3_1 : w'.cell? ⟨g1, 1, none⟩ = some (.slice B nm e) := (blk_cell (blk_below hX3 hb) 1).trans rfl
    clear hd hB
    go_simp
    exact hK _ (Below.refl _ _)
  refine DetR.is (o := { dst := some 47, op := Op.call { callee := Callee.value (Operand.func 78), args := #[Operand.tmp 44, Operand.tmp 46, Operand.func 36], argTypes := #[28, 28, 49] }, type := 3, pos := "term.go:32", after := #[{ on := 13, ground := Ground.data }, { on := 15, ground := Ground.data }, { on := 11, ground := Ground.chain }], guard := none }) (u := ?ux17) rfl (by decide) (fun T w' hb hd hB K hK => ?sx17) ?rx17
  case sx17 =>
    have e44 := hd 13 44 _ (by decide) (by kernel_rfl) rfl rfl
    replace e44 : T.getD 44 undef = _ := e44
    have e46 := hd 15 46 _ (by decide) (by kernel_rfl) rfl rfl
    replace e46 : T.getD 46 undef = _ := e46
    rw [if_pos (wanted_none _ rfl)]
    have hcl := hF16 w' hb
    clear hd hB
    go_simp
    go_at_call 78
    refine hcl.mono ?_
    rintro e w2 ⟨rfl, h2⟩
    exact hK _ h2
  refine DetR.cons (o := { dst := some 48, op := Op.buildSlice 25 3 #[(0, Operand.tmp 35), (1, Operand.tmp 42), (2, Operand.tmp 47)], type := 25, pos := "term.go:32", after := #[{ on := 4, ground := Ground.data }, { on := 11, ground := Ground.data }, { on := 16, ground := Ground.data }], guard := none }) (BlockTold 0 (fun g => .slice (some ⟨g, 0, none⟩) 3 3) #[.int .i64 c1, .int .i64 c2, .int .i64 c3] 3) rfl (by decide) (BlockTold.grows _ _ _ _) (fun T w' hb hd hB K hK => ?sx18) ?rx18
  case sx18 =>
    have e35 := hd 4 35 _ (by decide) (by kernel_rfl) rfl rfl
    replace e35 : T.getD 35 undef = _ := e35
    have e42 := hd 11 42 _ (by decide) (by kernel_rfl) rfl rfl
    replace e42 : T.getD 42 undef = _ := e42
    have e47 := hd 16 47 _ (by decide) (by kernel_rfl) rfl rfl
    replace e47 : T.getD 47 undef = _ := e47
    rw [if_pos (wanted_none _ rfl)]
    have z35 : T[35]?.getD undef = _ := Array.getD_eq_getD_getElem?.symm.trans e35
    have z42 : T[42]?.getD undef = _ := Array.getD_eq_getD_getElem?.symm.trans e42
    have z47 : T[47]?.getD undef = _ := Array.getD_eq_getD_getElem?.symm.trans e47
    clear hd hB
    go_simp
    exact hK _ _ (below_alloc (Below.refl _ _) _) ⟨w'.heap.size, rfl, Nat.zero_le _, heap_alloc_new _ _⟩
  refine DetR.is (o := { dst := some 49, op := Op.call { callee := Callee.value (Operand.func 77), args := #[Operand.tmp 48], argTypes := #[25] }, type := 3, pos := "term.go:32", after := #[{ on := 17, ground := Ground.data }, { on := 16, ground := Ground.chain }], guard := none }) (u := ?ux19) rfl (by decide) (fun T w' hb hd hB K hK => ?sx19) ?rx19
  case sx19 =>
    obtain ⟨gs, e48, hge, hbs⟩ := (hd 17 48 _ (by decide) (by kernel_rfl) rfl rfl)
    rw [if_pos (wanted_none _ rfl)]
    have hcl := hO w' gs hbs
    clear hd hB
    go_simp
    go_at_call 77
    refine hcl.mono ?_
    rintro e w2 ⟨rfl, h2⟩
    exact hK _ h2
  refine DetR.is (o := { dst := some 4, op := Op.assign (Operand.tmp 49), type := 3, pos := "term.go:32", after := #[{ on := 18, ground := Ground.data }, { on := 18, ground := Ground.chain }, { on := 0, ground := Ground.phase }, { on := 1, ground := Ground.phase }, { on := 2, ground := Ground.phase }, { on := 3, ground := Ground.phase }, { on := 4, ground := Ground.phase }, { on := 5, ground := Ground.phase }, { on := 6, ground := Ground.phase }, { on := 7, ground := Ground.phase }, { on := 8, ground := Ground.phase }, { on := 9, ground := Ground.phase }, { on := 10, ground := Ground.phase }, { on := 11, ground := Ground.phase }, { on := 12, ground := Ground.phase }, { on := 13, ground := Ground.phase }, { on := 14, ground := Ground.phase }, { on := 15, ground := Ground.phase }, { on := 16, ground := Ground.phase }, { on := 17, ground := Ground.phase }, { on := 18, ground := Ground.phase }], guard := none }) (u := ?ux20) rfl (by decide) (fun T w' hb hd hB K hK => ?sx20) ?rx20
  case sx20 =>
    have e49 := hd 18 49 _ (by decide) (by kernel_rfl) rfl rfl
    replace e49 : T.getD 49 undef = _ := e49
    rw [if_pos (wanted_none _ rfl)]
    clear hd hB
    go_simp
    exact hK _ (Below.refl _ _)
  refine DetR.done [some 31, some 32, some 33, some 34, some 35, some 36, some 37, some 38, some 39, some 40, some 41, some 42, some 43, some 44, some 45, some 46, some 47, some 48, some 49, some 4] (by kernel_rfl) rfl (by kernel_rfl) ?_
  intro v w' hb hv
  exact hK v w' hb (hv 19 _ (by decide) rfl)
def CmpAny (x : S30) : Prop := ∀ (y : S30) (A B : Option Addr) (c e : Nat) (w : World), k30.C w A x.f1.length x.f1 → x.f1.length ≤ c → k30.C w B y.f1.length y.f1 → y.f1.length ≤ e →
  Calls Try.prog 36 #[.agg #[.int .i64 x.f0, .slice A x.f1.length c], .agg #[.int .i64 y.f0, .slice B y.f1.length e]] w fun r w' => r = .returned (.int .i64 (cmpT x y)) ∧ Below w.heap.size w w'
theorem cmpTs_at (l m : List S30) (k : Nat) (hl : k < l.length) (hm : k < m.length) : cmpTs (l.drop k) (m.drop k) = if cmpT l[k] m[k] = 0 then cmpTs (l.drop (k + 1)) (m.drop (k + 1)) else cmpT l[k] m[k] := by
  rw [List.drop_eq_getElem_cons hl, List.drop_eq_getElem_cons hm, cmpTs]
theorem cell_lt' {w : World} {a : Addr} {v : Value} (h : w.cell? a = some v) : a.block < w.heap.size := by
  unfold World.cell? at h
  rcases Nat.lt_or_ge a.block w.heap.size with hlt | hge
  · exact hlt
  · rw [Array.getElem?_eq_none hge] at h
    simp at h
theorem rd30_at (l : List S30) (k : Nat) (h : k < l.length) : rd_T30 l (k : Int) = l[k] := by
  unfold rd_T30
  simp [List.getD, List.getElem?_eq_getElem h]
set_option maxHeartbeats 4000000 in
set_option maxRecDepth 100000 in
theorem CompareFunc_any (l m : List S30) (ih : ∀ x ∈ l, CmpAny x) (A B : Option Addr) (c e : Nat) (w : World) (hA : k30.C w A l.length l) (hc : l.length ≤ c) (hB : k30.C w B m.length m) (he : m.length ≤ e) :
    Calls Try.prog 78 #[.slice A l.length c, .slice B m.length e, .func (.func 36) #[] #[]] w fun r w' => r = .returned (.int .i64 (cmpTs l m)) ∧ Below w.heap.size w w' := by
  have hll : l.length ≤ 9223372036854775807 := hA.2.1
  have hml : m.length ≤ 9223372036854775807 := hB.2.1
  have hAz := Aside0.mk hA
  have hBz := Aside0.mk hB
  have hIz := Aside0.mk ih
  clear hA hB ih
  go_enter Try.func78, Try.ntmps78
  go_wp2
  go_loopw [13] (fun i wr => ∃ k : Nat, k ≤ l.length ∧ i = .int .i64 k ∧ Aside0 (k ≤ m.length) ∧ Aside0 (cmpTs l m = cmpTs (l.drop k) (m.drop k)) ∧ Aside0 (Below w.heap.size w wr)) (fun i wr => l.length - (intOf i).toNat)
  case atStart => exact ⟨0, Nat.zero_le _, rfl, ⟨Nat.zero_le _⟩, ⟨rfl⟩, ⟨Below.refl _ _⟩⟩
  case round =>
    obtain ⟨k, hk, rfl, hkm, hcm, hb⟩ := hrel
    by_cases hlt : k < l.length
    · obtain ⟨ad, A1, c1, rfl, hx0, hx1, hl1, hC1⟩ := at_T30 (Kd.C_below hAz.out hb.out) (k : Int) (by omega) (by omega)
      rw [rd30_at l k hlt] at hx0 hx1 hl1 hC1
      rw [Int.toNat_natCast] at hx0 hx1
      have hC1 := Aside0.mk hC1
      by_cases hlm : k < m.length
      · obtain ⟨bd, B1, e1, rfl, hy0, hy1, hm1, hD1⟩ := at_T30 (Kd.C_below hBz.out hb.out) (k : Int) (by omega) (by omega)
        rw [rd30_at m k hlm] at hy0 hy1 hm1 hD1
        rw [Int.toNat_natCast] at hy0 hy1
        have hD1 := Aside0.mk hD1
        have hat := cmpTs_at l m k hlt hlm
        have hih := Aside0.mk (hIz.out l[k] (List.getElem_mem hlt) m[k])
        generalize hxk : l[k] = x at hx0 hx1 hl1 hC1 hat hih
        generalize hyk : m[k] = y at hy0 hy1 hm1 hD1 hat hih
        obtain ⟨r, hr⟩ : ∃ r, r = cmpT x y := ⟨_, rfl⟩
        rw [← hr] at hat
        have hrz := Aside0.mk hr
        have hatz := Aside0.mk hat
        clear hxk hyk hat hr
        have hba := below_alloc (Below.refl wr.heap.size wr) (.cells #[.int .i64 x.f0, .slice A1 x.f1.length c1] 30)
        have hz0 := (hba.cell (cell_lt' hy0)).trans hy0
        have hz1 := (hba.cell (cell_lt' hy1)).trans hy1
        clear hba
        have hin : Aside0 (∀ W, Below wr.heap.size wr W → Calls Try.prog 36 #[.agg #[.int .i64 x.f0, .slice A1 x.f1.length c1], .agg #[.int .i64 y.f0, .slice B1 y.f1.length e1]] W fun q w' => q = .returned (.int .i64 r) ∧ Below W.heap.size W w') := ⟨fun W hW => by rw [hrz.out]; exact hih.out A1 B1 c1 e1 W (Kd.C_below hC1.out hW) hl1 (Kd.C_below hD1.out hW) hm1⟩
        clear hih hrz
        by_cases hr0 : r = 0
        · subst hr0
          go_wp2_with (go_at_call 36; refine (hin.out _ (below_alloc (below_alloc (Below.refl _ _) _) _)).mono ?_; rintro q w3 ⟨rfl, hb3⟩; have hb4 : Below w.heap.size w w3 := (hb.out.trans ((below_alloc (below_alloc (Below.refl _ _) _) _ : Below wr.heap.size wr _).mono hb.out.size)).trans (hb3.mono (by have := hb.out.size; simp; omega)); have hb5 := Aside0.mk hb4; clear hb3 hb4)
          go_roundw
          case rel => exact ⟨k + 1, by omega, by go_num, ⟨by omega⟩, ⟨by rw [hcm.out, hatz.out]; simp⟩, hb5⟩
          case measure => simp [intOf]; omega
        · have hr1 : (r == 0) = false := by simpa using hr0
          have hr2 : (r != 0) = true := by simpa using hr0
          go_wp2_with (go_at_call 36; refine (hin.out _ (below_alloc (below_alloc (Below.refl _ _) _) _)).mono ?_; rintro q w3 ⟨rfl, hb3⟩; have hb4 : Below w.heap.size w w3 := (hb.out.trans ((below_alloc (below_alloc (Below.refl _ _) _) _ : Below wr.heap.size wr _).mono hb.out.size)).trans (hb3.mono (by have := hb.out.size; simp; omega)); have hb5 := Aside0.mk hb4; clear hb3 hb4)
          have hres : cmpTs l m = r := by rw [hcm.out, hatz.out, if_neg hr0]
          go_ret
          rw [hres]
          exact ⟨rfl, hb5.out⟩
      · have hres : cmpTs l m = 1 := by
          have hke : k = m.length := by have := hkm.out; omega
          rw [hcm.out, hke, List.drop_length, List.drop_eq_getElem_cons (by omega), cmpTs]
        have hge : (m.length : Int) ≤ (k : Int) := by omega
        generalize l[k] = x at hx0 hx1 hl1 hC1
        go_wp2
        go_ret
        rw [hres]
        exact ⟨rfl, below_alloc hb.out _⟩
    · have hke : k = l.length := by omega
      have hkm' := hkm.out
      by_cases hlm : l.length < m.length
      · have hres : cmpTs l m = -1 := by rw [hcm.out, hke, List.drop_length, List.drop_eq_getElem_cons (by omega), cmpTs]
        go_wp2
        go_ret
        rw [hres]
        exact ⟨rfl, hb.out⟩
      · have hres : cmpTs l m = 0 := by rw [hcm.out, hke, List.drop_length, show l.length = m.length by omega, List.drop_length, cmpTs]
        go_wp2
        go_ret
        rw [hres]
        exact ⟨rfl, hb.out⟩
set_option maxHeartbeats 4000000 in
set_option maxRecDepth 100000 in
theorem Compare_any : ∀ x : S30, CmpAny x := by
  refine S30.ind ?_
  intro f l ih y A B c e w hA hc hB he
  obtain ⟨g, m⟩ := y
  simp only at hA hc hB he
  have hc76 := fun (a b : Int) (w1 : World) => cmp_Compare_int.calls a b _ w1 (cmpI_f a b)
  have hIz := Aside0.mk ih
  have hCF := Aside0.mk (fun w1 (hb : Below w.heap.size w w1) => CompareFunc_any l m ih A B c e w1 (Kd.C_below hA hb) hc (Kd.C_below hB hb) he)
  have h76 := Aside0.mk hc76
  clear hc76 hA hB ih hIz
  go_enter Try.func36, Try.ntmps36
  by_cases hv : f < 0 ∨ g < 0
  · by_cases h2 : f < 0 ∧ g < 0
    · have hres : cmpT ⟨f, l⟩ ⟨g, m⟩ = cmpI g f := by rw [cmpT, if_pos hv, if_pos h2]
      have hf1 : decide (f < 0) = true := decide_eq_true h2.1
      have hg1 : decide (g < 0) = true := decide_eq_true h2.2
      clear hv h2
      go_wp2_with (go_at_call 76; refine (h76.out _ _ _).mono ?_; rintro q w1 ⟨rfl, hd⟩; have hb1 := Aside0.mk (hd.below); clear hd)
      go_ret
      rw [hres]
      exact ⟨rfl, (below_alloc (below_alloc (Below.refl _ _) _) _).trans (hb1.out.mono (by simp; omega))⟩
    · have hres : cmpT ⟨f, l⟩ ⟨g, m⟩ = cmpI f g := by rw [cmpT, if_pos hv, if_neg h2]
      by_cases hf : f < 0
      · have hf1 : decide (f < 0) = true := decide_eq_true hf
        have hg1 : decide (g < 0) = false := decide_eq_false (fun h => h2 ⟨hf, h⟩)
        clear hv h2
        go_wp2_with (go_at_call 76; refine (h76.out _ _ _).mono ?_; rintro q w1 ⟨rfl, hd⟩; have hb1 := Aside0.mk (hd.below); clear hd)
        go_ret
        rw [hres]
        exact ⟨rfl, (below_alloc (below_alloc (Below.refl _ _) _) _).trans (hb1.out.mono (by simp; omega))⟩
      · have hf1 : decide (f < 0) = false := decide_eq_false hf
        have hg1 : decide (g < 0) = true := decide_eq_true (hv.resolve_left hf)
        clear hv h2
        go_wp2_with (go_at_call 76; refine (h76.out _ _ _).mono ?_; rintro q w1 ⟨rfl, hd⟩; have hb1 := Aside0.mk (hd.below); clear hd)
        go_ret
        rw [hres]
        exact ⟨rfl, (below_alloc (below_alloc (Below.refl _ _) _) _).trans (hb1.out.mono (by simp; omega))⟩
  · have hres : cmpT ⟨f, l⟩ ⟨g, m⟩ = orI (cmpI f g) (cmpI l.length m.length) (cmpTs l m) := by rw [cmpT, if_neg hv]
    have hf1 : decide (f < 0) = false := decide_eq_false (fun h => hv (.inl h))
    have hg1 : decide (g < 0) = false := decide_eq_false (fun h => hv (.inr h))
    obtain ⟨r, hr⟩ : ∃ r, r = orI (cmpI f g) (cmpI l.length m.length) (cmpTs l m) := ⟨_, rfl⟩
    obtain ⟨ko, hko⟩ := (orI_f (cmpI f g) (cmpI l.length m.length) (cmpTs l m)).rounds
    rw [← hr] at hres hko
    have hkz := Aside0.mk hko
    clear hv hr hko
    go_wp2
    refine Compare_r5 (f := f) (g := g) (c1 := cmpI f g) (c2 := cmpI l.length m.length) (c3 := cmpTs l m) (r := r) (A := A) (B := B) (nl := l.length) (nm := m.length) (c := c) (e := e) (g0 := w.heap.size) (g1 := w.heap.size + 1) (by kernel_rfl) rfl (blk_alloc (heap_alloc_new _ _) _) rfl ?_ ?_ ?_ ?_ ?_ hc he ?_
    · have := heap_alloc_new (w.alloc (.cells #[.int .i64 f, .slice A l.length c] 30)) (.cells #[.int .i64 g, .slice B m.length e] 30)
      rw [World.size_alloc] at this
      exact this
    · intro w1 hb; exact (h76.out _ _ _).mono (fun q w2 h => ⟨h.1, h.2.below⟩)
    · intro w1 hb; exact (h76.out _ _ _).mono (fun q w2 h => ⟨h.1, h.2.below⟩)
    · intro w1 hb; exact hCF.out w1 ((below_alloc (below_alloc (Below.refl _ _) _) _).trans (hb.mono (by simp; omega)))
    · intro w1 gs hgs
      refine (cmp_Or_int.calls ko (some ⟨gs, 0, none⟩) 3 [cmpI f g, cmpI l.length m.length, cmpTs l m] r w1 ?_ (by simp) hkz.out).mono (fun q w2 h => ⟨h.1, h.2.below⟩)
      refine ⟨rfl, by simp, fun _ => ⟨_, rfl, fun j p hj => ?_⟩⟩
      have hcell := fun i => blk_cell hgs i
      match j with
      | 0 => simp at hj; subst hj; exact ⟨[.int .i64 _], rfl, rfl, fun i u hi => by (match i with | 0 => simp at hi; subst hi; exact (hcell 0).trans rfl | i + 1 => simp at hi)⟩
      | 1 => simp at hj; subst hj; exact ⟨[.int .i64 _], rfl, rfl, fun i u hi => by (match i with | 0 => simp at hi; subst hi; exact (hcell 1).trans rfl | i + 1 => simp at hi)⟩
      | 2 => simp at hj; subst hj; exact ⟨[.int .i64 _], rfl, rfl, fun i u hi => by (match i with | 0 => simp at hi; subst hi; exact (hcell 2).trans rfl | i + 1 => simp at hi)⟩
      | j + 3 => simp at hj
    intro v w2 hb2 hv19
    simp only [layL, Nat.reduceAdd, List.setIfInBounds_toArray, List.set_cons_zero, List.set_cons_succ, hv19]
    have hb2 := Aside0.mk hb2
    clear hv19
    go_wp2
    go_ret
    rw [hres]
    exact ⟨rfl, (below_alloc (below_alloc (Below.refl _ _) _) _).trans (hb2.out.mono (by simp; omega))⟩
theorem term_Compare.calls (a0_0 : Int) (A0_1 : Option Addr) (c0_1 : Nat) (l0_1 : List S30) (a1_0 : Int) (A1_1 : Option Addr) (c1_1 : Nat) (l1_1 : List S30) (r : Int) (w : World) (hr0_1 : Kd.C k30 w A0_1 l0_1.length l0_1) (hc0_1 : l0_1.length ≤ c0_1) (hr1_1 : Kd.C k30 w A1_1 l1_1.length l1_1) (hc1_1 : l1_1.length ≤ c1_1) (h : term_Compare.f a0_0 l0_1 a1_0 l1_1 = some r) :
    Calls Try.prog 36 #[.agg #[.int .i64 a0_0, .slice A0_1 l0_1.length c0_1], .agg #[.int .i64 a1_0, .slice A1_1 l1_1.length c1_1]] w fun e w' => e = .returned (.int .i64 r) ∧ Below w.heap.size w w' := by
  unfold term_Compare.f at h
  obtain rfl := Option.some.inj h
  exact Compare_any ⟨a0_0, l0_1⟩ ⟨a1_0, l1_1⟩ A0_1 A1_1 c0_1 c1_1 w hr0_1 hc0_1 hr1_1 hc1_1
end Go.Proofs.Ytpfddihcikiofaa.P
end
section
namespace Go.Proofs.Ytpfddihcikiofaa.P
open Go.RowKit Go.Shelf Go.Proofs.YtpfddihcikiofaaW.PrintWords Go.Proofs.YtpfddihcikiofaaW.PrintLast Go.Proofs.YtpfddihcikiofaaW.PrintMore
set_option linter.unusedVariables false
set_option linter.unusedSimpArgs false
attribute [local go_sem] Oper.semAt_some
structure Keeps (W W' : World) (S : Nat → Prop) : Prop where
  os : W'.os = W.os
  tape : W'.tape = W.tape
  output : W'.output = W.output
  size : W.heap.size ≤ W'.heap.size
  block : ∀ k, k < W.heap.size → ¬ S k → W'.heap[k]? = W.heap[k]?
theorem Keeps.refl (W : World) (S : Nat → Prop) : Keeps W W S := ⟨rfl, rfl, rfl, Nat.le_refl _, fun _ _ _ => rfl⟩
theorem Keeps.of_below {W W' : World} (h : Below W.heap.size W W') (S : Nat → Prop) : Keeps W W' S := ⟨h.os, h.tape, h.output, h.size, fun k hk _ => h.block k hk⟩
theorem Keeps.trans {W W' W2 : World} {S S' : Nat → Prop} (h : Keeps W W' S) (k : Keeps W' W2 S') (hs : ∀ b, S' b → S b ∨ W.heap.size ≤ b) : Keeps W W2 S :=
  ⟨k.os.trans h.os, k.tape.trans h.tape, k.output.trans h.output, Nat.le_trans h.size k.size, fun b hb hn => (k.block b (Nat.lt_of_lt_of_le hb h.size) (fun h2 => (hs b h2).elim hn (by omega))).trans (h.block b hb hn)⟩
theorem Keeps.below {W W' W2 : World} {S : Nat → Prop} (h : Keeps W W' S) (k : Below W'.heap.size W' W2) : Keeps W W2 S := h.trans (Keeps.of_below k (fun _ => False)) (fun _ h => h.elim)
theorem Keeps.drewN (W : World) (S : Nat → Prop) (n : Nat) : Keeps W (W.drewN n) S := Keeps.of_below (pw_below_drewN (Below.refl _ _) n) S
theorem Keeps.mono {W W' : World} {S S' : Nat → Prop} (h : Keeps W W' S) (hs : ∀ k, S k → S' k) : Keeps W W' S' := ⟨h.os, h.tape, h.output, h.size, fun k hk hn => h.block k hk (fun h2 => hn (hs k h2))⟩
theorem Keeps.toBelow {W W' : World} {S : Nat → Prop} {B : Nat} (h : Keeps W W' S) (hB : B ≤ W.heap.size) (hs : ∀ b, S b → B ≤ b) : Below B W W' :=
  ⟨h.os, h.tape, h.output, h.size, fun k hk => h.block k (by omega) (fun h2 => by have := hs k h2; omega)⟩
theorem Keeps.blk {W W' : World} {S : Nat → Prop} (h : Keeps W W' S) {b : Nat} {o : Obj} (hb : W.heap[b]? = some o) (hn : ¬ S b) : W'.heap[b]? = some o := (h.block b (blk_lt hb) hn).trans hb
theorem Keeps.F {α : Type} {d : Kd α} {W W' : World} {S S' : Nat → Prop} {A : Option Addr} {n : Nat} {xs : List α} (h : Keeps W W' S) (hs : ∀ b, S' b → S b ∨ W.heap.size ≤ b) (hf : Kd.F d W (fun k => ¬ S k) A n xs) : Kd.F d W' (fun k => ¬ S' k) A n xs :=
  Kd.F_mono (Kd.F_step (Kd.F_bound hf) (fun k hk hlt => h.block k hlt hk.1)) (fun k hk h2 => (hs k h2).elim hk.1 (fun h3 => by have := hk.2; omega))
theorem wide_any (k : Nat) : Fence.wide.depth.isSome = true → 1 ≤ k := fun h => by cases h
theorem parts_neg (f : Int) (v : Value) (w : World) (hf : decide (f < 0) = true) : Calls Try.prog 74 #[.agg #[.int .i64 f, v]] w fun e w' => e = .returned (.slice none 0 0) ∧ w' = w.alloc (.cells #[.int .i64 f, v] 30) := by
  go_enter Try.func74, Try.ntmps74
  go_wp2
  go_ret
  exact ⟨rfl, rfl⟩
theorem parts_pos (f : Int) (A : Option Addr) (n c : Nat) (w : World) (hf : decide (f < 0) = false) : Calls Try.prog 74 #[.agg #[.int .i64 f, .slice A n c]] w fun e w' => e = .returned (.slice A n c) ∧ w' = w.alloc (.cells #[.int .i64 f, .slice A n c] 30) := by
  go_enter Try.func74, Try.ntmps74
  go_wp2
  go_ret
  exact ⟨rfl, rfl⟩
theorem clip_any (A : Option Addr) (n c : Nat) (w : World) (h : n ≤ c) (hn : n ≤ 9223372036854775807) : Calls Try.prog 109 #[.slice A n c] w fun e w' => e = .returned (.slice A n n) ∧ w' = w := by
  go_enter Try.func109, Try.ntmps109
  go_wp2
  go_ret
  exact ⟨rfl, rfl⟩
def Yields (l : Nat) (J : (Nat → Prop) → List (List Int × S30) → World → Prop) (N : Nat) : Prop :=
  ∀ (m : Nat) (S : Nat → Prop) (pre : List (List Int × S30)) (p : List Int) (s : S30) (A : Option Addr) (c : Nat) (As : Option Addr) (cs : Nat) (W : World), J S pre W → pre.length < N → p.length ≤ 1099511627776 →
    Kd.F (Kd.int .i64) W (fun k => ¬ S k) A p.length p → p.length ≤ c → Kd.F k30 W (fun k => ¬ S k) As s.f1.length s.f1 → s.f1.length ≤ cs →
    YieldAt Fence.wide m Try.prog l #[.slice A p.length c, .agg #[.int .i64 s.f0, .slice As s.f1.length cs]] W fun e W' => e = .returned (.bool true) ∧ ∃ S' : Nat → Prop, J S' (pre ++ [(p, s)]) W' ∧ Keeps W W' S ∧ ∀ k, S' k → S k ∨ W.heap.size ≤ k
def WalkPost (J : (Nat → Prop) → List (List Int × S30) → World → Prop) (S : Nat → Prop) (pre : List (List Int × S30)) (W : World) (e : Ending) (W' : World) : Prop :=
  e = .returned (.bool true) ∧ ∃ S' : Nat → Prop, J S' pre W' ∧ Keeps W W' S ∧ ∀ k, S' k → S k ∨ W.heap.size ≤ k
set_option maxRecDepth 100000 in
set_option maxHeartbeats 4000000 in
theorem walkIn_ (l N : Nat) (J : (Nat → Prop) → List (List Int × S30) → World → Prop) (hJb : ∀ S pre W, J S pre W → ∀ k, S k → k < W.heap.size)
    (hJs : ∀ S pre W W', J S pre W → Below W.heap.size W W' → J S pre W') (hY : Yields l J N) (t : S30) :
    ∀ (n : Nat) (S : Nat → Prop) (p : List Int) (A : Option Addr) (c : Nat) (As : Option Addr) (cs : Nat) (pre : List (List Int × S30)) (W : World), J S pre W →
      Kd.F (Kd.int .i64) W (fun k => ¬ S k) A p.length p → p.length ≤ c → Kd.F k30 W (fun k => ¬ S k) As t.f1.length t.f1 → t.f1.length ≤ cs → pre.length + (flatP p t).length ≤ N → p.length + (flatP p t).length ≤ 1099511627776 →
      CallsIn Fence.wide n Try.prog 104 #[.slice A p.length c, .agg #[.int .i64 t.f0, .slice As t.f1.length cs], .func (.yield l) #[] #[]] W (WalkPost J S (pre ++ flatP p t) W) := by
  induction t using S30.ind with
  | h f kids ih =>
  intro n S p A c As cs pre W hJ hp hpc ht htc hN hM
  dsimp only at ht htc ⊢
  have hbox : (W.alloc (.cells #[.int .i64 f, .slice As kids.length cs] 30)).heap[W.heap.size]? = some (.cells #[.int .i64 f, .slice As kids.length cs] 30 (0, 0)) := heap_alloc_new W _
  have hb1 : Below W.heap.size W (W.alloc (.cells #[.int .i64 f, .slice As kids.length cs] 30)) := below_alloc (Below.refl _ _) _
  obtain ⟨fn, tmps, assign, body, hy, hR⟩ := hY (n - 1) S pre p ⟨f, kids⟩ A c As cs _ (hJs _ _ _ _ hJ hb1) (by simp [flatP] at hN; omega) (by omega) (Kd.F_below hp hb1) hpc (Kd.F_below ht hb1) htc
  dsimp only at hy
  refine callsIn_of_wp Try.func104 rfl trivial ?_ rfl
  simp only [Try.ntmps104, List.size_toArray, List.length_cons, List.length_nil, Nat.reduceAdd, Nat.reduceSub, Array.replicate_succ, Array.replicate_zero, List.push_toArray, List.append_toArray, List.nil_append, List.cons_append]
  gi_wp2
  refine ⟨wide_any _, ?_⟩
  refine hR.mono ?_
  clear hR hy
  rintro e W2 ⟨rfl, S2, hJ2, hk2, hs2⟩
  have hS : ¬ S W.heap.size := fun h => by have := hJb _ _ _ hJ _ h; omega
  have hbox2 := hk2.blk hbox hS
  have hp2 := hk2.F hs2 (Kd.F_below hp hb1)
  have ht2 := hk2.F hs2 (Kd.F_below ht hb1)
  have hK2 := (Keeps.of_below hb1 S).trans hk2 (fun b h => .inl h)
  have hs2' : ∀ k, S2 k → S k ∨ W.heap.size ≤ k := fun k h => (hs2 k h).imp_right (fun h => by simp at h; omega)
  clear hk2 hs2 hbox hb1 hS hp ht hJ
  have hc0 : W2.cell? ⟨W.heap.size, 0, none⟩ = some (.int .i64 f) := (blk_cell hbox2 0).trans rfl
  have hc1 : W2.cell? ⟨W.heap.size, 1, none⟩ = some (.slice As kids.length cs) := (blk_cell hbox2 1).trans rfl
  obtain ⟨ks, Ak, ck, hparts, hks, hflat, hmem⟩ : ∃ (ks : List S30) (Ak : Option Addr) (ck : Nat), (∀ w : World, Calls Try.prog 74 #[.agg #[.int .i64 f, .slice As kids.length cs]] w fun e w' => e = .returned (.slice Ak ks.length ck) ∧ w' = w.alloc (.cells #[.int .i64 f, .slice As kids.length cs] 30)) ∧
      Kd.F k30 W2 (fun k => ¬ S2 k) Ak ks.length ks ∧ flatP p ⟨f, kids⟩ = (p, ⟨f, kids⟩) :: flatPs p 0 ks ∧ ∀ x ∈ ks, x ∈ kids := by
    by_cases hf : f < 0
    · exact ⟨[], none, 0, fun w => parts_neg f _ w (decide_eq_true hf), Kd.F_nil _ _ _, by simp [flatP, hf, flatPs], by simp⟩
    · exact ⟨kids, As, cs, fun w => parts_pos f _ _ _ w (decide_eq_false hf), ht2, by simp [flatP, hf], fun x h => h⟩
  have hfl := Aside0.mk hflat
  clear hflat ht2 htc
  have hpp := Aside0.mk hparts
  clear hparts
  have hpz := Aside0.mk hp2
  have hkz := Aside0.mk hks
  have hKz := Aside0.mk hK2
  have hJz := Aside0.mk hJ2
  have hNz := Aside0.mk hN
  have hMz := Aside0.mk hM
  clear hp2 hks hK2 hJ2 hN hM
  gi_wp2_with (refine ⟨trivial, ?_⟩; (try refine ⟨wide_any _, ?_⟩); gi_at_call 74; refine (callsIn_wide.2 (hpp.out _)).mono ?_; rintro e w' ⟨rfl, rfl⟩)
  have hb3 : Below W2.heap.size W2 (W2.alloc (.cells #[.int .i64 f, .slice As kids.length cs] 30)) := below_alloc (Below.refl _ _) _
  have hkl : ks.length ≤ 9223372036854775807 := Kd.F_max hkz.out
  gi_loopw [17] (fun i wr => ∃ (k : Nat) (S3 : Nat → Prop), k ≤ ks.length ∧ i = .int .i64 k ∧ Aside0 (J S3 (pre ++ (p, ⟨f, kids⟩) :: flatPs p 0 (ks.take k)) wr) ∧ Aside0 (Keeps W wr S) ∧ Aside0 (∀ k, S3 k → S k ∨ W.heap.size ≤ k) ∧ Aside0 (Kd.F (Kd.int .i64) wr (fun k => ¬ S3 k) A p.length p) ∧ Aside0 (Kd.F k30 wr (fun k => ¬ S3 k) Ak ks.length ks))
    (fun i wr => ks.length - (intOf i).toNat)
  case atStart =>
    exact ⟨0, S2, Nat.zero_le _, rfl, ⟨by simpa [flatPs] using hJs _ _ _ _ hJz.out hb3⟩, ⟨hKz.out.below hb3⟩, ⟨hs2'⟩, ⟨Kd.F_below hpz.out hb3⟩, ⟨Kd.F_below hkz.out hb3⟩⟩
  case round =>
    obtain ⟨k, S3, hk, rfl, hJ3, hK3, hs3, hp3, hk3⟩ := hrel
    clear hJz hKz hpz hkz hb3
    by_cases hlt : k < ks.length
    · obtain ⟨ad, cc, hAk, hcl, hFK, hcell, hadok⟩ := Kd.F_get hk3.out z30 (k : Int) (by omega) (by omega)
      simp only [Int.toNat_natCast] at hFK hcell
      have hx : ks.getD k z30 = ks[k] := by simp [List.getD_eq_getElem?_getD, hlt]
      rw [hx] at hFK
      obtain ⟨A1, c1, rfl, hl1, hF1⟩ := k30_openF hFK
      have hx0 : wr.cell? (ad.add (k * 2)) = some (.int .i64 ks[k].f0) := hcell 0 _ rfl
      have hx1 : wr.cell? ⟨(ad.add (k * 2)).block, (ad.add (k * 2)).off + 1, none⟩ = some (.slice A1 ks[k].f1.length c1) := by rw [← add_field _ _ 1 (by omega)]; exact hcell 1 _ rfl
      have hxe := hmem ks[k] (List.getElem_mem hlt)
      have hF1z := Aside0.mk hF1
      have hl1z := Aside0.mk hl1
      clear hFK hcell hadok hx hF1 hl1 hcl
      subst hAk
      generalize hxk : ks[k] = x at hx0 hx1 hxe hF1z hl1z
      have hxz := Aside0.mk hxk
      clear hxk
      gi_wp2
      refine wpIn_wide.2 ?_
      have hb4 : Below wr.heap.size wr (wr.alloc (.cells #[.int .i64 x.f0, .slice A1 x.f1.length c1] 30)) := below_alloc (Below.refl _ _) _
      have hB4 : (wr.alloc (.cells #[.int .i64 x.f0, .slice A1 x.f1.length c1] 30)).heap[wr.heap.size]? = some (.cells #[.int .i64 x.f0, .slice A1 x.f1.length c1] 30 (0, 0)) := heap_alloc_new _ _
      have hb5 := hb4.drew
      have hB5 := blk_drew hB4
      refine start_ (n := 9) (S := fun w' => w'.cell? ⟨wr.heap.size, 0, none⟩ = some (.int .i64 x.f0) ∧ w'.cell? ⟨wr.heap.size, 1, none⟩ = some (.slice A1 x.f1.length c1)) (ds := [7]) #[false, false, false, false, false, false, false, false, false] (by kernel_rfl) rfl rfl ⟨(blk_cell hB5 0).trans rfl, (blk_cell hB5 1).trans rfl⟩ (fun hHeld => ?_)
      generalize World.drew (wr.alloc (.cells #[.int .i64 x.f0, .slice A1 x.f1.length c1] 30)) = w5 at hb5 hB5 hHeld ⊢
      clear hb4 hB4 hx0 hx1
      refine pure_ (i := 0) (N := some 22) (v := ?_) (a' := ?_) #[true, false, false, false, false, false, false, false, false] rfl rfl (by kernel_rfl) (fun _ _ _ h => h) (Or.inl ⟨by rfl, ?_⟩) ?_ ?_
      rotate_left
      · intro w'
        go_simp
        with_reducible rfl
      rotate_left
      · simp only [Act.put, List.setIfInBounds_toArray, List.set_cons_zero, List.set_cons_succ, i64_w, i32_w]
        rfl
      refine pure_ (i := 2) (N := some 24) (v := ?_) (a' := ?_) #[true, false, true, false, false, false, false, false, false] rfl rfl (by kernel_rfl) (fun _ _ _ h => h) (Or.inl ⟨by rfl, ?_⟩) ?_ ?_
      rotate_left
      · intro w'
        go_simp
        with_reducible rfl
      rotate_left
      · simp only [Act.put, List.setIfInBounds_toArray, List.set_cons_zero, List.set_cons_succ, i64_w, i32_w]
        rfl
      refine pure_ (i := 6) (N := some 28) (v := ?_) (a' := ?_) #[true, false, true, false, false, false, true, false, false] rfl rfl (by kernel_rfl) (fun _ _ _ h => h) (Or.inl ⟨by rfl, ?_⟩) ?_ ?_
      rotate_left
      · intro w'
        go_simp
        with_reducible rfl
      rotate_left
      · simp only [Act.put, List.setIfInBounds_toArray, List.set_cons_zero, List.set_cons_succ, i64_w, i32_w]
        rfl
      refine take_ (i := 5) (N := some 27) (v := ?_) (a' := ?_) #[true, false, true, false, false, true, true, false, false] rfl rfl (by kernel_rfl) (fun _ _ _ h => h) (Or.inl ⟨by rfl, ?_⟩) hHeld ?_ ?_
      rotate_left
      · rintro w' ⟨s0, s1⟩
        go_simp
        with_reducible rfl
      rotate_left
      · simp only [Act.put, List.setIfInBounds_toArray, List.set_cons_zero, List.set_cons_succ, i64_w, i32_w]
        rfl
      have hpl : p.length < 1099511627776 := by
        have h1 := hMz.out
        rw [hfl.out] at h1
        simp at h1
        omega
      have hflk := flatPs_take p ks k hlt
      rw [hxz.out] at hflk
      have hfle := flatPs_take_le p ks (k + 1)
      have hlen : (flatP (p ++ [(k : Int)]) x).length + (flatPs p 0 (ks.take k)).length + 1 ≤ (flatP p ⟨f, kids⟩).length := by
        rw [hfl.out]
        rw [hflk] at hfle
        simp at hfle ⊢
        omega
      have hlz := Aside0.mk hlen
      have hflkz := Aside0.mk hflk
      clear hlen hflk hfle
      refine join_ (σ := Unit) 3 #[true, true, true, true, false, true, true, false, false] (fun _ => [(23, .slice A p.length p.length), (25, .slice (some ⟨w5.heap.size, 0, none⟩) 1 1)]) (fun _ w' => w' = w5.alloc (.cells #[.int .i64 (k : Int)] 3)) ?cont ?two
      case cont =>
        rintro _ w6 rfl
        refine norm_ (a' := ?_) ?_ ?_
        rotate_left
        · simp only [putAll, Act.put, List.setIfInBounds_toArray, List.set_cons_zero, List.set_cons_succ, i64_w, i32_w]
          rfl
        refine one_ (i := 4) (N := some 26) #[true, true, true, true, true, true, true, false, false] rfl rfl (by kernel_rfl) (by decide) (fun K hK => ?_)
        obtain ⟨i0, hi, hz0, hz1, hz2⟩ := info_parts info3
        have hB6 := blk_alloc hB5 (.cells #[.int .i64 (k : Int)] 3)
        have hb6 : Below wr.heap.size wr (w5.alloc (.cells #[.int .i64 (k : Int)] 3)) := hb5.alloc hb5.size _
        have hN6 : (w5.alloc (.cells #[.int .i64 (k : Int)] 3)).heap[w5.heap.size]? = some (.cells #[.int .i64 (k : Int)] 3 (0, 0)) := heap_alloc_new _ _
        have hsz6 : w5.heap.size < (w5.alloc (.cells #[.int .i64 (k : Int)] 3)).heap.size := by simp
        generalize w5.alloc (.cells #[.int .i64 (k : Int)] 3) = w6 at hB6 hb6 hN6 hsz6 ⊢
        have hC := Kd.F_now (Kd.F_below hp3.out hb6)
        refine step_append_grows rfl (.tmp 23) (.tmp 25) 25 rfl 3 i0 (.int .i64 0) 1 8 Try.underlying25 hi hz0 hz1 hz2 rfl (by decide) A p.length p.length (p.map (.int .i64)) rfl ?hnone (by simp) ?holds ⟨w5.heap.size, 0, none⟩ 1 1 [.int .i64 (k : Int)] rfl rfl ?hnews (by intro u hu; simp at hu; subst hu; rfl) (by omega) (by simp only [maxLen]; omega) (by omega) ?_
        case hnone =>
          intro hA
          have h0 : p.length = 0 := by
            rcases Nat.eq_zero_or_pos p.length with h | h
            · exact h
            · obtain ⟨ad', e', _⟩ := hC.2.2 h
              rw [hA] at e'
              cases e'
          exact ⟨h0, h0⟩
        case holds =>
          intro b hb j u hu
          have hj : j < p.length := by
            have := (List.getElem?_eq_some_iff.1 hu).1
            simpa using this
          obtain ⟨ad', e', hcj⟩ := Kd.at_int hC (j : Int) (by omega) (by omega)
          rw [hb] at e'
          cases e'
          simp only [Int.toNat_natCast, rd] at hcj
          rw [hcj]
          simp only [List.getElem?_map, List.getElem?_eq_getElem hj, Option.map_some] at hu
          simpa [List.getD_eq_getElem?_getD, List.getElem?_eq_getElem hj] using hu
        case hnews =>
          intro j u hu
          cases j with
          | zero =>
            simp at hu
            subst hu
            rw [add_plain]
            exact (blk_cell hN6 0).trans rfl
          | succ j => simp at hu
        intro v1 w7 hown hg
        have hR : (Kd.int .i64).R 3 w7 w6.heap.size (fun b => w6.heap.size ≤ b) v1 (p ++ [(k : Int)]) := Kd.R_of_own (by simpa [encs] using hown) (fun b hb => own_base hown b hb)
        obtain ⟨A2, c2, hv, hl2, _⟩ := Kd.R_reads hR
        subst hv
        have hF2 := Kd.R_F hR
        have hb7 : Below wr.heap.size wr w7 := hb6.grown hg hb6.size (by simp)
        have hB7 := blk_grown hB6 hg (by simp)
        have hsz7 := hb6.size
        have hJ7 := hJs _ _ _ _ hJ3.out hb7
        have hF2' : Kd.F (Kd.int .i64) w7 (fun b => ¬ S3 b) A2 (p ++ [(k : Int)]).length (p ++ [(k : Int)]) := Kd.F_mono hF2 (fun b hb h => by have := hJb _ _ _ hJ3.out b h; omega)
        have hFx := Kd.F_below hF1z.out hb7
        have hFp7 := Kd.F_below hp3.out hb7
        have hFk7 := Kd.F_below hk3.out hb7
        have hK7 := hK3.out.below hb7
        clear hR hF2 hown hC hB6 hb6 hN6 hg hHeld hB5 hb5
        refine hK.out _ _ ⟨(blk_cell hB7 0).trans rfl, (blk_cell hB7 1).trans rfl⟩ (fun hHeld => ?_)
        clear hK K
        refine norm_ (a' := ?_) ?_ ?_
        rotate_left
        · show Act.put _ (some 26) _ = _
          simp only [Act.put, List.setIfInBounds_toArray, List.set_cons_zero, List.set_cons_succ, i64_w, i32_w]
          rfl
        refine last_ (i := 7) (N := some 29) #[true, true, true, true, true, true, true, true, false] rfl rfl (by kernel_rfl) (by decide) (fun K hK => ?_)
        refine goes_ Try.func104 (by kernel_rfl) rfl #[.slice A2 (p ++ [(k : Int)]).length c2, .agg #[.int .i64 x.f0, .slice A1 x.f1.length c1], .func (.yield l) #[] #[]] (by rfl) rfl rfl (by (try simp only [List.map_toArray, List.map_cons, List.map_nil]); first | done | rfl) ?_
        refine (callsIn_wide.1 (ih x hxe 0 S3 (p ++ [(k : Int)]) A2 c2 A1 c1 _ w7 hJ7 hF2' hl2 hFx hl1z.out ?_ ?_)).mono ?_
        · have h1 := hlz.out
          have h2 := hNz.out
          simp only [List.length_append, List.length_cons]
          omega
        · have h1 := hlz.out
          have h2 := hMz.out
          simp only [List.length_append, List.length_cons, List.length_nil]
          omega
        rintro e w8 ⟨rfl, S4, hJ4, hK4, hs4⟩
        refine ⟨_, rfl, ?_⟩
        refine hK.out _ _ ?_
        clear hK K
        refine norm_ (a' := ?_) ?_ ?_
        rotate_left
        · show Act.put _ (some 29) _ = _
          simp only [Act.put, List.setIfInBounds_toArray, List.set_cons_zero, List.set_cons_succ, i64_w, i32_w]
          rfl
        refine pure_ (i := 8) (N := some 30) (v := ?_) (a' := ?_) #[true, true, true, true, true, true, true, true, true] rfl rfl (by kernel_rfl) (fun _ _ _ h => h) (Or.inl ⟨by rfl, ?_⟩) ?_ ?_
        rotate_left
        · intro w'
          go_simp
          with_reducible rfl
        rotate_left
        · simp only [Act.put, List.setIfInBounds_toArray, List.set_cons_zero, List.set_cons_succ, i64_w, i32_w]
          rfl
        refine done_ (by kernel_rfl) ?_
        have hFp8 := Aside0.mk (hK4.F hs4 hFp7)
        have hFk8 := Aside0.mk (hK4.F hs4 hFk7)
        have hK8 := Aside0.mk (hK7.trans hK4 hs3.out)
        have hs8 : Aside0 (∀ b, S4 b → S b ∨ W.heap.size ≤ b) := ⟨fun b hb => (hs4 b hb).elim (hs3.out b) (fun h => .inr (by have h1 := hK7.size; omega))⟩
        have hJ8 : Aside0 (J S4 (pre ++ (p, ⟨f, kids⟩) :: flatPs p 0 (ks.take (k + 1))) w8) := ⟨by rw [hflkz.out]; simpa [List.append_assoc] using hJ4⟩
        clear hK4 hs4 hFp7 hFk7 hK7 hs3 hJ4 hJ7 hFx hF2' hB7 hb7 hHeld
        gi_wp2
        go_roundw
        case rel => exact ⟨k + 1, S4, by omega, by go_num, hJ8, hK8, hs8, hFp8, hFk8⟩
        case measure => simp [intOf]; omega
      intro hcont
      refine two_ (i := 1) (j := 3) (Ni := some 23) (Nj := some 25) #[true, true, true, false, false, true, true, false, false] #[true, false, true, true, false, true, true, false, false] rfl rfl rfl rfl (by kernel_rfl) (by decide) (by decide) (fun K hK => ?_) (fun K hK => ?_)
      · refine goes_ Try.func109 (by kernel_rfl) rfl #[.slice A p.length c] (by rfl) rfl rfl (by (try simp only [List.map_toArray, List.map_cons, List.map_nil]); first | done | rfl) ?_
        refine (clip_any A p.length c _ hpc (by omega)).mono ?_
        rintro e w6 ⟨rfl, rfl⟩
        refine ⟨_, rfl, ?_⟩
        refine hK.out _ _ hHeld (fun hHeld => ?_)
        clear hK K
        refine norm_ (a' := ?_) ?_ ?_
        rotate_left
        · show Act.put _ (some 23) _ = _
          simp only [Act.put, List.setIfInBounds_toArray, List.set_cons_zero, List.set_cons_succ, i64_w, i32_w]
          rfl
        refine one_ (i := 3) (N := some 25) #[true, true, true, true, false, true, true, false, false] rfl rfl (by kernel_rfl) (by decide) (fun K hK => ?_)
        refine value_ (w1 := ?_) (v := ?_) (by rfl) rfl ?_ ?_
        rotate_left 2
        · go_simp
          constructor
          · rfl
          · rfl
        refine hK.out _ _ ⟨(blk_cell (blk_alloc hB5 _) 0).trans rfl, (blk_cell (blk_alloc hB5 _) 1).trans rfl⟩ (fun hHeld => ?_)
        clear hK K
        refine norm_ (a' := ?_) ?_ ?_
        rotate_left
        · show Act.put _ (some 25) _ = _
          simp only [Act.put, List.setIfInBounds_toArray, List.set_cons_zero, List.set_cons_succ, i64_w, i32_w]
          rfl
        have h := hcont () _ rfl
        simp only [putAll, Act.put, List.setIfInBounds_toArray, List.set_cons_zero, List.set_cons_succ, i64_w, i32_w] at h
        exact h
      · refine value_ (w1 := ?_) (v := ?_) (by rfl) rfl ?_ ?_
        rotate_left 2
        · go_simp
          constructor
          · rfl
          · rfl
        refine hK.out _ _ ⟨(blk_cell (blk_alloc hB5 _) 0).trans rfl, (blk_cell (blk_alloc hB5 _) 1).trans rfl⟩ (fun hHeld => ?_)
        clear hK K
        refine norm_ (a' := ?_) ?_ ?_
        rotate_left
        · show Act.put _ (some 25) _ = _
          simp only [Act.put, List.setIfInBounds_toArray, List.set_cons_zero, List.set_cons_succ, i64_w, i32_w]
          rfl
        refine one_ (i := 1) (N := some 23) #[true, true, true, true, false, true, true, false, false] rfl rfl (by kernel_rfl) (by decide) (fun K hK => ?_)
        refine goes_ Try.func109 (by kernel_rfl) rfl #[.slice A p.length c] (by rfl) rfl rfl (by (try simp only [List.map_toArray, List.map_cons, List.map_nil]); first | done | rfl) ?_
        refine (clip_any A p.length c _ hpc (by omega)).mono ?_
        rintro e w6 ⟨rfl, rfl⟩
        refine ⟨_, rfl, ?_⟩
        refine hK.out _ _ hHeld (fun hHeld => ?_)
        clear hK K
        refine norm_ (a' := ?_) ?_ ?_
        rotate_left
        · show Act.put _ (some 23) _ = _
          simp only [Act.put, List.setIfInBounds_toArray, List.set_cons_zero, List.set_cons_succ, i64_w, i32_w]
          rfl
        have h := hcont () _ rfl
        simp only [putAll, Act.put, List.setIfInBounds_toArray, List.set_cons_zero, List.set_cons_succ, i64_w, i32_w] at h
        exact h
    · gi_wp2
      go_ret
      exact ⟨rfl, S3, by rw [hfl.out]; have h := hJ3.out; rwa [List.take_of_length_le (by omega)] at h, hK3.out, hs3.out⟩
end Go.Proofs.Ytpfddihcikiofaa.P
end
