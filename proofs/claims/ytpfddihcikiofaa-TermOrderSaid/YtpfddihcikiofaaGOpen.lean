/- An argument of the laws, opened: a tree of struct type 24, a list of such. -/
import Derived.ChangeSame
import Derived.ChangeShapes
import Derived.ChangeArms
import Derived.WideShapes
import Derived.Test.YtpfddihcikiofaaPx0
namespace Go.Proofs.Ytpfddihcikiofaa.P
open Go.ChangeShapes Go.WideShapes Go.RowKit Go.Proofs.YtpfddihcikiofaaW.PrintWords Go.Proofs.YtpfddihcikiofaaW.PrintLast Go.Proofs.YtpfddihcikiofaaW.PrintMore
set_option maxRecDepth 100000
set_option linter.unusedVariables false
set_option linter.unusedSimpArgs false

theorem list_of {α : Type} (P : Nat → α → Prop) : ∀ n, (∀ i, i < n → ∃ x, P i x) → ∃ l : List α, l.length = n ∧ ∀ i x, l[i]? = some x → P i x := by
  intro n
  induction n with
  | zero => intro _; exact ⟨[], rfl, fun i x h => by simp at h⟩
  | succ n ih =>
    intro h
    obtain ⟨l, hl, hP⟩ := ih (fun i hi => h i (by omega))
    obtain ⟨x, hx⟩ := h n (by omega)
    refine ⟨l ++ [x], by simp [hl], fun i y hy => ?_⟩
    rcases Nat.lt_or_ge i n with hlt | hge
    · rw [List.getElem?_append_left (by omega)] at hy
      exact hP i y hy
    · rw [List.getElem?_append_right (by omega)] at hy
      have : i = n := by
        have := (List.getElem?_eq_some_iff.1 hy).1
        simp at this
        omega
      subst this
      simp [hl] at hy
      exact hy ▸ hx

section
variable {H : Type} {enc : TypeId × Value → H} {W : World} {base b0 : Nat} {sp : Nat → Bool} {held : Bool}
def OpenT (W : World) (cs : List Value) (t : S24) : Prop := ∃ A c, cs = [.int .i64 t.f0, .slice A t.f1.length c] ∧ t.f1.length ≤ c ∧ k24.C W A t.f1.length t.f1 ∧ (Lit.int .i64 t.f0).wf = true
theorem OpenT.K {W : World} {cs : List Value} {t : S24} (h : OpenT W cs t) : k24.K W t cs := by
  obtain ⟨A, c, rfl, hl, hC, _⟩ := h
  exact k24_mk W t hl hC
/-- A list of rows of k24, out of what its elements read as. -/
theorem open_rows {fuel : Nat} (IH : ∀ cs x, DataW.trod enc Try.prog W base sp held fuel 24 cs = some x → ∃ t : S24, OpenT W cs t) {a : Addr} {len : Nat} {ys : List (DataW H × List MemPlace)} (hys : ys.length = len) (hm : len ≤ maxLen)
    (hel : ∀ i, i < len → (W.cells? base (a.add (i * Try.prog.cellsOf 24)) (Try.prog.cellsOf 24)).bind (DataW.trod enc Try.prog W base sp held fuel 24) = ys[i]?) : ∃ l : List S24, l.length = len ∧ k24.C W (some a) l.length l := by
  have hc : Try.prog.cellsOf 24 = 2 := by kernel_rfl
  have h1 : ∀ i, i < len → ∃ t : S24, ∃ cs, W.cells? base (a.add (i * 2)) 2 = some cs ∧ OpenT W cs t := by
    intro i hi
    have h := hel i hi
    rw [List.getElem?_eq_getElem (by omega), hc, Option.bind_eq_some_iff] at h
    obtain ⟨cs, hcs, ht⟩ := h
    obtain ⟨t, ht⟩ := IH _ _ ht
    exact ⟨t, cs, hcs, ht⟩
  obtain ⟨l, hl, hP⟩ := list_of _ len h1
  refine ⟨l, hl, rfl, by rw [hl]; exact hm, fun _ => ⟨a, rfl, fun j p hj => ?_⟩⟩
  obtain ⟨cs, hcs, ht⟩ := hP j p hj
  obtain ⟨_, hlen, hcell⟩ := World.cells?_some hcs
  refine ⟨cs, hlen, ht.K, fun i u hu => ?_⟩
  have hi : i < 2 := by
    have := (List.getElem?_eq_some_iff.1 hu).1
    omega
  have h := hcell i hi
  rw [hu] at h
  rw [← h]
  show W.cell? _ = W.cell? _
  congr 1
  show a.add (j * 2 + i) = (a.add (j * 2)).add i
  simp [Addr.add, Nat.add_assoc]
  by_cases hj0 : j = 0 <;> by_cases hi0 : i = 0 <;> (have hj2 : ¬ (j ≠ 0 ∧ j * 2 = 0) := by omega) <;> simp [hj0, hi0, Nat.add_assoc] <;> (rw [if_neg (show ¬ j * 2 = 0 by omega)]; simp [Nat.add_assoc])

theorem open_T24 : ∀ (fuel : Nat) (cs : List Value) (x : DataW H × List MemPlace), DataW.trod enc Try.prog W base sp held fuel 24 cs = some x → ∃ t : S24, OpenT W cs t := by
  intro fuel
  induction fuel using Nat.strongRecOn with
  | ind fuel IH =>
    intro cs x h
    obtain ⟨xs, n, rfl, rfl, hlen, hxs, hf⟩ := DataW.trod_struct Try.underlying24 h
    have hc : Try.prog.cellsOf 24 = 2 := by kernel_rfl
    rw [hc] at hlen
    obtain ⟨u, v, rfl⟩ : ∃ u v, cs = [u, v] := by
      match cs, hlen with
      | [u, v], _ => exact ⟨u, v, rfl⟩
    obtain ⟨y0, y1, rfl⟩ : ∃ u v, xs = [u, v] := by
      match xs, hxs with
      | [u, v], _ => exact ⟨u, v, rfl⟩
    have h0 := hf 0 _ rfl
    have h1 := hf 1 _ rfl
    have hc3 : Try.prog.cellsOf 3 = 1 := by kernel_rfl
    have hc22 : Try.prog.cellsOf 22 = 1 := by kernel_rfl
    simp only [hc3, hc22, List.drop_zero, List.take_succ_cons, List.take_zero, List.drop_succ_cons, List.getElem?_cons_zero, List.getElem?_cons_succ] at h0 h1
    obtain ⟨f, hfe, _, hw⟩ := DataW.trod_int Try.underlying3 h0
    injection hfe with hfe
    subst hfe
    rcases DataW.trod_slice Try.underlying22 h1 with ⟨he, _⟩ | ⟨a, len, cap, elems, rest, m, hm, he, _, _, hlc, hcm, hel, hget, _⟩
    · injection he with he
      subst he
      exact ⟨⟨f, []⟩, none, 0, rfl, Nat.le_refl _, ⟨rfl, Nat.zero_le _, fun h => absurd h (Nat.lt_irrefl _)⟩, hw⟩
    · injection he with he
      subst he
      obtain ⟨l, hl, hC⟩ := open_rows (IH m (by omega)) hel (by omega) hget
      subst hl
      exact ⟨⟨f, l⟩, some a, cap, rfl, hlc, hC, hw⟩
/-- A parameter of type T. -/
theorem open_T {v : Value} {d : DataW H} {p : List MemPlace} (hv : Value.okWide Try.prog W .any b0 24 v) (h : DataW.Trod enc Try.prog W base sp held 24 v d p) :
    ∃ (t : S24) (A : Option Addr) (c : Nat), v = .agg #[.int .i64 t.f0, .slice A t.f1.length c] ∧ t.f1.length ≤ c ∧ k24.C W A t.f1.length t.f1 ∧ (Lit.int .i64 t.f0).wf = true := by
  obtain ⟨cs, rfl, _⟩ := okWide_struct Try.underlying24 hv
  obtain ⟨fuel, h⟩ := h
  obtain ⟨t, A, c, he, h1, h2, h3⟩ := open_T24 _ _ _ h
  refine ⟨t, A, c, ?_, h1, h2, h3⟩
  have he : cs.toList = [.int .i64 t.f0, .slice A t.f1.length c] := he
  rw [← Array.toArray_toList (xs := cs), he]
/-- A parameter of type []T. -/
theorem open_Ts {v : Value} {d : DataW H} {p : List MemPlace} (hv : Value.okWide Try.prog W .any b0 22 v) (h : DataW.Trod enc Try.prog W base sp held 22 v d p) :
    ∃ (l : List S24) (A : Option Addr) (c : Nat), v = .slice A l.length c ∧ l.length ≤ c ∧ k24.C W A l.length l := by
  obtain ⟨A0, n0, c0, rfl⟩ := okWide_slice Try.underlying22 hv
  obtain ⟨fuel, h⟩ := h
  rcases DataW.trod_slice Try.underlying22 h with ⟨he, _⟩ | ⟨a, len, cap, elems, rest, m, hm, he, _, _, hlc, hcm, hel, hget, _⟩
  · simp [Value.cells] at he
    obtain ⟨rfl, rfl, rfl⟩ := he
    exact ⟨[], none, 0, rfl, Nat.le_refl _, ⟨rfl, Nat.zero_le _, fun h => absurd h (Nat.lt_irrefl _)⟩⟩
  · simp [Value.cells] at he
    obtain ⟨rfl, rfl, rfl⟩ := he
    obtain ⟨l, hl, hC⟩ := open_rows (open_T24 m) hel (by omega) hget
    subst hl
    exact ⟨l, some a, c0, rfl, hlc, hC⟩
end
end Go.Proofs.Ytpfddihcikiofaa.P
