/- Trees as Lean sees them: all places of a tree, in order. -/
import Derived.Test.YtpfddihcikiofaaPx0
namespace Go.Proofs.Ytpfddihcikiofaa.P
open Go.RowKit Go.Proofs.YtpfddihcikiofaaW.PrintWords Go.Proofs.YtpfddihcikiofaaW.PrintLast Go.Proofs.YtpfddihcikiofaaW.PrintMore

/-- Induction over a tree. -/
theorem S30.ind {motive : S30 → Prop} (h : ∀ f l, (∀ x ∈ l, motive x) → motive ⟨f, l⟩) : ∀ t, motive t := by
  intro t
  refine S30.rec (motive_1 := motive) (motive_2 := fun l => ∀ x ∈ l, motive x) ?_ ?_ ?_ t
  · intro f l hl
    exact h f l hl
  · intro x hx
    cases hx
  · intro x l hx hl y hy
    rcases List.mem_cons.1 hy with rfl | hy
    · exact hx
    · exact hl y hy

mutual
/-- All places of a tree behind p, in order, and what stands there. -/
def flatP : List Int → S30 → List (List Int × S30)
  | p, ⟨f, l⟩ => (p, ⟨f, l⟩) :: (if f < 0 then [] else flatPs p 0 l)
def flatPs : List Int → Nat → List S30 → List (List Int × S30)
  | _, _, [] => []
  | p, i, x :: r => flatP (p ++ [(i : Int)]) x ++ flatPs p (i + 1) r
end

theorem flatPs_snoc (p : List Int) (i : Nat) (l : List S30) (x : S30) : flatPs p i (l ++ [x]) = flatPs p i l ++ flatP (p ++ [((i + l.length : Nat) : Int)]) x := by
  induction l generalizing i with
  | nil => simp [flatPs]
  | cons y l ih =>
    simp only [List.cons_append, flatPs, ih, List.append_assoc, List.length_cons]
    rw [show i + 1 + l.length = i + (l.length + 1) from by omega]
theorem flatPs_take (p : List Int) (l : List S30) (k : Nat) (h : k < l.length) : flatPs p 0 (l.take (k + 1)) = flatPs p 0 (l.take k) ++ flatP (p ++ [(k : Int)]) l[k] := by
  rw [List.take_succ_eq_append_getElem h, flatPs_snoc]
  simp [Nat.min_eq_left (Nat.le_of_lt h)]
theorem flatPs_take_le (p : List Int) (l : List S30) (k : Nat) : (flatPs p 0 (l.take k)).length ≤ (flatPs p 0 l).length := by
  by_cases h : k < l.length
  · have key : ∀ (a b : List S30) (i : Nat), (flatPs p i a).length ≤ (flatPs p i (a ++ b)).length := by
      intro a
      induction a with
      | nil => intro b i; simp [flatPs]
      | cons x a ih => intro b i; simp only [List.cons_append, flatPs, List.length_append]; have := ih b (i + 1); omega
    have := key (l.take k) (l.drop k) 0
    rwa [List.take_append_drop] at this
  · rw [List.take_of_length_le (by omega)]; exact Nat.le_refl _
end Go.Proofs.Ytpfddihcikiofaa.P
