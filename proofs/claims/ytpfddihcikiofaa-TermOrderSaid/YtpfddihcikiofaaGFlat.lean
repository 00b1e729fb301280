/- Plain law: the nodes of a tree; variables, the greatest one. -/
import Derived.Test.YtpfddihcikiofaaGPure06
import Derived.Test.YtpfddihcikiofaaGVars
import Derived.Test.YtpfddihcikiofaaGCount
import Derived.Test.YtpfddihcikiofaaGSize
import Derived.Test.YtpfddihcikiofaaGPlaces
import Derived.Test.YtpfddihcikiofaaPxTermTop
import Derived.Test.YtpfddihcikiofaaPxSoriteslaw06Alive
namespace Go.Proofs.Ytpfddihcikiofaa.P
open Go.RowKit Go.Proofs.YtpfddihcikiofaaW.PrintWords Go.Proofs.YtpfddihcikiofaaW.PrintLast Go.Proofs.YtpfddihcikiofaaW.PrintMore
set_option linter.unusedVariables false
set_option linter.unusedSimpArgs false

mutual
/-- All terms in one, in order. -/
def nodes : S30 → List S30
  | ⟨f, l⟩ => ⟨f, l⟩ :: (if f < 0 then [] else nodess l)
def nodess : List S30 → List S30
  | [] => []
  | x :: r => nodes x ++ nodess r
end
mutual
theorem flatP_snd : ∀ (p : List Int) (t : S30), (flatP p t).map Prod.snd = nodes t
  | p, ⟨f, l⟩ => by
    simp only [flatP, nodes, List.map_cons]
    split
    · rfl
    · rw [flatPs_snd p 0 l]
theorem flatPs_snd : ∀ (p : List Int) (i : Nat) (l : List S30), (flatPs p i l).map Prod.snd = nodess l
  | _, _, [] => rfl
  | p, i, x :: r => by
    simp only [flatPs, nodess, List.map_append]
    rw [flatP_snd, flatPs_snd]
end
theorem flatP_len (p : List Int) (t : S30) : (flatP p t).length = (nodes t).length := by rw [← flatP_snd p t, List.length_map]
mutual
theorem nodes_le : ∀ t : S30, (nodes t).length ≤ wt t
  | ⟨f, l⟩ => by
    simp only [nodes, wt, List.length_cons]
    split
    · simp
    · have := nodess_le l; omega
theorem nodess_le : ∀ l : List S30, (nodess l).length ≤ wts l
  | [] => by simp [nodess, wts]
  | x :: r => by
    have h1 := nodes_le x
    have h2 := nodess_le r
    simp only [nodess, wts, List.length_append]
    omega
end
theorem nodes_two (f : Int) (hf : 0 ≤ f) (x y : S30) : nodes ⟨f, [x, y]⟩ = ⟨f, [x, y]⟩ :: (nodes x ++ nodes y) := by
  simp only [nodes, nodess, List.append_nil]
  rw [if_neg (by omega)]

/-! variables -/
def varN (out : List Int) (x : S30) : List Int := if x.f0 < 0 then (if decide (wrap64 (-1 - x.f0) ∈ out) = true then out else out ++ [wrap64 (-1 - x.f0)]) else out
def varsN (l : List S30) : List Int := l.foldl varN []
theorem varsP_eq (l : List (List Int × S30)) : varsP l = varsN (l.map Prod.snd) := by
  unfold varsP varsN
  rw [List.foldl_map]
  rfl
theorem mem_foldl (l : List S30) : ∀ (o : List Int) (n : Int), n ∈ l.foldl varN o ↔ n ∈ o ∨ ∃ x ∈ l, x.f0 < 0 ∧ n = wrap64 (-1 - x.f0) := by
  induction l with
  | nil => intro o n; simp
  | cons x l ih =>
    intro o n
    rw [List.foldl_cons, ih]
    unfold varN
    by_cases h : x.f0 < 0
    · rw [if_pos h]
      by_cases h2 : wrap64 (-1 - x.f0) ∈ o
      · rw [if_pos (decide_eq_true h2)]
        constructor
        · rintro (h3 | ⟨y, hy, h3⟩)
          · exact .inl h3
          · exact .inr ⟨y, by simp [hy], h3⟩
        · rintro (h3 | ⟨y, hy, h3, rfl⟩)
          · exact .inl h3
          · rcases List.mem_cons.1 hy with rfl | hy
            · exact .inl h2
            · exact .inr ⟨y, hy, h3, rfl⟩
      · rw [if_neg (by simp [h2])]
        constructor
        · rintro (h3 | ⟨y, hy, h3⟩)
          · rcases List.mem_append.1 h3 with h3 | h3
            · exact .inl h3
            · exact .inr ⟨x, by simp, h, by simpa using h3⟩
          · exact .inr ⟨y, by simp [hy], h3⟩
        · rintro (h3 | ⟨y, hy, h3, rfl⟩)
          · exact .inl (by simp [h3])
          · rcases List.mem_cons.1 hy with rfl | hy
            · exact .inl (by simp)
            · exact .inr ⟨y, hy, h3, rfl⟩
    · rw [if_neg h]
      constructor
      · rintro (h3 | ⟨y, hy, h3⟩)
        · exact .inl h3
        · exact .inr ⟨y, by simp [hy], h3⟩
      · rintro (h3 | ⟨y, hy, h3, rfl⟩)
        · exact .inl h3
        · rcases List.mem_cons.1 hy with rfl | hy
          · exact absurd h3 h
          · exact .inr ⟨y, hy, h3, rfl⟩
theorem foldl_prefix (l : List S30) : ∀ o : List Int, ∃ s, l.foldl varN o = o ++ s := by
  induction l with
  | nil => intro o; exact ⟨[], by simp⟩
  | cons x l ih =>
    intro o
    obtain ⟨s, hs⟩ := ih (varN o x)
    rw [List.foldl_cons, hs]
    unfold varN
    split
    · split
      · exact ⟨s, rfl⟩
      · exact ⟨[wrap64 (-1 - x.f0)] ++ s, by simp⟩
    · exact ⟨s, rfl⟩
theorem nodup_foldl (l : List S30) : ∀ o : List Int, o.Nodup → (l.foldl varN o).Nodup := by
  induction l with
  | nil => intro o h; exact h
  | cons x l ih =>
    intro o h
    rw [List.foldl_cons]
    refine ih _ ?_
    unfold varN
    split
    · split
      · exact h
      · rename_i h2
        rw [List.nodup_append]
        refine ⟨h, by simp, ?_⟩
        intro a ha b hb
        simp at hb
        subst hb
        intro e
        subst e
        simp [ha] at h2
    · exact h
theorem nodup_len : ∀ (a b : List Int), a.Nodup → (∀ x ∈ a, x ∈ b) → a.length ≤ b.length := by
  intro a
  induction a with
  | nil => intro b _ _; simp
  | cons x a ih =>
    intro b hn hs
    rw [List.nodup_cons] at hn
    have h1 := ih (b.erase x) hn.2 (fun y hy => by
      have hne : y ≠ x := fun e => hn.1 (e ▸ hy)
      exact (List.mem_erase_of_ne hne).2 (hs y (by simp [hy])))
    have hx : x ∈ b := hs x (by simp)
    rw [List.length_erase_of_mem hx] at h1
    have := List.length_pos_of_mem hx
    simp only [List.length_cons]
    omega
theorem foldl_len_le (l : List S30) (o : List Int) : (l.foldl varN o).length ≤ o.length + (varsN l).length := by
  have key : ∀ (l : List S30) (P Q : List Int), P.length ≤ o.length + Q.length → (∀ v ∈ Q, v ∈ P) → (l.foldl varN P).length ≤ o.length + (l.foldl varN Q).length := by
    intro l
    induction l with
    | nil => intro P Q h _; exact h
    | cons x l ih =>
      intro P Q h hs
      rw [List.foldl_cons, List.foldl_cons]
      refine ih _ _ ?_ ?_
      · unfold varN
        by_cases h1 : x.f0 < 0
        · rw [if_pos h1, if_pos h1]
          by_cases h2 : wrap64 (-1 - x.f0) ∈ Q
          · rw [if_pos (decide_eq_true h2), if_pos (decide_eq_true (hs _ h2))]
            exact h
          · rw [if_neg (c := decide (wrap64 (-1 - x.f0) ∈ Q) = true) (by simp [h2])]
            split
            · simp; omega
            · simp; omega
        · rw [if_neg h1, if_neg h1]; exact h
      · intro v hv
        have h1 := (mem_foldl [x] Q v).1 hv
        exact (mem_foldl [x] P v).2 (h1.imp_left (hs v))
  exact key l o [] (by simp) (fun v hv => by cases hv)
/-- The variables of two terms together. -/
theorem vars_two (a b : List S30) : (varsN a).length + (varsN b).length ≥ (varsN (a ++ b)).length ∧ (varsN a).length ≤ (varsN (a ++ b)).length ∧ (varsN b).length ≤ (varsN (a ++ b)).length ∧ ∃ s, varsN (a ++ b) = varsN a ++ s := by
  have he : varsN (a ++ b) = b.foldl varN (varsN a) := by unfold varsN; rw [List.foldl_append]
  obtain ⟨s, hs⟩ := foldl_prefix b (varsN a)
  refine ⟨by rw [he]; exact foldl_len_le b _, by rw [he, hs]; simp, ?_, s, by rw [he]; exact hs⟩
  refine nodup_len _ _ (nodup_foldl b [] List.nodup_nil) (fun x hx => ?_)
  rw [he]
  have := (mem_foldl b [] x).1 hx
  exact (mem_foldl b _ x).2 (.inr (this.resolve_left (by simp)))
/-- The greatest of a list, or -1. -/
def top (l : List Int) : Int := l.foldl mx (-1)
theorem top_spec (l : List Int) : ∀ o : Int, o ≤ l.foldl mx o ∧ (∀ v ∈ l, v ≤ l.foldl mx o) ∧ (l.foldl mx o = o ∨ l.foldl mx o ∈ l) := by
  induction l with
  | nil => intro o; simp
  | cons x l ih =>
    intro o
    obtain ⟨h1, h2, h3⟩ := ih (mx o x)
    have hm : o ≤ mx o x ∧ x ≤ mx o x ∧ (mx o x = o ∨ mx o x = x) := by unfold mx; split <;> omega
    rw [List.foldl_cons]
    refine ⟨by omega, fun v hv => ?_, ?_⟩
    · rcases List.mem_cons.1 hv with rfl | hv
      · omega
      · exact h2 v hv
    · rcases h3 with h3 | h3
      · rcases hm.2.2 with h | h
        · exact .inl (by omega)
        · exact .inr (by rw [h3, h]; simp)
      · exact .inr (by simp [h3])
theorem top_two (a b : List S30) : top (varsN (a ++ b)) = mx (top (varsN a)) (top (varsN b)) := by
  have he : varsN (a ++ b) = b.foldl varN (varsN a) := by unfold varsN; rw [List.foldl_append]
  obtain ⟨a1, a2, a3⟩ := top_spec (varsN (a ++ b)) (-1)
  obtain ⟨b1, b2, b3⟩ := top_spec (varsN a) (-1)
  obtain ⟨c1, c2, c3⟩ := top_spec (varsN b) (-1)
  have hm : ∀ v, v ∈ varsN (a ++ b) ↔ v ∈ varsN a ∨ v ∈ varsN b := by
    intro v
    rw [he, mem_foldl, show varsN b = b.foldl varN [] from rfl, mem_foldl]
    simp
  have h1 : top (varsN a) ≤ top (varsN (a ++ b)) := by
    rcases b3 with h | h
    · unfold top; omega
    · exact a2 _ ((hm _).2 (.inl h))
  have h2 : top (varsN b) ≤ top (varsN (a ++ b)) := by
    rcases c3 with h | h
    · unfold top; omega
    · exact a2 _ ((hm _).2 (.inr h))
  have h3 : top (varsN (a ++ b)) ≤ top (varsN a) ∨ top (varsN (a ++ b)) ≤ top (varsN b) := by
    rcases a3 with h | h
    · left; unfold top; omega
    · rcases (hm _).1 h with h | h
      · exact .inl (b2 _ h)
      · exact .inr (c2 _ h)
  unfold mx
  split <;> omega
theorem top_ge (l : List Int) : -1 ≤ top l := (top_spec l (-1)).1
theorem Top_spec (t : S30) (h : (flatP [] t).length ≤ 1099511627776) : Ev (fun k => term_Top.f k t.f0 t.f1) (top (varsN (nodes t))) := by
  have hv : term_Vars.f t.f0 t.f1 = some (varsN (nodes t)) := by
    unfold term_Vars.f
    rw [S30.eta, if_pos h, varsP_eq, flatP_snd]
  have hl : (varsN (nodes t)).length ≤ 1099511627776 := by
    have := varsP_len (flatP [] t)
    rw [varsP_eq, flatP_snd] at this
    omega
  refine Ev.congr (f := fun k => term_Top.l0 k (-1) (varsN (nodes t)) ((varsN (nodes t)).length : Int) 0) (fun k => ?_) ?_
  · unfold term_Top.f
    rw [hv]
    rfl
  · generalize varsN (nodes t) = l at hl ⊢
    have hloop : ∀ (m i : Nat), l.length - i = m → i ≤ l.length → Ev (fun k => term_Top.l0 k (top (l.take i)) l (l.length : Int) (i : Int)) (top l) := by
      intro m
      induction m with
      | zero =>
        intro i hi hle
        refine Ev.step (f := fun _ => some (top l)) (fun k => ?_) (Ev.now _)
        rw [term_Top.l0, if_neg (by omega), List.take_of_length_le (by omega)]
      | succ m ihm =>
        intro i hi hle
        have hlt : i < l.length := by omega
        refine Ev.step (f := fun k => term_Top.l0 k (top (l.take (i + 1))) l (l.length : Int) ((i + 1 : Nat) : Int)) (fun k => ?_) (ihm (i + 1) (by omega) (by omega))
        rw [term_Top.l0, if_pos (by omega), if_pos (by omega), if_pos (by omega), show wrap64 ((i : Int) + 1) = ((i + 1 : Nat) : Int) from by rw [w64 _ (by omega)]; omega]
        congr 1
        unfold top
        rw [List.take_succ_eq_append_getElem hlt, List.foldl_append]
        simp [rd, List.getD, List.getElem?_eq_getElem hlt]
    have := hloop l.length 0 (by omega) (by omega)
    simpa [top] using this
theorem countP_eq (f : Int) (l : List (List Int × S30)) : countP f l = ((l.map Prod.snd).filter fun x => x.f0 == f).length := by
  unfold countP
  rw [List.filter_map, List.length_map]
  rfl
def countN (f : Int) (l : List S30) : Nat := (l.filter fun x => x.f0 == f).length
theorem alive06 : soriteslaw06_alive.f = some true := by
  simp [soriteslaw06_alive.f, term_Places.f, term_Size.f, flatP, flatPs, rd_L2, rd]
end Go.Proofs.Ytpfddihcikiofaa.P
