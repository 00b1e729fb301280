/- Words for the walks of the laws: blocks known, terms in new rows. -/
import Derived.Test.YtpfddihcikiofaaPx0
import Derived.Test.YtpfddihcikiofaaTree
namespace Go.Proofs.Ytpfddihcikiofaa.P
open Go.RowKit Go.Proofs.YtpfddihcikiofaaW.PrintWords Go.Proofs.YtpfddihcikiofaaW.PrintLast Go.Proofs.YtpfddihcikiofaaW.PrintMore
set_option linter.unusedVariables false
set_option linter.unusedSimpArgs false
set_option maxRecDepth 100000

/-- A row of elements of two cells, in a block of its own. -/
theorem C_list {α : Type} (d : Kd α) (hd : d.sz = 2) {W : World} {g t : Nat} (xs : List α) (cs : List (List Value)) (hl : cs.length = xs.length) (hm : xs.length ≤ 1000)
    (hK : ∀ (j : Nat) (x : α) (c : List Value), xs[j]? = some x → cs[j]? = some c → d.K W x c) (hb : W.heap[g]? = some (.cells cs.flatten.toArray t (0, 0))) : d.C W (some ⟨g, 0, none⟩) xs.length xs := by
  refine ⟨rfl, by omega, fun _ => ⟨_, rfl, fun j p hj => ?_⟩⟩
  have hjl := (List.getElem?_eq_some_iff.1 hj).1
  have hc : cs[j]? = some cs[j] := List.getElem?_eq_getElem (by omega)
  refine ⟨cs[j], d.K_len (hK j p _ hj hc), hK j p _ hj hc, fun i u hi => ?_⟩
  have hlen : ∀ c ∈ cs, c.length = 2 := by
    intro c hc
    obtain ⟨k, hk⟩ := List.getElem?_of_mem hc
    have hk' := (List.getElem?_eq_some_iff.1 hk).1
    rw [← hd]
    exact d.K_len (hK k xs[k] c (List.getElem?_eq_getElem (by omega)) hk)
  have hi2 : i < 2 := by
    have := (List.getElem?_eq_some_iff.1 hi).1
    have := hlen _ (List.getElem_mem (show j < cs.length by omega))
    omega
  have key : ∀ (cs : List (List Value)) (j : Nat) (hj : j < cs.length), (∀ c ∈ cs, c.length = 2) → cs.flatten[j * 2 + i]? = cs[j][i]? := by
    intro cs
    induction cs with
    | nil => intro j hj; simp at hj
    | cons c cs ih =>
      intro j hj h
      have hc2 := h c (by simp)
      cases j with
      | zero =>
        rw [List.flatten_cons, List.getElem?_append_left (by omega)]
        simp
      | succ j =>
        rw [List.flatten_cons, List.getElem?_append_right (by omega)]
        have := ih j (by simpa using hj) (fun c hc => h c (by simp [hc]))
        rw [hc2, show (j + 1) * 2 + i - 2 = j * 2 + i from by omega, this]
        simp
  rw [hd]
  have h1 : (⟨g, 0, none⟩ : Addr).add (j * 2 + i) = ⟨g, j * 2 + i, none⟩ := by
    unfold Addr.add
    split
    · rename_i h
      simp [h]
    · simp
  rw [h1, blk_cell hb]
  simp only [List.getElem?_toArray]
  rw [key cs j (by omega) hlen]
  exact hi
theorem K24 {W : World} {x : S24} {A : Option Addr} {c : Nat} (h : k24.C W A x.f1.length x.f1) (hc : x.f1.length ≤ c) : k24.K W x [.int .i64 x.f0, .slice A x.f1.length c] := k24_mk W x hc h
theorem K30 {W : World} {x : S30} {A : Option Addr} {c : Nat} (h : k30.C W A x.f1.length x.f1) (hc : x.f1.length ≤ c) : k30.K W x [.int .i64 x.f0, .slice A x.f1.length c] := k30_mk W x hc h
theorem C1 {α : Type} (d : Kd α) (hd : d.sz = 2) {W : World} {g t : Nat} {x : α} {u v : Value} (h : d.K W x [u, v]) (hb : W.heap[g]? = some (.cells #[u, v] t (0, 0))) : d.C W (some ⟨g, 0, none⟩) 1 [x] :=
  C_list d hd [x] [[u, v]] rfl (by simp) (fun j y c h1 h2 => by
    match j with
    | 0 => simp at h1 h2; subst h1 h2; exact h
    | j + 1 => simp at h1) hb
theorem C2 {α : Type} (d : Kd α) (hd : d.sz = 2) {W : World} {g t : Nat} {x y : α} {u v u' v' : Value} (h : d.K W x [u, v]) (h' : d.K W y [u', v']) (hb : W.heap[g]? = some (.cells #[u, v, u', v'] t (0, 0))) : d.C W (some ⟨g, 0, none⟩) 2 [x, y] :=
  C_list d hd [x, y] [[u, v], [u', v']] rfl (by simp) (fun j z c h1 h2 => by
    match j with
    | 0 => simp at h1 h2; subst h1 h2; exact h
    | 1 => simp at h1 h2; subst h1 h2; exact h'
    | j + 2 => simp at h1) hb
theorem C3 {α : Type} (d : Kd α) (hd : d.sz = 2) {W : World} {g t : Nat} {x y z : α} {u v u' v' u2 v2 : Value} (h : d.K W x [u, v]) (h' : d.K W y [u', v']) (h2 : d.K W z [u2, v2]) (hb : W.heap[g]? = some (.cells #[u, v, u', v', u2, v2] t (0, 0))) : d.C W (some ⟨g, 0, none⟩) 3 [x, y, z] :=
  C_list d hd [x, y, z] [[u, v], [u', v'], [u2, v2]] rfl (by simp) (fun j q c h1 h3 => by
    match j with
    | 0 => simp at h1 h3; subst h1 h3; exact h
    | 1 => simp at h1 h3; subst h1 h3; exact h'
    | 2 => simp at h1 h3; subst h1 h3; exact h2
    | j + 3 => simp at h1) hb
end Go.Proofs.Ytpfddihcikiofaa.P
