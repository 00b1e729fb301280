/- 'x, y := Of(a), Of(b)' (and the same of three): the terms lie in boxes of their own, whatever order is drawn. PRINTED by gen/gof.py. -/
import Derived.Test.YtpfddihcikiofaaGRegion
import Derived.Test.YtpfddihcikiofaaGPure06
namespace Go.Proofs.Ytpfddihcikiofaa.P
open Go.RowKit Go.Proofs.YtpfddihcikiofaaW.PrintWords Go.Proofs.YtpfddihcikiofaaW.PrintLast Go.Proofs.YtpfddihcikiofaaW.PrintMore
set_option linter.unusedVariables false
set_option linter.unusedSimpArgs false

def Box (n : Nat) (v : Nat → Value) (d : Nat → Bool) (k : Nat) : Prop := ∃ i, i < n ∧ d (2 * n + i) = true ∧ v (2 * n + i) = .pointer (some ⟨k, 0, none⟩)
/-- A term in memory of its own. -/
def TermAt (N : Nat) (ok : Nat → Prop) (w : World) (x : S30) (u : Value) : Prop := ∃ A c, u = .agg #[.int .i64 x.f0, .slice A x.f1.length c] ∧ x.f1.length ≤ c ∧ Kd.F k30 w (fun k => N ≤ k ∧ ok k) A x.f1.length x.f1
def cellsOf : Value → Array Value
  | .agg a => a
  | _ => #[]
structure OfI (n : Nat) (xs : Nat → S30) (arg : Nat → Value) (w0 : World) (v : Nat → Value) (d : Nat → Bool) (w : World) : Prop where
  below : Below w0.heap.size w0 w
  ld : ∀ i, i < n → d (2 * i) = true → v (2 * i) = arg i
  cl : ∀ i, i < n → d (2 * i + 1) = true → TermAt w0.heap.size (fun k => ¬ Box n v d k) w (xs i) (v (2 * i + 1))
  al : ∀ i, i < n → d (2 * n + i) = true → ∃ g, v (2 * n + i) = .pointer (some ⟨g, 0, none⟩) ∧ w0.heap.size ≤ g ∧ (d (3 * n + i) = false → w.heap[g]? = some (.cells #[.int .i64 0, .slice none 0 0] 30 (0, 0))) ∧ (d (3 * n + i) = true → w.heap[g]? = some (.cells (cellsOf (v (2 * i + 1))) 30 (0, 0)))
  ne : ∀ i j, i < n → j < n → i ≠ j → d (2 * n + i) = true → d (2 * n + j) = true → v (2 * n + i) ≠ v (2 * n + j)
  st : ∀ i, i < n → d (3 * n + i) = true → d (2 * n + i) = true ∧ d (2 * i + 1) = true

theorem Box.iff {n i : Nat} {v : Nat → Value} {d : Nat → Bool} {u : Value} (h : ∀ j, j < n → 2 * n + j ≠ i) (k : Nat) : Box n (upd v i u) (upd d i true) k ↔ Box n v d k := by
  unfold Box
  constructor
  · rintro ⟨j, hj, h1, h2⟩
    rw [upd_other _ _ (h j hj)] at h1 h2
    exact ⟨j, hj, h1, h2⟩
  · rintro ⟨j, hj, h1, h2⟩
    exact ⟨j, hj, by rw [upd_other _ _ (h j hj)]; exact h1, by rw [upd_other _ _ (h j hj)]; exact h2⟩
theorem TermAt.imp {N : Nat} {ok ok' : Nat → Prop} {w : World} {x : S30} {u : Value} (h : TermAt N ok w x u) (hi : ∀ k, ok k → ok' k) : TermAt N ok' w x u := by
  obtain ⟨A, c, h1, h2, h3⟩ := h
  exact ⟨A, c, h1, h2, Kd.F_mono h3 (fun k hk => ⟨hk.1, hi k hk.2⟩)⟩
theorem TermAt.step {N : Nat} {ok : Nat → Prop} {w w' : World} {x : S30} {u : Value} (h : TermAt N ok w x u) (hi : ∀ k, ok k → k < w.heap.size → w'.heap[k]? = w.heap[k]?) : TermAt N ok w' x u := by
  obtain ⟨A, c, h1, h2, h3⟩ := h
  exact ⟨A, c, h1, h2, Kd.F_step h3 (fun k hk hlt => hi k hk.2 hlt)⟩
theorem TermAt.bound {N : Nat} {ok : Nat → Prop} {w : World} {x : S30} {u : Value} (h : TermAt N ok w x u) : TermAt N (fun k => ok k ∧ k < w.heap.size) w x u := by
  obtain ⟨A, c, h1, h2, h3⟩ := h
  exact ⟨A, c, h1, h2, Kd.F_mono (Kd.F_bound h3) (fun k hk => ⟨hk.1.1, hk.1.2, hk.2⟩)⟩
theorem TermAt.C {N : Nat} {ok : Nat → Prop} {w : World} {x : S30} {u : Value} (h : TermAt N ok w x u) : ∃ A c, u = .agg #[.int .i64 x.f0, .slice A x.f1.length c] ∧ x.f1.length ≤ c ∧ k30.C w A x.f1.length x.f1 := by
  obtain ⟨A, c, h1, h2, h3⟩ := h
  exact ⟨A, c, h1, h2, Kd.F_now h3⟩

section
variable {n : Nat} {xs : Nat → S30} {arg : Nat → Value} {w0 w : World} {v : Nat → Value} {d : Nat → Bool}
theorem OfI.start (n : Nat) (xs : Nat → S30) (arg : Nat → Value) (w0 : World) (v : Nat → Value) : OfI n xs arg w0 v (fun _ => false) w0.drew :=
  ⟨pw_below_drewN (Below.refl _ _) 1, fun _ _ h => (by cases h), fun _ _ h => (by cases h), fun _ _ h => (by cases h), fun _ _ _ _ _ h => (by cases h), fun _ _ h => (by cases h)⟩
theorem OfI.load (h : OfI n xs arg w0 v d w) {i : Nat} (hi : i < n) (hd : d (2 * i) = false) : OfI n xs arg w0 (upd v (2 * i) (arg i)) (upd d (2 * i) true) w := by
  refine ⟨h.below, fun j hj h1 => ?_, fun j hj h1 => ?_, fun j hj h1 => ?_, fun a b ha hb hab h1 h2 => ?_, fun j hj h1 => ?_⟩
  · by_cases hji : j = i
    · subst hji; rw [upd_same]
    · rw [upd_other _ _ (by omega)] at h1 ⊢; exact h.ld j hj h1
  · rw [upd_other _ _ (by omega)] at h1 ⊢
    exact (h.cl j hj h1).imp (fun k hk hb => hk ((Box.iff (fun j hj => by omega) k).1 hb))
  · rw [upd_other _ _ (by omega)] at h1
    rw [upd_other _ _ (by omega), upd_other _ _ (by omega), upd_other _ _ (by omega)]
    exact h.al j hj h1
  · rw [upd_other _ _ (by omega)] at h1 h2
    rw [upd_other _ _ (by omega), upd_other _ _ (by omega)]
    exact h.ne a b ha hb hab h1 h2
  · rw [upd_other _ _ (by omega)] at h1
    rw [upd_other _ _ (by omega), upd_other _ _ (by omega)]
    exact h.st j hj h1
theorem OfI.boxLt (h : OfI n xs arg w0 v d w) {k : Nat} (hb : Box n v d k) : k < w.heap.size := by
  obtain ⟨i, hi, h1, h2⟩ := hb
  obtain ⟨g, hg, _, h3, h4⟩ := h.al i hi h1
  rw [hg] at h2
  injection h2 with h2
  injection h2 with h2
  injection h2 with h2
  subst h2
  cases hs : d (3 * n + i) with
  | false => exact blk_lt (h3 hs)
  | true => exact blk_lt (h4 hs)
theorem OfI.call (h : OfI n xs arg w0 v d w) {i : Nat} (hi : i < n) (hd : d (2 * i + 1) = false) {v1 : Value} {w' : World} (hb : Below w.heap.size w w') (hR : Kd.R k30 30 w' w.heap.size (fun _ => True) v1 (xs i).f1) :
    OfI n xs arg w0 (upd v (2 * i + 1) (.agg #[.int .i64 (xs i).f0, v1])) (upd d (2 * i + 1) true) w' := by
  have hs := h.below.size
  refine ⟨h.below.trans (hb.mono hs), fun j hj h1 => ?_, fun j hj h1 => ?_, fun j hj h1 => ?_, fun a b ha hb hab h1 h2 => ?_, fun j hj h1 => ?_⟩
  · rw [upd_other _ _ (by omega)] at h1 ⊢; exact h.ld j hj h1
  · by_cases hji : j = i
    · subst hji
      rw [upd_same]
      obtain ⟨A, c, rfl⟩ := Kd.R_slice hR
      have hr := Kd.R_reads' hR
      refine ⟨A, c, rfl, hr.2.1, Kd.F_mono (Kd.R_F (Kd.R_bound hR)) (fun k hk => ⟨by have := hk.2.1; omega, fun hbx => ?_⟩)⟩
      have h1 := h.boxLt ((Box.iff (fun j hj => by omega) k).1 hbx)
      have := hk.2.1
      omega
    · rw [upd_other _ _ (by omega)] at h1 ⊢
      exact ((h.cl j hj h1).step (fun k _ hlt => hb.block k hlt)).imp (fun k hk hb => hk ((Box.iff (fun j hj => by omega) k).1 hb))
  · rw [upd_other _ _ (by omega)] at h1
    rw [upd_other _ _ (by omega), upd_other _ _ (by omega)]
    obtain ⟨g, hg, hge, h3, h4⟩ := h.al j hj h1
    refine ⟨g, hg, hge, fun h5 => blk_below (h3 h5) hb, fun h5 => ?_⟩
    have hji : j ≠ i := fun e => by subst e; have := (h.st j hj h5).2; rw [hd] at this; cases this
    rw [upd_other _ _ (by omega)]
    exact blk_below (h4 h5) hb
  · rw [upd_other _ _ (by omega)] at h1 h2
    rw [upd_other _ _ (by omega), upd_other _ _ (by omega)]
    exact h.ne a b ha hb hab h1 h2
  · rw [upd_other _ _ (by omega)] at h1
    have h2 := h.st j hj h1
    refine ⟨by rw [upd_other _ _ (by omega)]; exact h2.1, ?_⟩
    by_cases hji : j = i
    · subst hji; exact upd_same _ _ _
    · rw [upd_other _ _ (by omega)]; exact h2.2
theorem OfI.alloc (h : OfI n xs arg w0 v d w) {i : Nat} (hi : i < n) (hd : d (2 * n + i) = false) :
    OfI n xs arg w0 (upd v (2 * n + i) (.pointer (some ⟨w.heap.size, 0, none⟩))) (upd d (2 * n + i) true) (w.alloc (.cells #[.int .i64 0, .slice none 0 0] 30)) := by
  have hs := h.below.size
  have hb := below_alloc (Below.refl w.heap.size w) (.cells #[.int .i64 0, .slice none 0 0] 30)
  refine ⟨h.below.trans (hb.mono hs), fun j hj h1 => ?_, fun j hj h1 => ?_, fun j hj h1 => ?_, fun a b ha hb hab h1 h2 => ?_, fun j hj h1 => ?_⟩
  · rw [upd_other _ _ (by omega)] at h1 ⊢; exact h.ld j hj h1
  · rw [upd_other _ _ (by omega)] at h1 ⊢
    refine ((h.cl j hj h1).bound.step (fun k _ hlt => hb.block k hlt)).imp (fun k hk hbx => ?_)
    obtain ⟨q, hq, h2, h3⟩ := hbx
    by_cases hqi : q = i
    · subst hqi
      rw [upd_same] at h3
      injection h3 with h3
      injection h3 with h3
      injection h3 with h3
      have := hk.2
      omega
    · rw [upd_other _ _ (by omega)] at h2 h3
      exact hk.1 ⟨q, hq, h2, h3⟩
  · by_cases hji : j = i
    · subst hji
      rw [upd_same]
      refine ⟨_, rfl, hs, fun _ => heap_alloc_new _ _, fun h5 => ?_⟩
      rw [upd_other _ _ (by omega)] at h5
      have := (h.st j hj h5).1
      rw [hd] at this; cases this
    · rw [upd_other _ _ (by omega)] at h1
      rw [upd_other _ _ (by omega), upd_other _ _ (by omega), upd_other _ _ (by omega)]
      obtain ⟨g, hg, hge, h3, h4⟩ := h.al j hj h1
      exact ⟨g, hg, hge, fun h5 => blk_below (h3 h5) hb, fun h5 => blk_below (h4 h5) hb⟩
  · have hfresh : ∀ j, j < n → d (2 * n + j) = true → v (2 * n + j) ≠ .pointer (some ⟨w.heap.size, 0, none⟩) := by
      intro j hj h3 e
      have := h.boxLt ⟨j, hj, h3, e⟩
      omega
    by_cases hai : a = i
    · subst hai
      rw [upd_other _ _ (by omega)] at h2
      rw [upd_same, upd_other _ _ (by omega)]
      exact fun e => hfresh b hb h2 e.symm
    · rw [upd_other _ _ (by omega)] at h1
      rw [upd_other _ _ (show 2 * n + a ≠ 2 * n + i by omega)]
      by_cases hbi : b = i
      · subst hbi
        rw [upd_same]
        exact hfresh a ha h1
      · rw [upd_other _ _ (by omega)] at h2 ⊢
        exact h.ne a b ha hb hab h1 h2
  · rw [upd_other _ _ (by omega)] at h1
    have h2 := h.st j hj h1
    refine ⟨?_, by rw [upd_other _ _ (by omega)]; exact h2.2⟩
    by_cases hji : j = i
    · subst hji; exact upd_same _ _ _
    · rw [upd_other _ _ (by omega)]; exact h2.1
theorem OfI.store (h : OfI n xs arg w0 v d w) {i : Nat} (hi : i < n) (hd : d (3 * n + i) = false) (ha : d (2 * n + i) = true) (hc : d (2 * i + 1) = true) {g : Nat} (hg : v (2 * n + i) = .pointer (some ⟨g, 0, none⟩)) {f : Int} {s : Value}
    (hu : v (2 * i + 1) = .agg #[.int .i64 f, s]) (u : Value) : OfI n xs arg w0 (upd v (3 * n + i) u) (upd d (3 * n + i) true) ((w.setCell ⟨g, 0, none⟩ (.int .i64 f)).setCell ⟨g, 1, none⟩ s) := by
  have hs := h.below.size
  obtain ⟨g', hg', hge, hz, _⟩ := h.al i hi ha
  rw [hg] at hg'
  injection hg' with hg'
  injection hg' with hg'
  injection hg' with hg'
  subst hg'
  have hz := hz hd
  have hfar : ∀ k, k ≠ g → ((w.setCell ⟨g, 0, none⟩ (.int .i64 f)).setCell ⟨g, 1, none⟩ s).heap[k]? = w.heap[k]? := fun k hk => (Below.heap_setCell _ _ _ _ hk).trans (Below.heap_setCell _ _ _ _ hk)
  have hnew : ((w.setCell ⟨g, 0, none⟩ (.int .i64 f)).setCell ⟨g, 1, none⟩ s).heap[g]? = some (.cells #[.int .i64 f, s] 30 (0, 0)) := blk_put (blk_put hz 0 (.int .i64 f) rfl) 1 s rfl
  refine ⟨(h.below.setCell hge _).setCell hge _, fun j hj h1 => ?_, fun j hj h1 => ?_, fun j hj h1 => ?_, fun a b ha hb hab h1 h2 => ?_, fun j hj h1 => ?_⟩
  · rw [upd_other _ _ (by omega)] at h1 ⊢; exact h.ld j hj h1
  · rw [upd_other _ _ (by omega)] at h1 ⊢
    refine ((h.cl j hj h1).step (fun k hk _ => hfar k (fun e => hk ?_))).imp (fun k hk hb => hk ((Box.iff (fun j hj => by omega) k).1 hb))
    subst e
    exact ⟨i, hi, ha, hg⟩
  · rw [upd_other _ _ (by omega)] at h1
    rw [upd_other _ _ (by omega), upd_other (i := 3 * n + i) (j := 2 * j + 1) _ _ (by omega)]
    obtain ⟨g2, hg2, hge2, h3, h4⟩ := h.al j hj h1
    by_cases hji : j = i
    · subst hji
      rw [hg] at hg2
      injection hg2 with hg2
      injection hg2 with hg2
      injection hg2 with hg2
      subst hg2
      refine ⟨g, hg, hge, fun h5 => ?_, fun _ => ?_⟩
      · rw [upd_same] at h5; cases h5
      · rw [hnew, hu]; rfl
    · have hne : g2 ≠ g := fun e => h.ne j i hj hi hji h1 ha (by rw [hg2, hg, e])
      refine ⟨g2, hg2, hge2, fun h5 => ?_, fun h5 => ?_⟩
      · rw [upd_other _ _ (by omega)] at h5; rw [hfar _ hne]; exact h3 h5
      · rw [upd_other _ _ (by omega)] at h5; rw [hfar _ hne]; exact h4 h5
  · rw [upd_other _ _ (by omega)] at h1 h2
    rw [upd_other _ _ (by omega), upd_other _ _ (by omega)]
    exact h.ne a b ha hb hab h1 h2
  · by_cases hji : j = i
    · subst hji
      exact ⟨by rw [upd_other _ _ (by omega)]; exact ha, by rw [upd_other _ _ (by omega)]; exact hc⟩
    · rw [upd_other _ _ (by omega)] at h1
      rw [upd_other _ _ (by omega), upd_other _ _ (by omega)]
      exact h.st j hj h1
end
set_option maxRecDepth 100000 in
set_option maxHeartbeats 4000000 in
theorem of_two {id : Nat} {l0 s0 c0 b0 l1 s1 c1 b1 : Tmp} {p0 p1 p2 p3 p4 p5 p6 p7 : String} {a : Act} {w : World} {Q : Exit → Act → World → Prop}
    (hr : regionOk #[{ dst := some l0, op := Op.load 24 (Operand.tmp s0), type := 24, pos := p0, after := #[], guard := none }, { dst := some c0, op := Op.call { callee := Callee.value (Operand.func 22), args := #[Operand.tmp l0], argTypes := #[24] }, type := 30, pos := p1, after := #[{ on := 0, ground := Ground.data }], guard := none }, { dst := some l1, op := Op.load 24 (Operand.tmp s1), type := 24, pos := p2, after := #[], guard := none }, { dst := some c1, op := Op.call { callee := Callee.value (Operand.func 22), args := #[Operand.tmp l1], argTypes := #[24] }, type := 30, pos := p3, after := #[{ on := 2, ground := Ground.data }, { on := 1, ground := Ground.chain }], guard := none }, { dst := some b0, op := Op.alloc 30, type := 0, pos := p4, after := #[], guard := none }, { dst := some b1, op := Op.alloc 30, type := 0, pos := p5, after := #[], guard := none }, { dst := none, op := Op.store 30 (Operand.tmp b0) (Operand.tmp c0), type := 0, pos := p6, after := #[{ on := 4, ground := Ground.data }, { on := 1, ground := Ground.data }, { on := 3, ground := Ground.chain }, { on := 0, ground := Ground.phase }, { on := 1, ground := Ground.phase }, { on := 2, ground := Ground.textOnly Departure.lateStores }, { on := 3, ground := Ground.textOnly Departure.lateStoresUnsure }, { on := 4, ground := Ground.phase }, { on := 5, ground := Ground.phase }], guard := none }, { dst := none, op := Op.store 30 (Operand.tmp b1) (Operand.tmp c1), type := 0, pos := p7, after := #[{ on := 5, ground := Ground.data }, { on := 3, ground := Ground.data }, { on := 6, ground := Ground.chain }, { on := 0, ground := Ground.phase }, { on := 1, ground := Ground.phase }, { on := 2, ground := Ground.phase }, { on := 3, ground := Ground.phase }, { on := 4, ground := Ground.phase }, { on := 5, ground := Ground.phase }, { on := 6, ground := Ground.phase }], guard := none }] a.tmps.size = true)
    (hn : ([s0, s1]).all (fun t => (List.range 8).all fun j => decide (dstOf #[{ dst := some l0, op := Op.load 24 (Operand.tmp s0), type := 24, pos := p0, after := #[], guard := none }, { dst := some c0, op := Op.call { callee := Callee.value (Operand.func 22), args := #[Operand.tmp l0], argTypes := #[24] }, type := 30, pos := p1, after := #[{ on := 0, ground := Ground.data }], guard := none }, { dst := some l1, op := Op.load 24 (Operand.tmp s1), type := 24, pos := p2, after := #[], guard := none }, { dst := some c1, op := Op.call { callee := Callee.value (Operand.func 22), args := #[Operand.tmp l1], argTypes := #[24] }, type := 30, pos := p3, after := #[{ on := 2, ground := Ground.data }, { on := 1, ground := Ground.chain }], guard := none }, { dst := some b0, op := Op.alloc 30, type := 0, pos := p4, after := #[], guard := none }, { dst := some b1, op := Op.alloc 30, type := 0, pos := p5, after := #[], guard := none }, { dst := none, op := Op.store 30 (Operand.tmp b0) (Operand.tmp c0), type := 0, pos := p6, after := #[{ on := 4, ground := Ground.data }, { on := 1, ground := Ground.data }, { on := 3, ground := Ground.chain }, { on := 0, ground := Ground.phase }, { on := 1, ground := Ground.phase }, { on := 2, ground := Ground.textOnly Departure.lateStores }, { on := 3, ground := Ground.textOnly Departure.lateStoresUnsure }, { on := 4, ground := Ground.phase }, { on := 5, ground := Ground.phase }], guard := none }, { dst := none, op := Op.store 30 (Operand.tmp b1) (Operand.tmp c1), type := 0, pos := p7, after := #[{ on := 5, ground := Ground.data }, { on := 3, ground := Ground.data }, { on := 6, ground := Ground.chain }, { on := 0, ground := Ground.phase }, { on := 1, ground := Ground.phase }, { on := 2, ground := Ground.phase }, { on := 3, ground := Ground.phase }, { on := 4, ground := Ground.phase }, { on := 5, ground := Ground.phase }, { on := 6, ground := Ground.phase }], guard := none }] j ≠ some t)) = true)
    {x0 : S30} {A0 : Option Addr} {k0 g0 : Nat} (hs0 : a.tmps.getD s0 undef = .pointer (some ⟨g0, 0, none⟩)) (hb0 : w.heap[g0]? = some (.cells #[.int .i64 x0.f0, .slice A0 x0.f1.length k0] 24 (0, 0))) (hC0 : k24.C w A0 x0.f1.length x0.f1) (hk0 : x0.f1.length ≤ k0) (ho0 : ok x0)
    {x1 : S30} {A1 : Option Addr} {k1 g1 : Nat} (hs1 : a.tmps.getD s1 undef = .pointer (some ⟨g1, 0, none⟩)) (hb1 : w.heap[g1]? = some (.cells #[.int .i64 x1.f0, .slice A1 x1.f1.length k1] 24 (0, 0))) (hC1 : k24.C w A1 x1.f1.length x1.f1) (hk1 : x1.f1.length ≤ k1) (ho1 : ok x1)
    (hK : ∀ (w' : World) (X0 : Option Addr) (q0 h0 : Nat) (X1 : Option Addr) (q1 h1 : Nat), Below w.heap.size w w' → w.heap.size ≤ h0 → w'.heap[h0]? = some (.cells #[.int .i64 x0.f0, .slice X0 x0.f1.length q0] 30 (0, 0)) → x0.f1.length ≤ q0 → k30.C w' X0 x0.f1.length x0.f1 → w.heap.size ≤ h1 → w'.heap[h1]? = some (.cells #[.int .i64 x1.f0, .slice X1 x1.f1.length q1] 30 (0, 0)) → x1.f1.length ≤ q1 → k30.C w' X1 x1.f1.length x1.f1 → Q .normal { tmps := ((((((a.tmps.setIfInBounds l0 (.agg #[.int .i64 x0.f0, .slice A0 x0.f1.length k0])).setIfInBounds c0 (.agg #[.int .i64 x0.f0, .slice X0 x0.f1.length q0])).setIfInBounds l1 (.agg #[.int .i64 x1.f0, .slice A1 x1.f1.length k1])).setIfInBounds c1 (.agg #[.int .i64 x1.f0, .slice X1 x1.f1.length q1])).setIfInBounds b0 (.pointer (some ⟨h0, 0, none⟩))).setIfInBounds b1 (.pointer (some ⟨h1, 0, none⟩))), defers := a.defers } w') :
    (Code.region id #[{ dst := some l0, op := Op.load 24 (Operand.tmp s0), type := 24, pos := p0, after := #[], guard := none }, { dst := some c0, op := Op.call { callee := Callee.value (Operand.func 22), args := #[Operand.tmp l0], argTypes := #[24] }, type := 30, pos := p1, after := #[{ on := 0, ground := Ground.data }], guard := none }, { dst := some l1, op := Op.load 24 (Operand.tmp s1), type := 24, pos := p2, after := #[], guard := none }, { dst := some c1, op := Op.call { callee := Callee.value (Operand.func 22), args := #[Operand.tmp l1], argTypes := #[24] }, type := 30, pos := p3, after := #[{ on := 2, ground := Ground.data }, { on := 1, ground := Ground.chain }], guard := none }, { dst := some b0, op := Op.alloc 30, type := 0, pos := p4, after := #[], guard := none }, { dst := some b1, op := Op.alloc 30, type := 0, pos := p5, after := #[], guard := none }, { dst := none, op := Op.store 30 (Operand.tmp b0) (Operand.tmp c0), type := 0, pos := p6, after := #[{ on := 4, ground := Ground.data }, { on := 1, ground := Ground.data }, { on := 3, ground := Ground.chain }, { on := 0, ground := Ground.phase }, { on := 1, ground := Ground.phase }, { on := 2, ground := Ground.textOnly Departure.lateStores }, { on := 3, ground := Ground.textOnly Departure.lateStoresUnsure }, { on := 4, ground := Ground.phase }, { on := 5, ground := Ground.phase }], guard := none }, { dst := none, op := Op.store 30 (Operand.tmp b1) (Operand.tmp c1), type := 0, pos := p7, after := #[{ on := 5, ground := Ground.data }, { on := 3, ground := Ground.data }, { on := 6, ground := Ground.chain }, { on := 0, ground := Ground.phase }, { on := 1, ground := Ground.phase }, { on := 2, ground := Ground.phase }, { on := 3, ground := Ground.phase }, { on := 4, ground := Ground.phase }, { on := 5, ground := Ground.phase }, { on := 6, ground := Ground.phase }], guard := none }] true).wp Try.prog Q a w := by
  have hmx : Try.prog.follows .mixedOrders = true := by kernel_rfl
  obtain ⟨K0, hO0⟩ := (Of_spec x0 ho0).rounds
  obtain ⟨K1, hO1⟩ := (Of_spec x1 ho1).rounds
  have hne : ∀ j t, t ∈ [s0, s1] → dstOf #[{ dst := some l0, op := Op.load 24 (Operand.tmp s0), type := 24, pos := p0, after := #[], guard := none }, { dst := some c0, op := Op.call { callee := Callee.value (Operand.func 22), args := #[Operand.tmp l0], argTypes := #[24] }, type := 30, pos := p1, after := #[{ on := 0, ground := Ground.data }], guard := none }, { dst := some l1, op := Op.load 24 (Operand.tmp s1), type := 24, pos := p2, after := #[], guard := none }, { dst := some c1, op := Op.call { callee := Callee.value (Operand.func 22), args := #[Operand.tmp l1], argTypes := #[24] }, type := 30, pos := p3, after := #[{ on := 2, ground := Ground.data }, { on := 1, ground := Ground.chain }], guard := none }, { dst := some b0, op := Op.alloc 30, type := 0, pos := p4, after := #[], guard := none }, { dst := some b1, op := Op.alloc 30, type := 0, pos := p5, after := #[], guard := none }, { dst := none, op := Op.store 30 (Operand.tmp b0) (Operand.tmp c0), type := 0, pos := p6, after := #[{ on := 4, ground := Ground.data }, { on := 1, ground := Ground.data }, { on := 3, ground := Ground.chain }, { on := 0, ground := Ground.phase }, { on := 1, ground := Ground.phase }, { on := 2, ground := Ground.textOnly Departure.lateStores }, { on := 3, ground := Ground.textOnly Departure.lateStoresUnsure }, { on := 4, ground := Ground.phase }, { on := 5, ground := Ground.phase }], guard := none }, { dst := none, op := Op.store 30 (Operand.tmp b1) (Operand.tmp c1), type := 0, pos := p7, after := #[{ on := 5, ground := Ground.data }, { on := 3, ground := Ground.data }, { on := 6, ground := Ground.chain }, { on := 0, ground := Ground.phase }, { on := 1, ground := Ground.phase }, { on := 2, ground := Ground.phase }, { on := 3, ground := Ground.phase }, { on := 4, ground := Ground.phase }, { on := 5, ground := Ground.phase }, { on := 6, ground := Ground.phase }], guard := none }] j ≠ some t := by
    intro j t ht
    rw [List.all_eq_true] at hn
    have h1 := hn t ht
    rw [List.all_eq_true] at h1
    rcases Nat.lt_or_ge j 8 with hlt | hge
    · exact of_decide_eq_true (h1 j (List.mem_range.2 hlt))
    · unfold dstOf
      rw [Array.getElem?_eq_none (by simpa using hge)]
      simp
  refine region_vals hmx hr (OfI 2 (fun i => match i with | 0 => x0 | 1 => x1 | _ => z30) (fun i => match i with | 0 => .agg #[.int .i64 x0.f0, .slice A0 x0.f1.length k0] | 1 => .agg #[.int .i64 x1.f0, .slice A1 x1.f1.length k1] | _ => undef) w) (fun v => OfI.start _ _ _ _ _) (fun i => ?_) (fun v d w' hall hI => ?_)
  · rcases Nat.lt_or_ge i 8 with hlt | hge
    rotate_left
    · intro o ho
      rw [Array.getElem?_eq_none (by simpa using hge)] at ho
      cases ho
    intro o ho v d T w' hH hI hd hdep K hK
    match i, hlt with
    | 0, _ =>
      simp only [List.getElem?_toArray, List.getElem?_cons_zero, List.getElem?_cons_succ, Option.some.injEq] at ho
      subst ho
      have e1 : T.getD s0 undef = .pointer (some ⟨g0, 0, none⟩) := (hH.base _ (fun j _ => hne j _ (by simp))).trans hs0
      have hb := hI.below.block g0 (blk_lt hb0)
      have hc0 : w'.cell? ⟨g0, 0, none⟩ = some (.int .i64 x0.f0) := (blk_cell (hb.trans hb0) 0).trans rfl
      have hc1 : w'.cell? ⟨g0, 1, none⟩ = some (.slice A0 x0.f1.length k0) := (blk_cell (hb.trans hb0) 1).trans rfl
      have hfin := hK _ _ (OfI.load (i := 0) hI (by omega) hd)
      clear hK hdep hI hH hr hn hne
      go_simp
      exact hfin
    | 1, _ =>
      simp only [List.getElem?_toArray, List.getElem?_cons_zero, List.getElem?_cons_succ, Option.some.injEq] at ho
      subst ho
      have hd0 : d 0 = true := hdep { on := 0, ground := Ground.data } (by simp) rfl
      have e1 : T.getD l0 undef = .agg #[.int .i64 x0.f0, .slice A0 x0.f1.length k0] := (hH.done 0 _ hd0 rfl).trans (hI.ld 0 (by omega) hd0)
      have hcall := (soriteslaw06_Of.calls K0 x0.f0 A0 k0 x0.f1 x0.f0 x0.f1 w' (Kd.C_below hC0 hI.below) hk0 hO0)
      have hfin : ∀ v1 w2, Kd.R k30 30 w2 w'.heap.size (fun _ => True) v1 x0.f1 → Below w'.heap.size w' w2 → _ := fun v1 w2 h1 h2 => hK _ _ (OfI.call (i := 0) hI (by omega) hd h2 h1)
      clear hK hdep hI hH hr hn hne
      go_simp
      go_at_call 22
      refine hcall.mono ?_
      rintro e w2 ⟨v1, rfl, h1, h2⟩
      exact hfin _ _ h1 h2
    | 2, _ =>
      simp only [List.getElem?_toArray, List.getElem?_cons_zero, List.getElem?_cons_succ, Option.some.injEq] at ho
      subst ho
      have e1 : T.getD s1 undef = .pointer (some ⟨g1, 0, none⟩) := (hH.base _ (fun j _ => hne j _ (by simp))).trans hs1
      have hb := hI.below.block g1 (blk_lt hb1)
      have hc0 : w'.cell? ⟨g1, 0, none⟩ = some (.int .i64 x1.f0) := (blk_cell (hb.trans hb1) 0).trans rfl
      have hc1 : w'.cell? ⟨g1, 1, none⟩ = some (.slice A1 x1.f1.length k1) := (blk_cell (hb.trans hb1) 1).trans rfl
      have hfin := hK _ _ (OfI.load (i := 1) hI (by omega) hd)
      clear hK hdep hI hH hr hn hne
      go_simp
      exact hfin
    | 3, _ =>
      simp only [List.getElem?_toArray, List.getElem?_cons_zero, List.getElem?_cons_succ, Option.some.injEq] at ho
      subst ho
      have hd0 : d 2 = true := hdep { on := 2, ground := Ground.data } (by simp) rfl
      have e1 : T.getD l1 undef = .agg #[.int .i64 x1.f0, .slice A1 x1.f1.length k1] := (hH.done 2 _ hd0 rfl).trans (hI.ld 1 (by omega) hd0)
      have hcall := (soriteslaw06_Of.calls K1 x1.f0 A1 k1 x1.f1 x1.f0 x1.f1 w' (Kd.C_below hC1 hI.below) hk1 hO1)
      have hfin : ∀ v1 w2, Kd.R k30 30 w2 w'.heap.size (fun _ => True) v1 x1.f1 → Below w'.heap.size w' w2 → _ := fun v1 w2 h1 h2 => hK _ _ (OfI.call (i := 1) hI (by omega) hd h2 h1)
      clear hK hdep hI hH hr hn hne
      go_simp
      go_at_call 22
      refine hcall.mono ?_
      rintro e w2 ⟨v1, rfl, h1, h2⟩
      exact hfin _ _ h1 h2
    | 4, _ =>
      simp only [List.getElem?_toArray, List.getElem?_cons_zero, List.getElem?_cons_succ, Option.some.injEq] at ho
      subst ho
      have hfin := hK _ _ (OfI.alloc (i := 0) hI (by omega) hd)
      clear hK hdep hI hH hr hn hne
      go_simp
      exact hfin
    | 5, _ =>
      simp only [List.getElem?_toArray, List.getElem?_cons_zero, List.getElem?_cons_succ, Option.some.injEq] at ho
      subst ho
      have hfin := hK _ _ (OfI.alloc (i := 1) hI (by omega) hd)
      clear hK hdep hI hH hr hn hne
      go_simp
      exact hfin
    | 6, _ =>
      simp only [List.getElem?_toArray, List.getElem?_cons_zero, List.getElem?_cons_succ, Option.some.injEq] at ho
      subst ho
      have hda : d 4 = true := hdep { on := 4, ground := Ground.data } (by simp) rfl
      have hdc : d 1 = true := hdep { on := 1, ground := Ground.data } (by simp) rfl
      obtain ⟨g, hg, hge, hz, _⟩ := hI.al 0 (by omega) hda
      obtain ⟨X, q, hX, hq, hF⟩ := hI.cl 0 (by omega) hdc
      have e1 : T.getD b0 undef = .pointer (some ⟨g, 0, none⟩) := (hH.done 4 _ hda rfl).trans hg
      have e2 : T.getD c0 undef = .agg #[.int .i64 x0.f0, .slice X x0.f1.length q] := (hH.done 1 _ hdc rfl).trans hX
      have hz := hz hd
      have hc0 : w'.cell? ⟨g, 0, none⟩ = some (.int .i64 0) := (blk_cell hz 0).trans rfl
      have hc1 : w'.cell? ⟨g, 1, none⟩ = some (.slice none 0 0) := (blk_cell hz 1).trans rfl
      have hf0 := blk_frozen hz 0
      have hf1 := blk_frozen hz 1
      have hfin := fun u => hK u _ (OfI.store (i := 0) hI (by omega) hd hda hdc hg hX u)
      clear hK hdep hI hH hr hn hne hz
      go_simp
      exact hfin undef
    | 7, _ =>
      simp only [List.getElem?_toArray, List.getElem?_cons_zero, List.getElem?_cons_succ, Option.some.injEq] at ho
      subst ho
      have hda : d 5 = true := hdep { on := 5, ground := Ground.data } (by simp) rfl
      have hdc : d 3 = true := hdep { on := 3, ground := Ground.data } (by simp) rfl
      obtain ⟨g, hg, hge, hz, _⟩ := hI.al 1 (by omega) hda
      obtain ⟨X, q, hX, hq, hF⟩ := hI.cl 1 (by omega) hdc
      have e1 : T.getD b1 undef = .pointer (some ⟨g, 0, none⟩) := (hH.done 5 _ hda rfl).trans hg
      have e2 : T.getD c1 undef = .agg #[.int .i64 x1.f0, .slice X x1.f1.length q] := (hH.done 3 _ hdc rfl).trans hX
      have hz := hz hd
      have hc0 : w'.cell? ⟨g, 0, none⟩ = some (.int .i64 0) := (blk_cell hz 0).trans rfl
      have hc1 : w'.cell? ⟨g, 1, none⟩ = some (.slice none 0 0) := (blk_cell hz 1).trans rfl
      have hf0 := blk_frozen hz 0
      have hf1 := blk_frozen hz 1
      have hfin := fun u => hK u _ (OfI.store (i := 1) hI (by omega) hd hda hdc hg hX u)
      clear hK hdep hI hH hr hn hne hz
      go_simp
      exact hfin undef
  · obtain ⟨h0, hg0, hge0, _, hz0⟩ := hI.al 0 (by omega) (hall 4 (by simp))
    obtain ⟨X0, q0, hX0, hq0, hF0⟩ := (hI.cl 0 (by omega) (hall 1 (by simp))).C
    have hz0 := hz0 (hall 6 (by simp))
    have hl0 := hI.ld 0 (by omega) (hall 0 (by simp))
    simp only [Nat.reduceMul, Nat.reduceAdd] at hg0 hz0 hX0 hl0
    rw [hX0] at hz0
    obtain ⟨h1, hg1, hge1, _, hz1⟩ := hI.al 1 (by omega) (hall 5 (by simp))
    obtain ⟨X1, q1, hX1, hq1, hF1⟩ := (hI.cl 1 (by omega) (hall 3 (by simp))).C
    have hz1 := hz1 (hall 7 (by simp))
    have hl1 := hI.ld 1 (by omega) (hall 2 (by simp))
    simp only [Nat.reduceMul, Nat.reduceAdd] at hg1 hz1 hX1 hl1
    rw [hX1] at hz1
    have := hK w' X0 q0 h0 X1 q1 h1 hI.below hge0 hz0 hq0 hF0 hge1 hz1 hq1 hF1
    have hlay : layAll #[{ dst := some l0, op := Op.load 24 (Operand.tmp s0), type := 24, pos := p0, after := #[], guard := none }, { dst := some c0, op := Op.call { callee := Callee.value (Operand.func 22), args := #[Operand.tmp l0], argTypes := #[24] }, type := 30, pos := p1, after := #[{ on := 0, ground := Ground.data }], guard := none }, { dst := some l1, op := Op.load 24 (Operand.tmp s1), type := 24, pos := p2, after := #[], guard := none }, { dst := some c1, op := Op.call { callee := Callee.value (Operand.func 22), args := #[Operand.tmp l1], argTypes := #[24] }, type := 30, pos := p3, after := #[{ on := 2, ground := Ground.data }, { on := 1, ground := Ground.chain }], guard := none }, { dst := some b0, op := Op.alloc 30, type := 0, pos := p4, after := #[], guard := none }, { dst := some b1, op := Op.alloc 30, type := 0, pos := p5, after := #[], guard := none }, { dst := none, op := Op.store 30 (Operand.tmp b0) (Operand.tmp c0), type := 0, pos := p6, after := #[{ on := 4, ground := Ground.data }, { on := 1, ground := Ground.data }, { on := 3, ground := Ground.chain }, { on := 0, ground := Ground.phase }, { on := 1, ground := Ground.phase }, { on := 2, ground := Ground.textOnly Departure.lateStores }, { on := 3, ground := Ground.textOnly Departure.lateStoresUnsure }, { on := 4, ground := Ground.phase }, { on := 5, ground := Ground.phase }], guard := none }, { dst := none, op := Op.store 30 (Operand.tmp b1) (Operand.tmp c1), type := 0, pos := p7, after := #[{ on := 5, ground := Ground.data }, { on := 3, ground := Ground.data }, { on := 6, ground := Ground.chain }, { on := 0, ground := Ground.phase }, { on := 1, ground := Ground.phase }, { on := 2, ground := Ground.phase }, { on := 3, ground := Ground.phase }, { on := 4, ground := Ground.phase }, { on := 5, ground := Ground.phase }, { on := 6, ground := Ground.phase }], guard := none }] v a.tmps = ((((((a.tmps.setIfInBounds l0 (.agg #[.int .i64 x0.f0, .slice A0 x0.f1.length k0])).setIfInBounds c0 (.agg #[.int .i64 x0.f0, .slice X0 x0.f1.length q0])).setIfInBounds l1 (.agg #[.int .i64 x1.f0, .slice A1 x1.f1.length k1])).setIfInBounds c1 (.agg #[.int .i64 x1.f0, .slice X1 x1.f1.length q1])).setIfInBounds b0 (.pointer (some ⟨h0, 0, none⟩))).setIfInBounds b1 (.pointer (some ⟨h1, 0, none⟩))) := by
      have hrange : (List.range 8) = [0, 1, 2, 3, 4, 5, 6, 7] := by decide
      unfold layAll
      simp only [List.size_toArray, List.length_cons, List.length_nil, Nat.reduceAdd, hrange, List.foldl_cons, List.foldl_nil, dstOf, List.getElem?_toArray, List.getElem?_cons_zero, List.getElem?_cons_succ, Option.bind_some, hg0, hX0, hl0, hg1, hX1, hl1]
    rw [hlay]
    exact this
set_option maxRecDepth 100000 in
set_option maxHeartbeats 4000000 in
theorem of_three {id : Nat} {l0 s0 c0 b0 l1 s1 c1 b1 l2 s2 c2 b2 : Tmp} {p0 p1 p2 p3 p4 p5 p6 p7 p8 p9 p10 p11 : String} {a : Act} {w : World} {Q : Exit → Act → World → Prop}
    (hr : regionOk #[{ dst := some l0, op := Op.load 24 (Operand.tmp s0), type := 24, pos := p0, after := #[], guard := none }, { dst := some c0, op := Op.call { callee := Callee.value (Operand.func 22), args := #[Operand.tmp l0], argTypes := #[24] }, type := 30, pos := p1, after := #[{ on := 0, ground := Ground.data }], guard := none }, { dst := some l1, op := Op.load 24 (Operand.tmp s1), type := 24, pos := p2, after := #[], guard := none }, { dst := some c1, op := Op.call { callee := Callee.value (Operand.func 22), args := #[Operand.tmp l1], argTypes := #[24] }, type := 30, pos := p3, after := #[{ on := 2, ground := Ground.data }, { on := 1, ground := Ground.chain }], guard := none }, { dst := some l2, op := Op.load 24 (Operand.tmp s2), type := 24, pos := p4, after := #[], guard := none }, { dst := some c2, op := Op.call { callee := Callee.value (Operand.func 22), args := #[Operand.tmp l2], argTypes := #[24] }, type := 30, pos := p5, after := #[{ on := 4, ground := Ground.data }, { on := 3, ground := Ground.chain }], guard := none }, { dst := some b0, op := Op.alloc 30, type := 0, pos := p6, after := #[], guard := none }, { dst := some b1, op := Op.alloc 30, type := 0, pos := p7, after := #[], guard := none }, { dst := some b2, op := Op.alloc 30, type := 0, pos := p8, after := #[], guard := none }, { dst := none, op := Op.store 30 (Operand.tmp b0) (Operand.tmp c0), type := 0, pos := p9, after := #[{ on := 6, ground := Ground.data }, { on := 1, ground := Ground.data }, { on := 5, ground := Ground.chain }, { on := 0, ground := Ground.phase }, { on := 1, ground := Ground.phase }, { on := 2, ground := Ground.textOnly Departure.lateStores }, { on := 3, ground := Ground.textOnly Departure.lateStoresUnsure }, { on := 4, ground := Ground.textOnly Departure.lateStores }, { on := 5, ground := Ground.textOnly Departure.lateStoresUnsure }, { on := 6, ground := Ground.phase }, { on := 7, ground := Ground.phase }, { on := 8, ground := Ground.phase }], guard := none }, { dst := none, op := Op.store 30 (Operand.tmp b1) (Operand.tmp c1), type := 0, pos := p10, after := #[{ on := 7, ground := Ground.data }, { on := 3, ground := Ground.data }, { on := 9, ground := Ground.chain }, { on := 0, ground := Ground.phase }, { on := 1, ground := Ground.phase }, { on := 2, ground := Ground.phase }, { on := 3, ground := Ground.phase }, { on := 4, ground := Ground.textOnly Departure.lateStores }, { on := 5, ground := Ground.textOnly Departure.lateStoresUnsure }, { on := 6, ground := Ground.phase }, { on := 7, ground := Ground.phase }, { on := 8, ground := Ground.phase }, { on := 9, ground := Ground.phase }], guard := none }, { dst := none, op := Op.store 30 (Operand.tmp b2) (Operand.tmp c2), type := 0, pos := p11, after := #[{ on := 8, ground := Ground.data }, { on := 5, ground := Ground.data }, { on := 10, ground := Ground.chain }, { on := 0, ground := Ground.phase }, { on := 1, ground := Ground.phase }, { on := 2, ground := Ground.phase }, { on := 3, ground := Ground.phase }, { on := 4, ground := Ground.phase }, { on := 5, ground := Ground.phase }, { on := 6, ground := Ground.phase }, { on := 7, ground := Ground.phase }, { on := 8, ground := Ground.phase }, { on := 9, ground := Ground.phase }, { on := 10, ground := Ground.phase }], guard := none }] a.tmps.size = true)
    (hn : ([s0, s1, s2]).all (fun t => (List.range 12).all fun j => decide (dstOf #[{ dst := some l0, op := Op.load 24 (Operand.tmp s0), type := 24, pos := p0, after := #[], guard := none }, { dst := some c0, op := Op.call { callee := Callee.value (Operand.func 22), args := #[Operand.tmp l0], argTypes := #[24] }, type := 30, pos := p1, after := #[{ on := 0, ground := Ground.data }], guard := none }, { dst := some l1, op := Op.load 24 (Operand.tmp s1), type := 24, pos := p2, after := #[], guard := none }, { dst := some c1, op := Op.call { callee := Callee.value (Operand.func 22), args := #[Operand.tmp l1], argTypes := #[24] }, type := 30, pos := p3, after := #[{ on := 2, ground := Ground.data }, { on := 1, ground := Ground.chain }], guard := none }, { dst := some l2, op := Op.load 24 (Operand.tmp s2), type := 24, pos := p4, after := #[], guard := none }, { dst := some c2, op := Op.call { callee := Callee.value (Operand.func 22), args := #[Operand.tmp l2], argTypes := #[24] }, type := 30, pos := p5, after := #[{ on := 4, ground := Ground.data }, { on := 3, ground := Ground.chain }], guard := none }, { dst := some b0, op := Op.alloc 30, type := 0, pos := p6, after := #[], guard := none }, { dst := some b1, op := Op.alloc 30, type := 0, pos := p7, after := #[], guard := none }, { dst := some b2, op := Op.alloc 30, type := 0, pos := p8, after := #[], guard := none }, { dst := none, op := Op.store 30 (Operand.tmp b0) (Operand.tmp c0), type := 0, pos := p9, after := #[{ on := 6, ground := Ground.data }, { on := 1, ground := Ground.data }, { on := 5, ground := Ground.chain }, { on := 0, ground := Ground.phase }, { on := 1, ground := Ground.phase }, { on := 2, ground := Ground.textOnly Departure.lateStores }, { on := 3, ground := Ground.textOnly Departure.lateStoresUnsure }, { on := 4, ground := Ground.textOnly Departure.lateStores }, { on := 5, ground := Ground.textOnly Departure.lateStoresUnsure }, { on := 6, ground := Ground.phase }, { on := 7, ground := Ground.phase }, { on := 8, ground := Ground.phase }], guard := none }, { dst := none, op := Op.store 30 (Operand.tmp b1) (Operand.tmp c1), type := 0, pos := p10, after := #[{ on := 7, ground := Ground.data }, { on := 3, ground := Ground.data }, { on := 9, ground := Ground.chain }, { on := 0, ground := Ground.phase }, { on := 1, ground := Ground.phase }, { on := 2, ground := Ground.phase }, { on := 3, ground := Ground.phase }, { on := 4, ground := Ground.textOnly Departure.lateStores }, { on := 5, ground := Ground.textOnly Departure.lateStoresUnsure }, { on := 6, ground := Ground.phase }, { on := 7, ground := Ground.phase }, { on := 8, ground := Ground.phase }, { on := 9, ground := Ground.phase }], guard := none }, { dst := none, op := Op.store 30 (Operand.tmp b2) (Operand.tmp c2), type := 0, pos := p11, after := #[{ on := 8, ground := Ground.data }, { on := 5, ground := Ground.data }, { on := 10, ground := Ground.chain }, { on := 0, ground := Ground.phase }, { on := 1, ground := Ground.phase }, { on := 2, ground := Ground.phase }, { on := 3, ground := Ground.phase }, { on := 4, ground := Ground.phase }, { on := 5, ground := Ground.phase }, { on := 6, ground := Ground.phase }, { on := 7, ground := Ground.phase }, { on := 8, ground := Ground.phase }, { on := 9, ground := Ground.phase }, { on := 10, ground := Ground.phase }], guard := none }] j ≠ some t)) = true)
    {x0 : S30} {A0 : Option Addr} {k0 g0 : Nat} (hs0 : a.tmps.getD s0 undef = .pointer (some ⟨g0, 0, none⟩)) (hb0 : w.heap[g0]? = some (.cells #[.int .i64 x0.f0, .slice A0 x0.f1.length k0] 24 (0, 0))) (hC0 : k24.C w A0 x0.f1.length x0.f1) (hk0 : x0.f1.length ≤ k0) (ho0 : ok x0)
    {x1 : S30} {A1 : Option Addr} {k1 g1 : Nat} (hs1 : a.tmps.getD s1 undef = .pointer (some ⟨g1, 0, none⟩)) (hb1 : w.heap[g1]? = some (.cells #[.int .i64 x1.f0, .slice A1 x1.f1.length k1] 24 (0, 0))) (hC1 : k24.C w A1 x1.f1.length x1.f1) (hk1 : x1.f1.length ≤ k1) (ho1 : ok x1)
    {x2 : S30} {A2 : Option Addr} {k2 g2 : Nat} (hs2 : a.tmps.getD s2 undef = .pointer (some ⟨g2, 0, none⟩)) (hb2 : w.heap[g2]? = some (.cells #[.int .i64 x2.f0, .slice A2 x2.f1.length k2] 24 (0, 0))) (hC2 : k24.C w A2 x2.f1.length x2.f1) (hk2 : x2.f1.length ≤ k2) (ho2 : ok x2)
    (hK : ∀ (w' : World) (X0 : Option Addr) (q0 h0 : Nat) (X1 : Option Addr) (q1 h1 : Nat) (X2 : Option Addr) (q2 h2 : Nat), Below w.heap.size w w' → w.heap.size ≤ h0 → w'.heap[h0]? = some (.cells #[.int .i64 x0.f0, .slice X0 x0.f1.length q0] 30 (0, 0)) → x0.f1.length ≤ q0 → k30.C w' X0 x0.f1.length x0.f1 → w.heap.size ≤ h1 → w'.heap[h1]? = some (.cells #[.int .i64 x1.f0, .slice X1 x1.f1.length q1] 30 (0, 0)) → x1.f1.length ≤ q1 → k30.C w' X1 x1.f1.length x1.f1 → w.heap.size ≤ h2 → w'.heap[h2]? = some (.cells #[.int .i64 x2.f0, .slice X2 x2.f1.length q2] 30 (0, 0)) → x2.f1.length ≤ q2 → k30.C w' X2 x2.f1.length x2.f1 → Q .normal { tmps := (((((((((a.tmps.setIfInBounds l0 (.agg #[.int .i64 x0.f0, .slice A0 x0.f1.length k0])).setIfInBounds c0 (.agg #[.int .i64 x0.f0, .slice X0 x0.f1.length q0])).setIfInBounds l1 (.agg #[.int .i64 x1.f0, .slice A1 x1.f1.length k1])).setIfInBounds c1 (.agg #[.int .i64 x1.f0, .slice X1 x1.f1.length q1])).setIfInBounds l2 (.agg #[.int .i64 x2.f0, .slice A2 x2.f1.length k2])).setIfInBounds c2 (.agg #[.int .i64 x2.f0, .slice X2 x2.f1.length q2])).setIfInBounds b0 (.pointer (some ⟨h0, 0, none⟩))).setIfInBounds b1 (.pointer (some ⟨h1, 0, none⟩))).setIfInBounds b2 (.pointer (some ⟨h2, 0, none⟩))), defers := a.defers } w') :
    (Code.region id #[{ dst := some l0, op := Op.load 24 (Operand.tmp s0), type := 24, pos := p0, after := #[], guard := none }, { dst := some c0, op := Op.call { callee := Callee.value (Operand.func 22), args := #[Operand.tmp l0], argTypes := #[24] }, type := 30, pos := p1, after := #[{ on := 0, ground := Ground.data }], guard := none }, { dst := some l1, op := Op.load 24 (Operand.tmp s1), type := 24, pos := p2, after := #[], guard := none }, { dst := some c1, op := Op.call { callee := Callee.value (Operand.func 22), args := #[Operand.tmp l1], argTypes := #[24] }, type := 30, pos := p3, after := #[{ on := 2, ground := Ground.data }, { on := 1, ground := Ground.chain }], guard := none }, { dst := some l2, op := Op.load 24 (Operand.tmp s2), type := 24, pos := p4, after := #[], guard := none }, { dst := some c2, op := Op.call { callee := Callee.value (Operand.func 22), args := #[Operand.tmp l2], argTypes := #[24] }, type := 30, pos := p5, after := #[{ on := 4, ground := Ground.data }, { on := 3, ground := Ground.chain }], guard := none }, { dst := some b0, op := Op.alloc 30, type := 0, pos := p6, after := #[], guard := none }, { dst := some b1, op := Op.alloc 30, type := 0, pos := p7, after := #[], guard := none }, { dst := some b2, op := Op.alloc 30, type := 0, pos := p8, after := #[], guard := none }, { dst := none, op := Op.store 30 (Operand.tmp b0) (Operand.tmp c0), type := 0, pos := p9, after := #[{ on := 6, ground := Ground.data }, { on := 1, ground := Ground.data }, { on := 5, ground := Ground.chain }, { on := 0, ground := Ground.phase }, { on := 1, ground := Ground.phase }, { on := 2, ground := Ground.textOnly Departure.lateStores }, { on := 3, ground := Ground.textOnly Departure.lateStoresUnsure }, { on := 4, ground := Ground.textOnly Departure.lateStores }, { on := 5, ground := Ground.textOnly Departure.lateStoresUnsure }, { on := 6, ground := Ground.phase }, { on := 7, ground := Ground.phase }, { on := 8, ground := Ground.phase }], guard := none }, { dst := none, op := Op.store 30 (Operand.tmp b1) (Operand.tmp c1), type := 0, pos := p10, after := #[{ on := 7, ground := Ground.data }, { on := 3, ground := Ground.data }, { on := 9, ground := Ground.chain }, { on := 0, ground := Ground.phase }, { on := 1, ground := Ground.phase }, { on := 2, ground := Ground.phase }, { on := 3, ground := Ground.phase }, { on := 4, ground := Ground.textOnly Departure.lateStores }, { on := 5, ground := Ground.textOnly Departure.lateStoresUnsure }, { on := 6, ground := Ground.phase }, { on := 7, ground := Ground.phase }, { on := 8, ground := Ground.phase }, { on := 9, ground := Ground.phase }], guard := none }, { dst := none, op := Op.store 30 (Operand.tmp b2) (Operand.tmp c2), type := 0, pos := p11, after := #[{ on := 8, ground := Ground.data }, { on := 5, ground := Ground.data }, { on := 10, ground := Ground.chain }, { on := 0, ground := Ground.phase }, { on := 1, ground := Ground.phase }, { on := 2, ground := Ground.phase }, { on := 3, ground := Ground.phase }, { on := 4, ground := Ground.phase }, { on := 5, ground := Ground.phase }, { on := 6, ground := Ground.phase }, { on := 7, ground := Ground.phase }, { on := 8, ground := Ground.phase }, { on := 9, ground := Ground.phase }, { on := 10, ground := Ground.phase }], guard := none }] true).wp Try.prog Q a w := by
  have hmx : Try.prog.follows .mixedOrders = true := by kernel_rfl
  obtain ⟨K0, hO0⟩ := (Of_spec x0 ho0).rounds
  obtain ⟨K1, hO1⟩ := (Of_spec x1 ho1).rounds
  obtain ⟨K2, hO2⟩ := (Of_spec x2 ho2).rounds
  have hne : ∀ j t, t ∈ [s0, s1, s2] → dstOf #[{ dst := some l0, op := Op.load 24 (Operand.tmp s0), type := 24, pos := p0, after := #[], guard := none }, { dst := some c0, op := Op.call { callee := Callee.value (Operand.func 22), args := #[Operand.tmp l0], argTypes := #[24] }, type := 30, pos := p1, after := #[{ on := 0, ground := Ground.data }], guard := none }, { dst := some l1, op := Op.load 24 (Operand.tmp s1), type := 24, pos := p2, after := #[], guard := none }, { dst := some c1, op := Op.call { callee := Callee.value (Operand.func 22), args := #[Operand.tmp l1], argTypes := #[24] }, type := 30, pos := p3, after := #[{ on := 2, ground := Ground.data }, { on := 1, ground := Ground.chain }], guard := none }, { dst := some l2, op := Op.load 24 (Operand.tmp s2), type := 24, pos := p4, after := #[], guard := none }, { dst := some c2, op := Op.call { callee := Callee.value (Operand.func 22), args := #[Operand.tmp l2], argTypes := #[24] }, type := 30, pos := p5, after := #[{ on := 4, ground := Ground.data }, { on := 3, ground := Ground.chain }], guard := none }, { dst := some b0, op := Op.alloc 30, type := 0, pos := p6, after := #[], guard := none }, { dst := some b1, op := Op.alloc 30, type := 0, pos := p7, after := #[], guard := none }, { dst := some b2, op := Op.alloc 30, type := 0, pos := p8, after := #[], guard := none }, { dst := none, op := Op.store 30 (Operand.tmp b0) (Operand.tmp c0), type := 0, pos := p9, after := #[{ on := 6, ground := Ground.data }, { on := 1, ground := Ground.data }, { on := 5, ground := Ground.chain }, { on := 0, ground := Ground.phase }, { on := 1, ground := Ground.phase }, { on := 2, ground := Ground.textOnly Departure.lateStores }, { on := 3, ground := Ground.textOnly Departure.lateStoresUnsure }, { on := 4, ground := Ground.textOnly Departure.lateStores }, { on := 5, ground := Ground.textOnly Departure.lateStoresUnsure }, { on := 6, ground := Ground.phase }, { on := 7, ground := Ground.phase }, { on := 8, ground := Ground.phase }], guard := none }, { dst := none, op := Op.store 30 (Operand.tmp b1) (Operand.tmp c1), type := 0, pos := p10, after := #[{ on := 7, ground := Ground.data }, { on := 3, ground := Ground.data }, { on := 9, ground := Ground.chain }, { on := 0, ground := Ground.phase }, { on := 1, ground := Ground.phase }, { on := 2, ground := Ground.phase }, { on := 3, ground := Ground.phase }, { on := 4, ground := Ground.textOnly Departure.lateStores }, { on := 5, ground := Ground.textOnly Departure.lateStoresUnsure }, { on := 6, ground := Ground.phase }, { on := 7, ground := Ground.phase }, { on := 8, ground := Ground.phase }, { on := 9, ground := Ground.phase }], guard := none }, { dst := none, op := Op.store 30 (Operand.tmp b2) (Operand.tmp c2), type := 0, pos := p11, after := #[{ on := 8, ground := Ground.data }, { on := 5, ground := Ground.data }, { on := 10, ground := Ground.chain }, { on := 0, ground := Ground.phase }, { on := 1, ground := Ground.phase }, { on := 2, ground := Ground.phase }, { on := 3, ground := Ground.phase }, { on := 4, ground := Ground.phase }, { on := 5, ground := Ground.phase }, { on := 6, ground := Ground.phase }, { on := 7, ground := Ground.phase }, { on := 8, ground := Ground.phase }, { on := 9, ground := Ground.phase }, { on := 10, ground := Ground.phase }], guard := none }] j ≠ some t := by
    intro j t ht
    rw [List.all_eq_true] at hn
    have h1 := hn t ht
    rw [List.all_eq_true] at h1
    rcases Nat.lt_or_ge j 12 with hlt | hge
    · exact of_decide_eq_true (h1 j (List.mem_range.2 hlt))
    · unfold dstOf
      rw [Array.getElem?_eq_none (by simpa using hge)]
      simp
  refine region_vals hmx hr (OfI 3 (fun i => match i with | 0 => x0 | 1 => x1 | 2 => x2 | _ => z30) (fun i => match i with | 0 => .agg #[.int .i64 x0.f0, .slice A0 x0.f1.length k0] | 1 => .agg #[.int .i64 x1.f0, .slice A1 x1.f1.length k1] | 2 => .agg #[.int .i64 x2.f0, .slice A2 x2.f1.length k2] | _ => undef) w) (fun v => OfI.start _ _ _ _ _) (fun i => ?_) (fun v d w' hall hI => ?_)
  · rcases Nat.lt_or_ge i 12 with hlt | hge
    rotate_left
    · intro o ho
      rw [Array.getElem?_eq_none (by simpa using hge)] at ho
      cases ho
    intro o ho v d T w' hH hI hd hdep K hK
    match i, hlt with
    | 0, _ =>
      simp only [List.getElem?_toArray, List.getElem?_cons_zero, List.getElem?_cons_succ, Option.some.injEq] at ho
      subst ho
      have e1 : T.getD s0 undef = .pointer (some ⟨g0, 0, none⟩) := (hH.base _ (fun j _ => hne j _ (by simp))).trans hs0
      have hb := hI.below.block g0 (blk_lt hb0)
      have hc0 : w'.cell? ⟨g0, 0, none⟩ = some (.int .i64 x0.f0) := (blk_cell (hb.trans hb0) 0).trans rfl
      have hc1 : w'.cell? ⟨g0, 1, none⟩ = some (.slice A0 x0.f1.length k0) := (blk_cell (hb.trans hb0) 1).trans rfl
      have hfin := hK _ _ (OfI.load (i := 0) hI (by omega) hd)
      clear hK hdep hI hH hr hn hne
      go_simp
      exact hfin
    | 1, _ =>
      simp only [List.getElem?_toArray, List.getElem?_cons_zero, List.getElem?_cons_succ, Option.some.injEq] at ho
      subst ho
      have hd0 : d 0 = true := hdep { on := 0, ground := Ground.data } (by simp) rfl
      have e1 : T.getD l0 undef = .agg #[.int .i64 x0.f0, .slice A0 x0.f1.length k0] := (hH.done 0 _ hd0 rfl).trans (hI.ld 0 (by omega) hd0)
      have hcall := (soriteslaw06_Of.calls K0 x0.f0 A0 k0 x0.f1 x0.f0 x0.f1 w' (Kd.C_below hC0 hI.below) hk0 hO0)
      have hfin : ∀ v1 w2, Kd.R k30 30 w2 w'.heap.size (fun _ => True) v1 x0.f1 → Below w'.heap.size w' w2 → _ := fun v1 w2 h1 h2 => hK _ _ (OfI.call (i := 0) hI (by omega) hd h2 h1)
      clear hK hdep hI hH hr hn hne
      go_simp
      go_at_call 22
      refine hcall.mono ?_
      rintro e w2 ⟨v1, rfl, h1, h2⟩
      exact hfin _ _ h1 h2
    | 2, _ =>
      simp only [List.getElem?_toArray, List.getElem?_cons_zero, List.getElem?_cons_succ, Option.some.injEq] at ho
      subst ho
      have e1 : T.getD s1 undef = .pointer (some ⟨g1, 0, none⟩) := (hH.base _ (fun j _ => hne j _ (by simp))).trans hs1
      have hb := hI.below.block g1 (blk_lt hb1)
      have hc0 : w'.cell? ⟨g1, 0, none⟩ = some (.int .i64 x1.f0) := (blk_cell (hb.trans hb1) 0).trans rfl
      have hc1 : w'.cell? ⟨g1, 1, none⟩ = some (.slice A1 x1.f1.length k1) := (blk_cell (hb.trans hb1) 1).trans rfl
      have hfin := hK _ _ (OfI.load (i := 1) hI (by omega) hd)
      clear hK hdep hI hH hr hn hne
      go_simp
      exact hfin
    | 3, _ =>
      simp only [List.getElem?_toArray, List.getElem?_cons_zero, List.getElem?_cons_succ, Option.some.injEq] at ho
      subst ho
      have hd0 : d 2 = true := hdep { on := 2, ground := Ground.data } (by simp) rfl
      have e1 : T.getD l1 undef = .agg #[.int .i64 x1.f0, .slice A1 x1.f1.length k1] := (hH.done 2 _ hd0 rfl).trans (hI.ld 1 (by omega) hd0)
      have hcall := (soriteslaw06_Of.calls K1 x1.f0 A1 k1 x1.f1 x1.f0 x1.f1 w' (Kd.C_below hC1 hI.below) hk1 hO1)
      have hfin : ∀ v1 w2, Kd.R k30 30 w2 w'.heap.size (fun _ => True) v1 x1.f1 → Below w'.heap.size w' w2 → _ := fun v1 w2 h1 h2 => hK _ _ (OfI.call (i := 1) hI (by omega) hd h2 h1)
      clear hK hdep hI hH hr hn hne
      go_simp
      go_at_call 22
      refine hcall.mono ?_
      rintro e w2 ⟨v1, rfl, h1, h2⟩
      exact hfin _ _ h1 h2
    | 4, _ =>
      simp only [List.getElem?_toArray, List.getElem?_cons_zero, List.getElem?_cons_succ, Option.some.injEq] at ho
      subst ho
      have e1 : T.getD s2 undef = .pointer (some ⟨g2, 0, none⟩) := (hH.base _ (fun j _ => hne j _ (by simp))).trans hs2
      have hb := hI.below.block g2 (blk_lt hb2)
      have hc0 : w'.cell? ⟨g2, 0, none⟩ = some (.int .i64 x2.f0) := (blk_cell (hb.trans hb2) 0).trans rfl
      have hc1 : w'.cell? ⟨g2, 1, none⟩ = some (.slice A2 x2.f1.length k2) := (blk_cell (hb.trans hb2) 1).trans rfl
      have hfin := hK _ _ (OfI.load (i := 2) hI (by omega) hd)
      clear hK hdep hI hH hr hn hne
      go_simp
      exact hfin
    | 5, _ =>
      simp only [List.getElem?_toArray, List.getElem?_cons_zero, List.getElem?_cons_succ, Option.some.injEq] at ho
      subst ho
      have hd0 : d 4 = true := hdep { on := 4, ground := Ground.data } (by simp) rfl
      have e1 : T.getD l2 undef = .agg #[.int .i64 x2.f0, .slice A2 x2.f1.length k2] := (hH.done 4 _ hd0 rfl).trans (hI.ld 2 (by omega) hd0)
      have hcall := (soriteslaw06_Of.calls K2 x2.f0 A2 k2 x2.f1 x2.f0 x2.f1 w' (Kd.C_below hC2 hI.below) hk2 hO2)
      have hfin : ∀ v1 w2, Kd.R k30 30 w2 w'.heap.size (fun _ => True) v1 x2.f1 → Below w'.heap.size w' w2 → _ := fun v1 w2 h1 h2 => hK _ _ (OfI.call (i := 2) hI (by omega) hd h2 h1)
      clear hK hdep hI hH hr hn hne
      go_simp
      go_at_call 22
      refine hcall.mono ?_
      rintro e w2 ⟨v1, rfl, h1, h2⟩
      exact hfin _ _ h1 h2
    | 6, _ =>
      simp only [List.getElem?_toArray, List.getElem?_cons_zero, List.getElem?_cons_succ, Option.some.injEq] at ho
      subst ho
      have hfin := hK _ _ (OfI.alloc (i := 0) hI (by omega) hd)
      clear hK hdep hI hH hr hn hne
      go_simp
      exact hfin
    | 7, _ =>
      simp only [List.getElem?_toArray, List.getElem?_cons_zero, List.getElem?_cons_succ, Option.some.injEq] at ho
      subst ho
      have hfin := hK _ _ (OfI.alloc (i := 1) hI (by omega) hd)
      clear hK hdep hI hH hr hn hne
      go_simp
      exact hfin
    | 8, _ =>
      simp only [List.getElem?_toArray, List.getElem?_cons_zero, List.getElem?_cons_succ, Option.some.injEq] at ho
      subst ho
      have hfin := hK _ _ (OfI.alloc (i := 2) hI (by omega) hd)
      clear hK hdep hI hH hr hn hne
      go_simp
      exact hfin
    | 9, _ =>
      simp only [List.getElem?_toArray, List.getElem?_cons_zero, List.getElem?_cons_succ, Option.some.injEq] at ho
      subst ho
      have hda : d 6 = true := hdep { on := 6, ground := Ground.data } (by simp) rfl
      have hdc : d 1 = true := hdep { on := 1, ground := Ground.data } (by simp) rfl
      obtain ⟨g, hg, hge, hz, _⟩ := hI.al 0 (by omega) hda
      obtain ⟨X, q, hX, hq, hF⟩ := hI.cl 0 (by omega) hdc
      have e1 : T.getD b0 undef = .pointer (some ⟨g, 0, none⟩) := (hH.done 6 _ hda rfl).trans hg
      have e2 : T.getD c0 undef = .agg #[.int .i64 x0.f0, .slice X x0.f1.length q] := (hH.done 1 _ hdc rfl).trans hX
      have hz := hz hd
      have hc0 : w'.cell? ⟨g, 0, none⟩ = some (.int .i64 0) := (blk_cell hz 0).trans rfl
      have hc1 : w'.cell? ⟨g, 1, none⟩ = some (.slice none 0 0) := (blk_cell hz 1).trans rfl
      have hf0 := blk_frozen hz 0
      have hf1 := blk_frozen hz 1
      have hfin := fun u => hK u _ (OfI.store (i := 0) hI (by omega) hd hda hdc hg hX u)
      clear hK hdep hI hH hr hn hne hz
      go_simp
      exact hfin undef
    | 10, _ =>
      simp only [List.getElem?_toArray, List.getElem?_cons_zero, List.getElem?_cons_succ, Option.some.injEq] at ho
      subst ho
      have hda : d 7 = true := hdep { on := 7, ground := Ground.data } (by simp) rfl
      have hdc : d 3 = true := hdep { on := 3, ground := Ground.data } (by simp) rfl
      obtain ⟨g, hg, hge, hz, _⟩ := hI.al 1 (by omega) hda
      obtain ⟨X, q, hX, hq, hF⟩ := hI.cl 1 (by omega) hdc
      have e1 : T.getD b1 undef = .pointer (some ⟨g, 0, none⟩) := (hH.done 7 _ hda rfl).trans hg
      have e2 : T.getD c1 undef = .agg #[.int .i64 x1.f0, .slice X x1.f1.length q] := (hH.done 3 _ hdc rfl).trans hX
      have hz := hz hd
      have hc0 : w'.cell? ⟨g, 0, none⟩ = some (.int .i64 0) := (blk_cell hz 0).trans rfl
      have hc1 : w'.cell? ⟨g, 1, none⟩ = some (.slice none 0 0) := (blk_cell hz 1).trans rfl
      have hf0 := blk_frozen hz 0
      have hf1 := blk_frozen hz 1
      have hfin := fun u => hK u _ (OfI.store (i := 1) hI (by omega) hd hda hdc hg hX u)
      clear hK hdep hI hH hr hn hne hz
      go_simp
      exact hfin undef
    | 11, _ =>
      simp only [List.getElem?_toArray, List.getElem?_cons_zero, List.getElem?_cons_succ, Option.some.injEq] at ho
      subst ho
      have hda : d 8 = true := hdep { on := 8, ground := Ground.data } (by simp) rfl
      have hdc : d 5 = true := hdep { on := 5, ground := Ground.data } (by simp) rfl
      obtain ⟨g, hg, hge, hz, _⟩ := hI.al 2 (by omega) hda
      obtain ⟨X, q, hX, hq, hF⟩ := hI.cl 2 (by omega) hdc
      have e1 : T.getD b2 undef = .pointer (some ⟨g, 0, none⟩) := (hH.done 8 _ hda rfl).trans hg
      have e2 : T.getD c2 undef = .agg #[.int .i64 x2.f0, .slice X x2.f1.length q] := (hH.done 5 _ hdc rfl).trans hX
      have hz := hz hd
      have hc0 : w'.cell? ⟨g, 0, none⟩ = some (.int .i64 0) := (blk_cell hz 0).trans rfl
      have hc1 : w'.cell? ⟨g, 1, none⟩ = some (.slice none 0 0) := (blk_cell hz 1).trans rfl
      have hf0 := blk_frozen hz 0
      have hf1 := blk_frozen hz 1
      have hfin := fun u => hK u _ (OfI.store (i := 2) hI (by omega) hd hda hdc hg hX u)
      clear hK hdep hI hH hr hn hne hz
      go_simp
      exact hfin undef
  · obtain ⟨h0, hg0, hge0, _, hz0⟩ := hI.al 0 (by omega) (hall 6 (by simp))
    obtain ⟨X0, q0, hX0, hq0, hF0⟩ := (hI.cl 0 (by omega) (hall 1 (by simp))).C
    have hz0 := hz0 (hall 9 (by simp))
    have hl0 := hI.ld 0 (by omega) (hall 0 (by simp))
    simp only [Nat.reduceMul, Nat.reduceAdd] at hg0 hz0 hX0 hl0
    rw [hX0] at hz0
    obtain ⟨h1, hg1, hge1, _, hz1⟩ := hI.al 1 (by omega) (hall 7 (by simp))
    obtain ⟨X1, q1, hX1, hq1, hF1⟩ := (hI.cl 1 (by omega) (hall 3 (by simp))).C
    have hz1 := hz1 (hall 10 (by simp))
    have hl1 := hI.ld 1 (by omega) (hall 2 (by simp))
    simp only [Nat.reduceMul, Nat.reduceAdd] at hg1 hz1 hX1 hl1
    rw [hX1] at hz1
    obtain ⟨h2, hg2, hge2, _, hz2⟩ := hI.al 2 (by omega) (hall 8 (by simp))
    obtain ⟨X2, q2, hX2, hq2, hF2⟩ := (hI.cl 2 (by omega) (hall 5 (by simp))).C
    have hz2 := hz2 (hall 11 (by simp))
    have hl2 := hI.ld 2 (by omega) (hall 4 (by simp))
    simp only [Nat.reduceMul, Nat.reduceAdd] at hg2 hz2 hX2 hl2
    rw [hX2] at hz2
    have := hK w' X0 q0 h0 X1 q1 h1 X2 q2 h2 hI.below hge0 hz0 hq0 hF0 hge1 hz1 hq1 hF1 hge2 hz2 hq2 hF2
    have hlay : layAll #[{ dst := some l0, op := Op.load 24 (Operand.tmp s0), type := 24, pos := p0, after := #[], guard := none }, { dst := some c0, op := Op.call { callee := Callee.value (Operand.func 22), args := #[Operand.tmp l0], argTypes := #[24] }, type := 30, pos := p1, after := #[{ on := 0, ground := Ground.data }], guard := none }, { dst := some l1, op := Op.load 24 (Operand.tmp s1), type := 24, pos := p2, after := #[], guard := none }, { dst := some c1, op := Op.call { callee := Callee.value (Operand.func 22), args := #[Operand.tmp l1], argTypes := #[24] }, type := 30, pos := p3, after := #[{ on := 2, ground := Ground.data }, { on := 1, ground := Ground.chain }], guard := none }, { dst := some l2, op := Op.load 24 (Operand.tmp s2), type := 24, pos := p4, after := #[], guard := none }, { dst := some c2, op := Op.call { callee := Callee.value (Operand.func 22), args := #[Operand.tmp l2], argTypes := #[24] }, type := 30, pos := p5, after := #[{ on := 4, ground := Ground.data }, { on := 3, ground := Ground.chain }], guard := none }, { dst := some b0, op := Op.alloc 30, type := 0, pos := p6, after := #[], guard := none }, { dst := some b1, op := Op.alloc 30, type := 0, pos := p7, after := #[], guard := none }, { dst := some b2, op := Op.alloc 30, type := 0, pos := p8, after := #[], guard := none }, { dst := none, op := Op.store 30 (Operand.tmp b0) (Operand.tmp c0), type := 0, pos := p9, after := #[{ on := 6, ground := Ground.data }, { on := 1, ground := Ground.data }, { on := 5, ground := Ground.chain }, { on := 0, ground := Ground.phase }, { on := 1, ground := Ground.phase }, { on := 2, ground := Ground.textOnly Departure.lateStores }, { on := 3, ground := Ground.textOnly Departure.lateStoresUnsure }, { on := 4, ground := Ground.textOnly Departure.lateStores }, { on := 5, ground := Ground.textOnly Departure.lateStoresUnsure }, { on := 6, ground := Ground.phase }, { on := 7, ground := Ground.phase }, { on := 8, ground := Ground.phase }], guard := none }, { dst := none, op := Op.store 30 (Operand.tmp b1) (Operand.tmp c1), type := 0, pos := p10, after := #[{ on := 7, ground := Ground.data }, { on := 3, ground := Ground.data }, { on := 9, ground := Ground.chain }, { on := 0, ground := Ground.phase }, { on := 1, ground := Ground.phase }, { on := 2, ground := Ground.phase }, { on := 3, ground := Ground.phase }, { on := 4, ground := Ground.textOnly Departure.lateStores }, { on := 5, ground := Ground.textOnly Departure.lateStoresUnsure }, { on := 6, ground := Ground.phase }, { on := 7, ground := Ground.phase }, { on := 8, ground := Ground.phase }, { on := 9, ground := Ground.phase }], guard := none }, { dst := none, op := Op.store 30 (Operand.tmp b2) (Operand.tmp c2), type := 0, pos := p11, after := #[{ on := 8, ground := Ground.data }, { on := 5, ground := Ground.data }, { on := 10, ground := Ground.chain }, { on := 0, ground := Ground.phase }, { on := 1, ground := Ground.phase }, { on := 2, ground := Ground.phase }, { on := 3, ground := Ground.phase }, { on := 4, ground := Ground.phase }, { on := 5, ground := Ground.phase }, { on := 6, ground := Ground.phase }, { on := 7, ground := Ground.phase }, { on := 8, ground := Ground.phase }, { on := 9, ground := Ground.phase }, { on := 10, ground := Ground.phase }], guard := none }] v a.tmps = (((((((((a.tmps.setIfInBounds l0 (.agg #[.int .i64 x0.f0, .slice A0 x0.f1.length k0])).setIfInBounds c0 (.agg #[.int .i64 x0.f0, .slice X0 x0.f1.length q0])).setIfInBounds l1 (.agg #[.int .i64 x1.f0, .slice A1 x1.f1.length k1])).setIfInBounds c1 (.agg #[.int .i64 x1.f0, .slice X1 x1.f1.length q1])).setIfInBounds l2 (.agg #[.int .i64 x2.f0, .slice A2 x2.f1.length k2])).setIfInBounds c2 (.agg #[.int .i64 x2.f0, .slice X2 x2.f1.length q2])).setIfInBounds b0 (.pointer (some ⟨h0, 0, none⟩))).setIfInBounds b1 (.pointer (some ⟨h1, 0, none⟩))).setIfInBounds b2 (.pointer (some ⟨h2, 0, none⟩))) := by
      have hrange : (List.range 12) = [0, 1, 2, 3, 4, 5, 6, 7, 8, 9, 10, 11] := by decide
      unfold layAll
      simp only [List.size_toArray, List.length_cons, List.length_nil, Nat.reduceAdd, hrange, List.foldl_cons, List.foldl_nil, dstOf, List.getElem?_toArray, List.getElem?_cons_zero, List.getElem?_cons_succ, Option.bind_some, hg0, hX0, hl0, hg1, hX1, hl1, hg2, hX2, hl2]
    rw [hlay]
    exact this
end Go.Proofs.Ytpfddihcikiofaa.P
