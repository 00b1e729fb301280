/- The law TermPlaces holds of every input. Part 4 of 6: GPutRegs, GPut, GSpec10, GKboLaw, PxTermAt, GPlaceLaw, GPlaceLaw2, GAway, PxSoritesref06Put. -/
import Derived.Test.YtpfddihcikiofaaZTermPlaces2
import Derived.Test.YtpfddihcikiofaaZTermPlaces3
import Derived.Test.YtpfddihcikiofaaZTermPlaces1
section
namespace Go.Proofs.Ytpfddihcikiofaa.P
open Go.RowKit Go.Proofs.YtpfddihcikiofaaW.PrintWords Go.Proofs.YtpfddihcikiofaaW.PrintLast Go.Proofs.YtpfddihcikiofaaW.PrintMore
set_option linter.unusedVariables false
set_option linter.unusedSimpArgs false
set_option maxHeartbeats 4000000 in
set_option maxRecDepth 100000 in
theorem Put_r3 {id : Nat} {a : Act} {w : World} {Q : Exit → Act → World → Prop} {f i : Int} {gt m cp : Nat} {tl : Value} {Ap : Addr} {ps : List S30} {P : Nat → Prop}
    (hr : regionOk #[{ dst := some 18, op := Op.move (Operand.tmp 1), type := 25, pos := "term.go:108", after := #[], guard := none }, { dst := some 19, op := Op.indexAddr 25 (Operand.tmp 18) (Operand.const (Value.int IntKind.i64 0)), type := 0, pos := "term.go:108", after := #[{ on := 0, ground := Ground.data }], guard := none }, { dst := some 20, op := Op.load 3 (Operand.tmp 19), type := 3, pos := "term.go:108", after := #[{ on := 1, ground := Ground.data }], guard := none }, { dst := some 21, op := Op.load 30 (Operand.tmp 3), type := 30, pos := "term.go:108", after := #[], guard := none }, { dst := some 22, op := Op.call { callee := Callee.value (Operand.func 74), args := #[Operand.tmp 21], argTypes := #[30] }, type := 28, pos := "term.go:108", after := #[{ on := 3, ground := Ground.data }], guard := none }, { dst := some 8, op := Op.assign (Operand.tmp 20), type := 3, pos := "term.go:108", after := #[{ on := 2, ground := Ground.data }, { on := 4, ground := Ground.chain }, { on := 0, ground := Ground.phase }, { on := 1, ground := Ground.phase }, { on := 2, ground := Ground.phase }, { on := 3, ground := Ground.textOnly Departure.lateStores }, { on := 4, ground := Ground.textOnly Departure.lateStoresUnsure }], guard := none }, { dst := some 9, op := Op.assign (Operand.tmp 22), type := 28, pos := "term.go:108", after := #[{ on := 4, ground := Ground.data }, { on := 5, ground := Ground.chain }, { on := 0, ground := Ground.phase }, { on := 1, ground := Ground.phase }, { on := 2, ground := Ground.phase }, { on := 3, ground := Ground.phase }, { on := 4, ground := Ground.phase }, { on := 5, ground := Ground.phase }], guard := none }] a.tmps.size = true)
    (hT1 : a.tmps.getD 1 undef = .slice (some Ap) m cp)
    (hT3 : a.tmps.getD 3 undef = .pointer (some ⟨gt, 0, none⟩)) (hX3 : w.heap[gt]? = some (.cells #[.int .i64 f, tl] 30 (0, 0)))
    (hm : 0 < m) (hi : w.cell? Ap = some (.int .i64 i)) (hF : ∀ w1, Below w.heap.size w w1 → Calls Try.prog 74 #[.agg #[.int .i64 f, tl]] w1 fun e w2 => ∃ u, e = .returned u ∧ Kd.V k30 30 w2 0 P u ps ∧ Below w1.heap.size w1 w2)
    (hK : ∀ v w', Below w.heap.size w w' → v 5 = .int .i64 i → Kd.V k30 30 w' 0 P (v 6) ps → Q .normal { tmps := layL [some 18, some 19, some 20, some 21, some 22, some 8, some 9] 0 v a.tmps, defers := a.defers } w') :
    (Code.region id #[{ dst := some 18, op := Op.move (Operand.tmp 1), type := 25, pos := "term.go:108", after := #[], guard := none }, { dst := some 19, op := Op.indexAddr 25 (Operand.tmp 18) (Operand.const (Value.int IntKind.i64 0)), type := 0, pos := "term.go:108", after := #[{ on := 0, ground := Ground.data }], guard := none }, { dst := some 20, op := Op.load 3 (Operand.tmp 19), type := 3, pos := "term.go:108", after := #[{ on := 1, ground := Ground.data }], guard := none }, { dst := some 21, op := Op.load 30 (Operand.tmp 3), type := 30, pos := "term.go:108", after := #[], guard := none }, { dst := some 22, op := Op.call { callee := Callee.value (Operand.func 74), args := #[Operand.tmp 21], argTypes := #[30] }, type := 28, pos := "term.go:108", after := #[{ on := 3, ground := Ground.data }], guard := none }, { dst := some 8, op := Op.assign (Operand.tmp 20), type := 3, pos := "term.go:108", after := #[{ on := 2, ground := Ground.data }, { on := 4, ground := Ground.chain }, { on := 0, ground := Ground.phase }, { on := 1, ground := Ground.phase }, { on := 2, ground := Ground.phase }, { on := 3, ground := Ground.textOnly Departure.lateStores }, { on := 4, ground := Ground.textOnly Departure.lateStoresUnsure }], guard := none }, { dst := some 9, op := Op.assign (Operand.tmp 22), type := 28, pos := "term.go:108", after := #[{ on := 4, ground := Ground.data }, { on := 5, ground := Ground.chain }, { on := 0, ground := Ground.phase }, { on := 1, ground := Ground.phase }, { on := 2, ground := Ground.phase }, { on := 3, ground := Ground.phase }, { on := 4, ground := Ground.phase }, { on := 5, ground := Ground.phase }], guard := none }] true).wp Try.prog Q a w := by
  have hmx : Try.prog.follows .mixedOrders = true := by kernel_rfl
  refine region_detR 7 hmx hr (by kernel_rfl) ?_
  refine DetR.is (o := { dst := some 18, op := Op.move (Operand.tmp 1), type := 25, pos := "term.go:108", after := #[], guard := none }) (u := ?ux1) rfl (by decide) (fun T w' hb hd hB K hK => ?sx1) ?rx1
  case sx1 =>
    have e1 := (hB 1 (by kernel_rfl)).trans hT1
    rw [if_pos (wanted_none _ rfl)]
    clear hd hB
    go_simp
    exact hK _ (Below.refl _ _)
  refine DetR.is (o := { dst := some 19, op := Op.indexAddr 25 (Operand.tmp 18) (Operand.const (Value.int IntKind.i64 0)), type := 0, pos := "term.go:108", after := #[{ on := 0, ground := Ground.data }], guard := none }) (u := .pointer (some Ap)) rfl (by decide) (fun T w' hb hd hB K hK => ?sx2) ?rx2
  case sx2 =>
    have e18 := hd 0 18 _ (by decide) (by kernel_rfl) rfl rfl
    replace e18 : T.getD 18 undef = _ := e18
    rw [if_pos (wanted_none _ rfl)]
    clear hd hB
    go_simp
    exact hK _ (Below.refl _ _)
  refine DetR.is (o := { dst := some 20, op := Op.load 3 (Operand.tmp 19), type := 3, pos := "term.go:108", after := #[{ on := 1, ground := Ground.data }], guard := none }) (u := ?ux3) rfl (by decide) (fun T w' hb hd hB K hK => ?sx3) ?rx3
  case sx3 =>
    have e19 := hd 1 19 _ (by decide) (by kernel_rfl) rfl rfl
    replace e19 : T.getD 19 undef = _ := e19
    rw [if_pos (wanted_none _ rfl)]
    have hi' := (hb.cell (cell_lt' hi)).trans hi
    clear hd hB
    go_simp
    exact hK _ (Below.refl _ _)
  refine DetR.is (o := { dst := some 21, op := Op.load 30 (Operand.tmp 3), type := 30, pos := "term.go:108", after := #[], guard := none }) (u := ?ux4) rfl (by decide) (fun T w' hb hd hB K hK => ?sx4) ?rx4
  case sx4 =>
    have e3 := (hB 3 (by kernel_rfl)).trans hT3
    have q3_0 : w'.cell? ⟨gt, 0, none⟩ = some (.int .i64 f) := (blk_cell (blk_below hX3 hb) 0).trans rfl
    have q3_1 : w'.cell? ⟨gt, 1, none⟩ = some (tl) := (blk_cell (blk_below hX3 hb) 1).trans rfl
    rw [if_pos (wanted_none _ rfl)]
    clear hd hB
    go_simp
    exact hK _ (Below.refl _ _)
  refine DetR.cons (o := { dst := some 22, op := Op.call { callee := Callee.value (Operand.func 74), args := #[Operand.tmp 21], argTypes := #[30] }, type := 28, pos := "term.go:108", after := #[{ on := 3, ground := Ground.data }], guard := none }) (fun u w => Kd.V k30 30 w 0 P u ps) rfl (by decide) (fun _ _ _ h hb => Kd.V_below h hb) (fun T w' hb hd hB K hK => ?sx5) ?rx5
  case sx5 =>
    have e21 := hd 3 21 _ (by decide) (by kernel_rfl) rfl rfl
    replace e21 : T.getD 21 undef = _ := e21
    rw [if_pos (wanted_none _ rfl)]
    have hcl := hF w' hb
    clear hd hB
    go_simp
    go_at_call 74
    refine hcl.mono ?_
    rintro e w2 ⟨u, rfl, h1, h2⟩
    exact hK _ _ h2 h1
  refine DetR.is (o := { dst := some 8, op := Op.assign (Operand.tmp 20), type := 3, pos := "term.go:108", after := #[{ on := 2, ground := Ground.data }, { on := 4, ground := Ground.chain }, { on := 0, ground := Ground.phase }, { on := 1, ground := Ground.phase }, { on := 2, ground := Ground.phase }, { on := 3, ground := Ground.textOnly Departure.lateStores }, { on := 4, ground := Ground.textOnly Departure.lateStoresUnsure }], guard := none }) (u := ?ux6) rfl (by decide) (fun T w' hb hd hB K hK => ?sx6) ?rx6
  case sx6 =>
    have e20 := hd 2 20 _ (by decide) (by kernel_rfl) rfl rfl
    replace e20 : T.getD 20 undef = _ := e20
    rw [if_pos (wanted_none _ rfl)]
    clear hd hB
    go_simp
    exact hK _ (Below.refl _ _)
  refine DetR.cons (o := { dst := some 9, op := Op.assign (Operand.tmp 22), type := 28, pos := "term.go:108", after := #[{ on := 4, ground := Ground.data }, { on := 5, ground := Ground.chain }, { on := 0, ground := Ground.phase }, { on := 1, ground := Ground.phase }, { on := 2, ground := Ground.phase }, { on := 3, ground := Ground.phase }, { on := 4, ground := Ground.phase }, { on := 5, ground := Ground.phase }], guard := none }) (fun u w => Kd.V k30 30 w 0 P u ps) rfl (by decide) (fun _ _ _ h hb => Kd.V_below h hb) (fun T w' hb hd hB K hK => ?sx7) ?rx7
  case sx7 =>
    obtain h22 := (hd 4 22 _ (by decide) (by kernel_rfl) rfl rfl)
    rw [if_pos (wanted_none _ rfl)]
    clear hd hB
    go_simp
    exact hK _ _ (Below.refl _ _) (by rw [← Array.getD_eq_getD_getElem?]; exact h22)
  refine DetR.done [some 18, some 19, some 20, some 21, some 22, some 8, some 9] (by kernel_rfl) rfl (by kernel_rfl) ?_
  intro v w' hb hv
  exact hK v w' hb (hv 5 _ (by decide) rfl) (hv 6 _ (by decide) rfl)
set_option maxHeartbeats 4000000 in
set_option maxRecDepth 100000 in
theorem Put_r6 {id : Nat} {a : Act} {w : World} {Q : Exit → Act → World → Prop} {i : Int} {gu n c cu cp c1 : Nat} {x u r : S30} {b : Bool} {ad Ap : Addr} {Au A1 : Option Addr} {p q : List Int} {P : Nat → Prop}
    (hr : regionOk #[{ dst := some 33, op := Op.move (Operand.tmp 9), type := 28, pos := "term.go:112", after := #[], guard := none }, { dst := some 34, op := Op.move (Operand.tmp 8), type := 3, pos := "term.go:112", after := #[], guard := none }, { dst := some 35, op := Op.indexAddr 28 (Operand.tmp 33) (Operand.tmp 34), type := 0, pos := "term.go:112", after := #[{ on := 0, ground := Ground.data }, { on := 1, ground := Ground.data }], guard := none }, { dst := some 36, op := Op.load 30 (Operand.tmp 35), type := 30, pos := "term.go:112", after := #[{ on := 2, ground := Ground.data }], guard := none }, { dst := some 37, op := Op.move (Operand.tmp 1), type := 25, pos := "term.go:112", after := #[], guard := none }, { dst := some 38, op := Op.slice 25 (Operand.tmp 37) (some (Operand.const (Value.int IntKind.i64 1))) none none, type := 25, pos := "term.go:112", after := #[{ on := 4, ground := Ground.data }], guard := none }, { dst := some 39, op := Op.load 30 (Operand.tmp 5), type := 30, pos := "term.go:112", after := #[], guard := none }, { dst := some 40, op := Op.call { callee := Callee.value (Operand.func 30), args := #[Operand.tmp 36, Operand.tmp 38, Operand.tmp 39], argTypes := #[30, 25, 30] }, type := 37, pos := "term.go:112", after := #[{ on := 3, ground := Ground.data }, { on := 5, ground := Ground.data }, { on := 6, ground := Ground.data }], guard := none }, { dst := some 32, op := Op.move (Operand.tmp 40), type := 37, pos := "term.go:112", after := #[{ on := 7, ground := Ground.data }], guard := none }, { dst := some 41, op := Op.extract (Operand.tmp 32) 0, type := 30, pos := "term.go:112", after := #[{ on := 8, ground := Ground.data }], guard := none }, { dst := some 42, op := Op.extract (Operand.tmp 32) 1, type := 4, pos := "term.go:112", after := #[{ on := 8, ground := Ground.data }, { on := 12, ground := Ground.gcOnly Departure.lateStores }], guard := none }, { dst := some 10, op := Op.alloc 30, type := 0, pos := "term.go:112", after := #[], guard := none }, { dst := none, op := Op.store 30 (Operand.tmp 10) (Operand.tmp 41), type := 0, pos := "term.go:112", after := #[{ on := 11, ground := Ground.data }, { on := 9, ground := Ground.data }, { on := 7, ground := Ground.chain }, { on := 0, ground := Ground.phase }, { on := 1, ground := Ground.phase }, { on := 2, ground := Ground.phase }, { on := 3, ground := Ground.phase }, { on := 4, ground := Ground.phase }, { on := 5, ground := Ground.phase }, { on := 6, ground := Ground.phase }, { on := 7, ground := Ground.phase }, { on := 8, ground := Ground.phase }, { on := 9, ground := Ground.phase }, { on := 10, ground := Ground.textOnly Departure.lateStores }, { on := 11, ground := Ground.phase }], guard := none }, { dst := some 11, op := Op.assign (Operand.tmp 42), type := 4, pos := "term.go:112", after := #[{ on := 10, ground := Ground.data }, { on := 12, ground := Ground.chain }, { on := 0, ground := Ground.phase }, { on := 1, ground := Ground.phase }, { on := 2, ground := Ground.phase }, { on := 3, ground := Ground.phase }, { on := 4, ground := Ground.phase }, { on := 5, ground := Ground.phase }, { on := 6, ground := Ground.phase }, { on := 7, ground := Ground.phase }, { on := 8, ground := Ground.phase }, { on := 9, ground := Ground.phase }, { on := 10, ground := Ground.phase }, { on := 11, ground := Ground.phase }, { on := 12, ground := Ground.phase }], guard := none }] a.tmps.size = true)
    (hT9 : a.tmps.getD 9 undef = .slice (some ad) n c)
    (hT8 : a.tmps.getD 8 undef = .int .i64 i)
    (hT1 : a.tmps.getD 1 undef = .slice (some Ap) p.length cp)
    (hT5 : a.tmps.getD 5 undef = .pointer (some ⟨gu, 0, none⟩)) (hX5 : w.heap[gu]? = some (.cells #[.int .i64 u.f0, .slice Au u.f1.length cu] 30 (0, 0)))
    (hpq : Aside0 (q = p.tail)) (hi : 0 ≤ i ∧ i < n) (hc0 : w.cell? (ad.add (i.toNat * 2)) = some (.int .i64 x.f0)) (hc1 : w.cell? ⟨(ad.add (i.toNat * 2)).block, (ad.add (i.toNat * 2)).off + 1, none⟩ = some (.slice A1 x.f1.length c1)) (hp : 0 < p.length) (hpc : p.length ≤ cp) (hip : Kd.C (Kd.int .i64) w (some Ap) p.length p)
    (hF : ∀ w1 A c2, Below w.heap.size w w1 → q.length ≤ c2 → Kd.C (Kd.int .i64) w1 A q.length q → Calls Try.prog 30 #[.agg #[.int .i64 x.f0, .slice A1 x.f1.length c1], .slice A q.length c2, .agg #[.int .i64 u.f0, .slice Au u.f1.length cu]] w1 fun e w2 => ∃ A' c', e = .returned (.tuple #[.agg #[.int .i64 r.f0, .slice A' r.f1.length c'], .bool b]) ∧ r.f1.length ≤ c' ∧ Kd.F k30 w2 (fun k => (k < w.heap.size ∧ P k) ∨ w1.heap.size ≤ k) A' r.f1.length r.f1 ∧ Below w1.heap.size w1 w2)
    (hK : ∀ v w' g A' c', Below w.heap.size w w' → v 13 = .bool b → v 11 = .pointer (some ⟨g, 0, none⟩) → w.heap.size ≤ g → w'.heap[g]? = some (.cells #[.int .i64 r.f0, .slice A' r.f1.length c'] 30 (0, 0)) → r.f1.length ≤ c' → Kd.F k30 w' (fun k => ((k < w.heap.size ∧ P k) ∨ w.heap.size ≤ k) ∧ k ≠ g) A' r.f1.length r.f1 → Q .normal { tmps := layL [some 33, some 34, some 35, some 36, some 37, some 38, some 39, some 40, some 32, some 41, some 42, some 10, none, some 11] 0 v a.tmps, defers := a.defers } w') :
    (Code.region id #[{ dst := some 33, op := Op.move (Operand.tmp 9), type := 28, pos := "term.go:112", after := #[], guard := none }, { dst := some 34, op := Op.move (Operand.tmp 8), type := 3, pos := "term.go:112", after := #[], guard := none }, { dst := some 35, op := Op.indexAddr 28 (Operand.tmp 33) (Operand.tmp 34), type := 0, pos := "term.go:112", after := #[{ on := 0, ground := Ground.data }, { on := 1, ground := Ground.data }], guard := none }, { dst := some 36, op := Op.load 30 (Operand.tmp 35), type := 30, pos := "term.go:112", after := #[{ on := 2, ground := Ground.data }], guard := none }, { dst := some 37, op := Op.move (Operand.tmp 1), type := 25, pos := "term.go:112", after := #[], guard := none }, { dst := some 38, op := Op.slice 25 (Operand.tmp 37) (some (Operand.const (Value.int IntKind.i64 1))) none none, type := 25, pos := "term.go:112", after := #[{ on := 4, ground := Ground.data }], guard := none }, { dst := some 39, op := Op.load 30 (Operand.tmp 5), type := 30, pos := "term.go:112", after := #[], guard := none }, { dst := some 40, op := Op.call { callee := Callee.value (Operand.func 30), args := #[Operand.tmp 36, Operand.tmp 38, Operand.tmp 39], argTypes := #[30, 25, 30] }, type := 37, pos := "term.go:112", after := #[{ on := 3, ground := Ground.data }, { on := 5, ground := Ground.data }, { on := 6, ground := Ground.data }], guard := none }, { dst := some 32, op := Op.move (Operand.tmp 40), type := 37, pos := "term.go:112", after := #[{ on := 7, ground := Ground.data }], guard := none }, { dst := some 41, op := Op.extract (Operand.tmp 32) 0, type := 30, pos := "term.go:112", after := #[{ on := 8, ground := Ground.data }], guard := none }, { dst := some 42, op := Op.extract (Operand.tmp 32) 1, type := 4, pos := "term.go:112", after := #[{ on := 8, ground := Ground.data }, { on := 12, ground := Ground.gcOnly Departure.lateStores }], guard := none }, { dst := some 10, op := Op.alloc 30, type := 0, pos := "term.go:112", after := #[], guard := none }, { dst := none, op := Op.store 30 (Operand.tmp 10) (Operand.tmp 41), type := 0, pos := "term.go:112", after := #[{ on := 11, ground := Ground.data }, { on := 9, ground := Ground.data }, { on := 7, ground := Ground.chain }, { on := 0, ground := Ground.phase }, { on := 1, ground := Ground.phase }, { on := 2, ground := Ground.phase }, { on := 3, ground := Ground.phase }, { on := 4, ground := Ground.phase }, { on := 5, ground := Ground.phase }, { on := 6, ground := Ground.phase }, { on := 7, ground := Ground.phase }, { on := 8, ground := Ground.phase }, { on := 9, ground := Ground.phase }, { on := 10, ground := Ground.textOnly Departure.lateStores }, { on := 11, ground := Ground.phase }], guard := none }, { dst := some 11, op := Op.assign (Operand.tmp 42), type := 4, pos := "term.go:112", after := #[{ on := 10, ground := Ground.data }, { on := 12, ground := Ground.chain }, { on := 0, ground := Ground.phase }, { on := 1, ground := Ground.phase }, { on := 2, ground := Ground.phase }, { on := 3, ground := Ground.phase }, { on := 4, ground := Ground.phase }, { on := 5, ground := Ground.phase }, { on := 6, ground := Ground.phase }, { on := 7, ground := Ground.phase }, { on := 8, ground := Ground.phase }, { on := 9, ground := Ground.phase }, { on := 10, ground := Ground.phase }, { on := 11, ground := Ground.phase }, { on := 12, ground := Ground.phase }], guard := none }] true).wp Try.prog Q a w := by
  have hmx : Try.prog.follows .mixedOrders = true := by kernel_rfl
  have hJo : ∀ i, i ∉ [5, 7, 8, 9, 11, 12] → ∀ v d (w1 w2 : World) u, (RetJ w.heap.size 30 [(5, RowF (Kd.int .i64) q (fun k => k < w.heap.size)), (7, TupF k30 r b (fun k => (k < w.heap.size ∧ P k) ∨ w.heap.size ≤ k)), (8, TupF k30 r b (fun k => (k < w.heap.size ∧ P k) ∨ w.heap.size ≤ k)), (9, TermF k30 r (fun k => (k < w.heap.size ∧ P k) ∨ w.heap.size ≤ k))] 11 12 9) v d w1 → d i = false → Below w1.heap.size w1 w2 → (RetJ w.heap.size 30 [(5, RowF (Kd.int .i64) q (fun k => k < w.heap.size)), (7, TupF k30 r b (fun k => (k < w.heap.size ∧ P k) ∨ w.heap.size ≤ k)), (8, TupF k30 r b (fun k => (k < w.heap.size ∧ P k) ∨ w.heap.size ≤ k)), (9, TermF k30 r (fun k => (k < w.heap.size ∧ P k) ∨ w.heap.size ≤ k))] 11 12 9) (upd v i u) (upd d i true) w2 := fun i hi v d w1 w2 u h hd hb => RetJ.val h hd (fun e => hi (by simp [← e])) (fun e => hi (by simp [← e])) hb (fun q hq e => absurd (by simp only [List.mem_cons, List.not_mem_nil, or_false] at hq; rcases hq with rfl | rfl | rfl | rfl <;> simp [← e]) hi)
  refine region_detJ (fun _ _ => True) (RetJ w.heap.size 30 [(5, RowF (Kd.int .i64) q (fun k => k < w.heap.size)), (7, TupF k30 r b (fun k => (k < w.heap.size ∧ P k) ∨ w.heap.size ≤ k)), (8, TupF k30 r b (fun k => (k < w.heap.size ∧ P k) ∨ w.heap.size ≤ k)), (9, TermF k30 r (fun k => (k < w.heap.size ∧ P k) ∨ w.heap.size ≤ k))] 11 12 9) 14 (trivial) (fun v => RetJ.start w.drew (Nat.le_refl w.heap.size) v) hmx hr rfl ?_
  refine DetJ.is (o := { dst := some 33, op := Op.move (Operand.tmp 9), type := 28, pos := "term.go:112", after := #[], guard := none }) (u := ?ux8) (fun _ _ _ => trivial) [5, 7, 8, 9, 11, 12] hJo rfl (by decide) (by decide) (fun T w' hb hd hB K hK => ?sx8) ?rx8
  case sx8 =>
    have e9 := (hB 9 (by kernel_rfl)).trans hT9
    rw [if_pos (wanted_none _ rfl)]
    clear hd hB
    go_simp
    exact hK _ (Below.refl _ _)
  refine DetJ.is (o := { dst := some 34, op := Op.move (Operand.tmp 8), type := 3, pos := "term.go:112", after := #[], guard := none }) (u := ?ux9) (fun _ _ _ => trivial) [5, 7, 8, 9, 11, 12] hJo rfl (by decide) (by decide) (fun T w' hb hd hB K hK => ?sx9) ?rx9
  case sx9 =>
    have e8 := (hB 8 (by kernel_rfl)).trans hT8
    rw [if_pos (wanted_none _ rfl)]
    clear hd hB
    go_simp
    exact hK _ (Below.refl _ _)
  refine DetJ.is (o := { dst := some 35, op := Op.indexAddr 28 (Operand.tmp 33) (Operand.tmp 34), type := 0, pos := "term.go:112", after := #[{ on := 0, ground := Ground.data }, { on := 1, ground := Ground.data }], guard := none }) (u := .pointer (some (ad.add (i.toNat * 2)))) (fun _ _ _ => trivial) [5, 7, 8, 9, 11, 12] hJo rfl (by decide) (by decide) (fun T w' hb hd hB K hK => ?sx10) ?rx10
  case sx10 =>
    have e33 := hd 0 33 _ (by decide) (by kernel_rfl) rfl rfl
    replace e33 : T.getD 33 undef = _ := e33
    have e34 := hd 1 34 _ (by decide) (by kernel_rfl) rfl rfl
    replace e34 : T.getD 34 undef = _ := e34
    rw [if_pos (wanted_none _ rfl)]
    have hi0 := hi.1
    have hi1 := hi.2
    clear hd hB
    go_simp
    exact hK _ (Below.refl _ _)
  refine DetJ.is (o := { dst := some 36, op := Op.load 30 (Operand.tmp 35), type := 30, pos := "term.go:112", after := #[{ on := 2, ground := Ground.data }], guard := none }) (u := ?ux11) (fun _ _ _ => trivial) [5, 7, 8, 9, 11, 12] hJo rfl (by decide) (by decide) (fun T w' hb hd hB K hK => ?sx11) ?rx11
  case sx11 =>
    have e35 := hd 2 35 _ (by decide) (by kernel_rfl) rfl rfl
    replace e35 : T.getD 35 undef = _ := e35
    rw [if_pos (wanted_none _ rfl)]
    have hc0' := (hb.cell (cell_lt' hc0)).trans hc0
    have hc1' := (hb.cell (cell_lt' hc1)).trans hc1
    clear hd hB
    go_simp
    exact hK _ (Below.refl _ _)
  refine DetJ.is (o := { dst := some 37, op := Op.move (Operand.tmp 1), type := 25, pos := "term.go:112", after := #[], guard := none }) (u := ?ux12) (fun _ _ _ => trivial) [5, 7, 8, 9, 11, 12] hJo rfl (by decide) (by decide) (fun T w' hb hd hB K hK => ?sx12) ?rx12
  case sx12 =>
    have e1 := (hB 1 (by kernel_rfl)).trans hT1
    rw [if_pos (wanted_none _ rfl)]
    clear hd hB
    go_simp
    exact hK _ (Below.refl _ _)
  refine DetJ.cons (o := { dst := some 38, op := Op.slice 25 (Operand.tmp 37) (some (Operand.const (Value.int IntKind.i64 1))) none none, type := 25, pos := "term.go:112", after := #[{ on := 4, ground := Ground.data }], guard := none }) (fun _ _ => True) rfl (by decide) (fun _ _ _ _ _ => trivial) (fun v d T w' hb hj hd0 hd hdd hB K hK => ?sx13) ?rx13
  case sx13 =>
    have e37 := hd 4 37 _ (by decide) (by kernel_rfl) rfl rfl
    replace e37 : T.getD 37 undef = _ := e37
    rw [if_pos (wanted_none _ rfl)]
    have hpq1 : (1 : Int) ≤ p.length := by omega
    have hC1 : Kd.C (Kd.int .i64) w (if cp = 1 then some Ap else some ⟨Ap.block, Ap.off + 1, none⟩) q.length q := by have := Kd.C_drop hip (m := 1) (by omega) hpc; rw [List.drop_one, ← hpq.out] at this; exact this
    have hql : q.length = p.length - 1 := by rw [hpq.out, List.length_tail]
    have hfp : (RowF (Kd.int .i64) q (fun k => k < w.heap.size)).p (fun k => okF 11 v d k ∨ w'.heap.size ≤ k) (.slice (if cp = 1 then some Ap else some ⟨Ap.block, Ap.off + 1, none⟩) (p.length - 1) (cp - 1)) w' := ⟨_, _, by rw [hql], by omega, Kd.F_mono (F_old (Kd.heap_int .i64) hC1 hb) (fun k hk => ⟨.inl (RetJ.old hj hk), hk⟩)⟩
    have hfp' := Aside0.mk hfp
    have hd0' := Aside0.mk hd0
    clear hC1 hfp hd0 hql
    clear hd hdd hB
    go_simp
    exact hK _ _ trivial hb trivial (RetJ.val hj hd0'.out (by decide) (by decide) (Below.refl _ _) (fun q hq e => by simp only [List.mem_cons, List.not_mem_nil, or_false] at hq; rcases hq with rfl | rfl | rfl | rfl <;> first | exact hfp'.out | exact absurd e (by simp)))
  refine DetJ.is (o := { dst := some 39, op := Op.load 30 (Operand.tmp 5), type := 30, pos := "term.go:112", after := #[], guard := none }) (u := ?ux14) (fun _ _ _ => trivial) [5, 7, 8, 9, 11, 12] hJo rfl (by decide) (by decide) (fun T w' hb hd hB K hK => ?sx14) ?rx14
  case sx14 =>
    have e5 := (hB 5 (by kernel_rfl)).trans hT5
    have q5_0 : w'.cell? ⟨gu, 0, none⟩ = some (.int .i64 u.f0) := (blk_cell (blk_below hX5 hb) 0).trans rfl
    have q5_1 : w'.cell? ⟨gu, 1, none⟩ = some (.slice Au u.f1.length cu) := (blk_cell (blk_below hX5 hb) 1).trans rfl
    rw [if_pos (wanted_none _ rfl)]
    clear hd hB
    go_simp
    exact hK _ (Below.refl _ _)
  refine DetJ.cons (o := { dst := some 40, op := Op.call { callee := Callee.value (Operand.func 30), args := #[Operand.tmp 36, Operand.tmp 38, Operand.tmp 39], argTypes := #[30, 25, 30] }, type := 37, pos := "term.go:112", after := #[{ on := 3, ground := Ground.data }, { on := 5, ground := Ground.data }, { on := 6, ground := Ground.data }], guard := none }) (fun _ _ => True) rfl (by decide) (fun _ _ _ _ _ => trivial) (fun v d T w' hb hj hd0 hd hdd hB K hK => ?sx15) ?rx15
  case sx15 =>
    have e36 := hd 3 36 _ (by decide) (by kernel_rfl) rfl rfl
    replace e36 : T.getD 36 undef = _ := e36
    have e38 := (hdd 5 (by kernel_rfl)).2 38 rfl
    have e39 := hd 6 39 _ (by decide) (by kernel_rfl) rfl rfl
    replace e39 : T.getD 39 undef = _ := e39
    rw [if_pos (wanted_none _ rfl)]
    have xq5 := (hdd 5 (by kernel_rfl)).1
    obtain ⟨Aq5, cq5, yq5, hlq5, hFq5⟩ := hj.2.1 (5, RowF (Kd.int .i64) q (fun k => k < w.heap.size)) (by simp) xq5
    replace e38 := e38.trans yq5
    have hcl := hF w' Aq5 cq5 hb hlq5 (Kd.F_now hFq5)
    clear hd hdd hB
    go_simp
    go_at_call 30
    refine hcl.mono ?_
    rintro e w2 ⟨A', c', rfl, hl', hF', hb'⟩
    have hfp : (TupF k30 r b (fun k => (k < w.heap.size ∧ P k) ∨ w.heap.size ≤ k)).p (fun k => okF 11 v d k ∨ w'.heap.size ≤ k) (.tuple #[.agg #[.int .i64 r.f0, .slice A' r.f1.length c'], .bool b]) w2 := ⟨_, _, rfl, hl', Kd.F_mono hF' (fun k hk => ⟨hk.elim (fun h => .inl (RetJ.old hj h.1)) .inr, hk.elim .inl (fun h => .inr (Nat.le_trans hj.1 h))⟩)⟩
    exact hK _ _ trivial (hb.trans (hb'.mono hb.size)) trivial (RetJ.val hj hd0 (by decide) (by decide) hb' (fun q hq e => by simp only [List.mem_cons, List.not_mem_nil, or_false] at hq; rcases hq with rfl | rfl | rfl | rfl <;> first | exact hfp | exact absurd e (by simp)))
  refine DetJ.cons (o := { dst := some 32, op := Op.move (Operand.tmp 40), type := 37, pos := "term.go:112", after := #[{ on := 7, ground := Ground.data }], guard := none }) (fun _ _ => True) rfl (by decide) (fun _ _ _ _ _ => trivial) (fun v d T w' hb hj hd0 hd hdd hB K hK => ?sx16) ?rx16
  case sx16 =>
    have e40 := (hdd 7 (by kernel_rfl)).2 40 rfl
    rw [if_pos (wanted_none _ rfl)]
    have xc := (hdd 7 (by kernel_rfl)).1
    obtain ⟨Ac, cc, yc, hlc, hFc⟩ := hj.2.1 (7, TupF k30 r b (fun k => (k < w.heap.size ∧ P k) ∨ w.heap.size ≤ k)) (by simp) xc
    replace e40 := e40.trans yc
    clear hd hdd hB
    go_simp
    exact hK _ _ trivial hb trivial (RetJ.val hj hd0 (by decide) (by decide) (Below.refl _ _) (fun q hq e => by simp only [List.mem_cons, List.not_mem_nil, or_false] at hq; rcases hq with rfl | rfl | rfl | rfl <;> first | exact ⟨_, _, rfl, hlc, Kd.F_mono hFc (fun k hk => ⟨.inl hk.1, hk.2⟩)⟩ | exact absurd e (by simp)))
  refine DetJ.cons (o := { dst := some 41, op := Op.extract (Operand.tmp 32) 0, type := 30, pos := "term.go:112", after := #[{ on := 8, ground := Ground.data }], guard := none }) (fun _ _ => True) rfl (by decide) (fun _ _ _ _ _ => trivial) (fun v d T w' hb hj hd0 hd hdd hB K hK => ?sx17) ?rx17
  case sx17 =>
    have e32 := (hdd 8 (by kernel_rfl)).2 32 rfl
    rw [if_pos (wanted_none _ rfl)]
    have xc := (hdd 8 (by kernel_rfl)).1
    obtain ⟨Ac, cc, yc, hlc, hFc⟩ := hj.2.1 (8, TupF k30 r b (fun k => (k < w.heap.size ∧ P k) ∨ w.heap.size ≤ k)) (by simp) xc
    replace e32 := e32.trans yc
    clear hd hdd hB
    go_simp
    exact hK _ _ trivial hb trivial (RetJ.val hj hd0 (by decide) (by decide) (Below.refl _ _) (fun q hq e => by simp only [List.mem_cons, List.not_mem_nil, or_false] at hq; rcases hq with rfl | rfl | rfl | rfl <;> first | exact ⟨_, _, rfl, hlc, Kd.F_mono hFc (fun k hk => ⟨.inl hk.1, hk.2⟩)⟩ | exact absurd e (by simp)))
  refine DetJ.cons (o := { dst := some 42, op := Op.extract (Operand.tmp 32) 1, type := 4, pos := "term.go:112", after := #[{ on := 8, ground := Ground.data }, { on := 12, ground := Ground.gcOnly Departure.lateStores }], guard := none }) (Told.is (.bool b)) rfl (by decide) (fun _ _ _ h _ => h) (fun v d T w' hb hj hd0 hd hdd hB K hK => ?sx18) ?rx18
  case sx18 =>
    have e32 := (hdd 8 (by kernel_rfl)).2 32 rfl
    rw [if_pos (wanted_none _ rfl)]
    have xc := (hdd 8 (by kernel_rfl)).1
    obtain ⟨Ac, cc, yc, hlc, hFc⟩ := hj.2.1 (8, TupF k30 r b (fun k => (k < w.heap.size ∧ P k) ∨ w.heap.size ≤ k)) (by simp) xc
    replace e32 := e32.trans yc
    clear hd hdd hB
    go_simp
    exact hK _ _ trivial hb rfl (RetJ.val hj hd0 (by decide) (by decide) (Below.refl _ _) (fun q hq e => by simp only [List.mem_cons, List.not_mem_nil, or_false] at hq; rcases hq with rfl | rfl | rfl | rfl <;> first | exact absurd e (by simp) | exact absurd e (by simp)))
  refine DetJ.cons (o := { dst := some 10, op := Op.alloc 30, type := 0, pos := "term.go:112", after := #[], guard := none }) (fun _ _ => True) rfl (by decide) (fun _ _ _ _ _ => trivial) (fun v d T w' hb hj hd0 hd hdd hB K hK => ?sx19) ?rx19
  case sx19 =>
    rw [if_pos (wanted_none _ rfl)]
    clear hd hdd hB
    go_simp
    exact hK _ _ trivial (below_alloc hb _) trivial (RetJ.alloc hj hd0 (by decide) (by decide) (by intro q hq; simp only [List.mem_cons, List.not_mem_nil, or_false] at hq; rcases hq with rfl | rfl | rfl | rfl <;> simp))
  refine DetJ.cons (o := { dst := none, op := Op.store 30 (Operand.tmp 10) (Operand.tmp 41), type := 0, pos := "term.go:112", after := #[{ on := 11, ground := Ground.data }, { on := 9, ground := Ground.data }, { on := 7, ground := Ground.chain }, { on := 0, ground := Ground.phase }, { on := 1, ground := Ground.phase }, { on := 2, ground := Ground.phase }, { on := 3, ground := Ground.phase }, { on := 4, ground := Ground.phase }, { on := 5, ground := Ground.phase }, { on := 6, ground := Ground.phase }, { on := 7, ground := Ground.phase }, { on := 8, ground := Ground.phase }, { on := 9, ground := Ground.phase }, { on := 10, ground := Ground.textOnly Departure.lateStores }, { on := 11, ground := Ground.phase }], guard := none }) (fun _ _ => True) rfl (by decide) (fun _ _ _ _ _ => trivial) (fun v d T w' hb hj hd0 hd hdd hB K hK => ?sx20) ?rx20
  case sx20 =>
    have e10 := (hdd 11 (by kernel_rfl)).2 10 rfl
    have e41 := (hdd 9 (by kernel_rfl)).2 41 rfl
    rw [if_pos (wanted_none _ rfl)]
    have ea := (hdd 11 (by kernel_rfl)).1
    have xx := (hdd 9 (by kernel_rfl)).1
    obtain ⟨Ax, cx, yx, hlx, hFx⟩ := hj.2.1 (9, TermF k30 r (fun k => (k < w.heap.size ∧ P k) ∨ w.heap.size ≤ k)) (by simp) xx
    have vx := (hdd 9 (by kernel_rfl)).2 41 rfl
    obtain ⟨g, va, hge, hlt, hbx⟩ := hj.2.2.1 ea
    rw [if_neg (by rw [hd0]; decide)] at hbx
    replace e10 := e10.trans va
    replace e41 := e41.trans yx
    have q0 : w'.cell? ⟨g, 0, none⟩ = some (.int .i64 0) := (blk_cell hbx 0).trans rfl
    have q1 : w'.cell? ⟨g, 1, none⟩ = some (.slice none 0 0) := (blk_cell hbx 1).trans rfl
    have z0 := blk_frozen hbx 0
    have z1 := blk_frozen hbx 1
    have hd0' := Aside0.mk hd0
    have yx' := Aside0.mk yx
    have va' := Aside0.mk va
    clear hd hdd hB vx hd0 yx va
    go_simp
    refine hK undef _ trivial ((hb.setCell hge _).setCell hge _) trivial (RetJ.store hj hd0'.out (by decide) (by decide) (by intro q hq; simp only [List.mem_cons, List.not_mem_nil, or_false] at hq; rcases hq with rfl | rfl | rfl | rfl <;> simp) ea xx va'.out ?_ (fun k hk => setCell2_far k hk) (by rw [setCell_size, setCell_size]))
    refine (blk_set (blk_set hbx 0 _) 1 _).trans ?_
    rw [yx'.out]
    rfl
  refine DetJ.is (o := { dst := some 11, op := Op.assign (Operand.tmp 42), type := 4, pos := "term.go:112", after := #[{ on := 10, ground := Ground.data }, { on := 12, ground := Ground.chain }, { on := 0, ground := Ground.phase }, { on := 1, ground := Ground.phase }, { on := 2, ground := Ground.phase }, { on := 3, ground := Ground.phase }, { on := 4, ground := Ground.phase }, { on := 5, ground := Ground.phase }, { on := 6, ground := Ground.phase }, { on := 7, ground := Ground.phase }, { on := 8, ground := Ground.phase }, { on := 9, ground := Ground.phase }, { on := 10, ground := Ground.phase }, { on := 11, ground := Ground.phase }, { on := 12, ground := Ground.phase }], guard := none }) (u := ?ux21) (fun _ _ _ => trivial) [5, 7, 8, 9, 11, 12] hJo rfl (by decide) (by decide) (fun T w' hb hd hB K hK => ?sx21) ?rx21
  case sx21 =>
    have e42 := hd 10 42 _ (by decide) (by kernel_rfl) rfl rfl
    replace e42 : T.getD 42 undef = _ := e42
    rw [if_pos (wanted_none _ rfl)]
    clear hd hB
    go_simp
    exact hK _ (Below.refl _ _)
  refine DetJ.done [some 33, some 34, some 35, some 36, some 37, some 38, some 39, some 40, some 32, some 41, some 42, some 10, none, some 11] (by kernel_rfl) rfl rfl ?_
  intro v d w' hb hv hall hj
  obtain ⟨g, A', c', h1, h2, h3, h4, h5⟩ := RetJ.box hj (x := r) (kd := k30) (by simp; rfl) (hall 11 (by decide)) (hall 12 (by decide)) (hall 9 (by decide))
  exact hK v w' g A' c' hb (hv 13 _ (by decide) rfl) h1 h2 h3 h4 h5
end Go.Proofs.Ytpfddihcikiofaa.P
end

section
namespace Go.Proofs.Ytpfddihcikiofaa.P
open Go.RowKit Go.Proofs.YtpfddihcikiofaaW.PrintWords Go.Proofs.YtpfddihcikiofaaW.PrintLast Go.Proofs.YtpfddihcikiofaaW.PrintMore
set_option linter.unusedVariables false
set_option linter.unusedSimpArgs false
def partsT (t : S30) : List S30 := if t.f0 < 0 then [] else t.f1
def putT : List Int → S30 → S30 → Option S30
  | [], _, u => some (cloneT u)
  | i :: q, t, u => if i < 0 ∨ ((partsT t).length : Int) ≤ i then none else (putT q (rd_T30 (partsT t) i) u).map fun x => ⟨t.f0, (cloneT t).f1.set i.toNat x⟩
theorem parts_f (t : S30) : term_parts.f t.f0 t.f1 = some (partsT t) := by
  unfold term_parts.f partsT
  split <;> rfl
theorem Clone_fit : ∀ t : S30, fit t → Ev (fun k => term_Clone.f k t.f0 t.f1) ((cloneT t).f0, (cloneT t).f1) := by
  refine S30.ind ?_
  intro f l ih hfit
  have key : ∀ q : List S30, q.length ≤ 1000000 → (∀ x ∈ q, Ev (fun k => term_Clone.f k x.f0 x.f1) ((cloneT x).f0, (cloneT x).f1)) → ∀ n i, q.length - i = n → i ≤ q.length → Ev (fun k => term_Clone.l0 k q (q.length : Int) (i : Int) f ((q.take i).map cloneT)) (f, q.map cloneT) := by
    intro q hq hx n
    induction n with
    | zero =>
      intro i hi hle
      refine Ev.step (f := fun _ => some (f, q.map cloneT)) (fun k => by rw [term_Clone.l0, if_neg (by omega), List.take_of_length_le (by omega)]) (Ev.now _)
    | succ n ihn =>
      intro i hi hle
      have hlt : i < q.length := by omega
      refine Ev.step (f := fun k => (term_Clone.f k q[i].f0 q[i].f1).bind fun t => if ((q.take i).map cloneT).length < 4398046511104 then term_Clone.l0 k q (q.length : Int) ((i + 1 : Nat) : Int) f ((q.take i).map cloneT ++ [(⟨t.1, t.2⟩ : S30)]) else none) (fun k => ?_) (Ev.bind (hx q[i] (List.getElem_mem hlt)) ?_)
      · rw [term_Clone.l0, if_pos (by omega), if_pos (by omega), if_pos (by omega), rdC_at q i hlt, wsucc i q.length hlt (by omega)]
      · simp only [List.length_map, List.length_take]
        simp only [if_pos (show min i q.length < 4398046511104 by omega)]
        have := ihn (i + 1) (by omega) (by omega)
        rw [List.take_succ_eq_append_getElem hlt, List.map_append] at this
        simp only [S30.eta]
        exact this
  by_cases hf : f < 0
  · refine Ev.step (f := fun k => term_Clone.l0 k [] (([] : List S30).length : Int) 0 f []) (fun k => ?_) ?_
    · rw [term_Clone.f]; simp [term_parts.f, hf]
    · have := key [] (by simp) (fun x hx => by cases hx) 0 0 rfl (by simp)
      simpa [cloneT, hf] using this
  · obtain ⟨hll, hsub⟩ := fit_sub hf hfit
    refine Ev.step (f := fun k => term_Clone.l0 k l (l.length : Int) 0 f []) (fun k => ?_) ?_
    · rw [term_Clone.f]; simp [term_parts.f, hf]
    · have := key l hll (fun x hx => ih x hx (hsub x hx)) l.length 0 rfl (by omega)
      simpa [cloneT, hf, cloneTs_eq] using this
theorem parts_clone (t : S30) : (cloneT t).f1 = (partsT t).map cloneT := by
  obtain ⟨f, l⟩ := t
  unfold partsT
  simp only [cloneT]
  split
  · rfl
  · rw [cloneTs_eq]
theorem fit_parts {t : S30} (h : fit t) : (partsT t).length ≤ 1000000 ∧ ∀ x ∈ partsT t, fit x := by
  obtain ⟨f, l⟩ := t
  unfold partsT
  by_cases hf : f < 0
  · simp [hf]
  · simp only [hf, if_false]
    exact fit_sub hf h
theorem seg_all {c seg : List Value} (h : c.length = seg.length) : c.take 0 ++ seg ++ c.drop (0 + seg.length) = seg := by
  rw [List.take_zero, List.nil_append, List.drop_of_length_le (by omega), List.append_nil]
def PutOk (p : List Int) : Prop := ∀ (t u : S30) (P : Nat → Prop) (A Ap Au : Option Addr) (c cp cu : Nat) (w : World), fit t → fit u → Kd.F k30 w P A t.f1.length t.f1 → t.f1.length ≤ c → Kd.C (Kd.int .i64) w Ap p.length p → p.length ≤ cp → Kd.F k30 w P Au u.f1.length u.f1 → u.f1.length ≤ cu →
  Calls Try.prog 30 #[.agg #[.int .i64 t.f0, .slice A t.f1.length c], .slice Ap p.length cp, .agg #[.int .i64 u.f0, .slice Au u.f1.length cu]] w fun e w' => ∃ A' c', e = .returned (.tuple #[.agg #[.int .i64 ((putT p t u).getD ⟨0, []⟩).f0, .slice A' ((putT p t u).getD ⟨0, []⟩).f1.length c'], .bool (putT p t u).isSome]) ∧ ((putT p t u).getD ⟨0, []⟩).f1.length ≤ c' ∧
    Kd.F k30 w' (fun k => P k ∨ w.heap.size ≤ k) A' ((putT p t u).getD ⟨0, []⟩).f1.length ((putT p t u).getD ⟨0, []⟩).f1 ∧ Below w.heap.size w w'
set_option maxHeartbeats 4000000 in
set_option maxRecDepth 100000 in
theorem Put_nil : PutOk [] := by
  intro t u P A Ap Au c cp cu w hft hfu hF hc hC hcp hFu hcu
  obtain ⟨kc, hcl⟩ := (Clone_fit u hfu).rounds
  have hb3 : Below w.heap.size w (((w.alloc (.cells #[.int .i64 t.f0, .slice A t.f1.length c] 30)).alloc (.cells #[.int .i64 u.f0, .slice Au u.f1.length cu] 30)).alloc (.cells #[.int .i64 0, .slice none 0 0] 30)) := below_alloc (below_alloc (below_alloc (Below.refl _ _) _) _) _
  have hcall := Aside0.mk (term_Clone.calls kc u.f0 Au cu u.f1 (cloneT u).f0 (cloneT u).f1 _ (Kd.C_below (Kd.F_now hFu) hb3) hcu hcl)
  have hbz := Aside0.mk hb3
  have hbx := heap_alloc_new ((w.alloc (.cells #[.int .i64 t.f0, .slice A t.f1.length c] 30)).alloc (.cells #[.int .i64 u.f0, .slice Au u.f1.length cu] 30)) (.cells #[.int .i64 0, .slice none 0 0] 30)
  rw [World.size_alloc, World.size_alloc] at hbx
  have hbxz := Aside0.mk hbx
  clear hft hfu hF hC hFu hcl hb3 hbx
  simp only [putT, Option.getD_some, Option.isSome_some, List.length_nil]
  go_enter Try.func30, Try.ntmps30
  go_wp2_with (go_at_call 38; refine hcall.out.mono ?_; rintro e w4 ⟨v1, rfl, hR, hb4⟩; obtain ⟨A1, c1, hv1⟩ := Kd.R_slice hR; subst hv1; have hbx4 := blk_below hbxz.out hb4; have q0 : w4.cell? ⟨w.heap.size + 1 + 1, 0, none⟩ = some (.int .i64 0) := (blk_cell hbx4 0).trans rfl; have q1 : w4.cell? ⟨w.heap.size + 1 + 1, 1, none⟩ = some (.slice none 0 0) := (blk_cell hbx4 1).trans rfl; have z0 := blk_frozen hbx4 0; have z1 := blk_frozen hbx4 1; have HR := Aside0.mk hR; have HX := Aside0.mk hbx4; have HB4 := Aside0.mk hb4; clear hR hb4 hbx4)
  have hset := blk_set (blk_set HX.out 0 (.int .i64 (cloneT u).f0)) 1 (.slice A1 (cloneT u).f1.length c1)
  have hg : w.heap.size ≤ w.heap.size + 1 + 1 := by omega
  have hbig : w.heap.size + 1 + 1 < (((w.alloc (.cells #[.int .i64 t.f0, .slice A t.f1.length c] 30)).alloc (.cells #[.int .i64 u.f0, .slice Au u.f1.length cu] 30)).alloc (.cells #[.int .i64 0, .slice none 0 0] 30)).heap.size := by simp
  have hV := Kd.V_F (Kd.R_V (base' := 0) (Kd.R_bound HR.out))
  have hV2 := Kd.F_step (W1 := (w4.setCell ⟨w.heap.size + 1 + 1, 0, none⟩ (.int .i64 (cloneT u).f0)).setCell ⟨w.heap.size + 1 + 1, 1, none⟩ (.slice A1 (cloneT u).f1.length c1)) hV (fun k hk hlt => setCell2_far k (by have := hk.2.1; omega))
  have hl1 := (Kd.R_reads' HR.out).2.1
  refine bodyPost_ret (results_ct rfl _ _ (w.heap.size + 1 + 1) 30 #[.int .i64 (cloneT u).f0, .slice A1 (cloneT u).f1.length c1] (0, 0) _ rfl hset Try.underlying30 rfl (by kernel_rfl)) rfl ?_
  exact ⟨A1, c1, rfl, hl1, Kd.F_mono hV2 (fun k hk => .inr (by have := hk.2.1; omega)), below_set2 (hbz.out.trans (HB4.out.mono hbz.out.size)) hg⟩
theorem T_storeN {base g n cap : Nat} {ok okp : Nat → Prop} {W : World} {xs : List S30} (h : Kd.N k30 30 W base ok (.slice (some ⟨g, 0, none⟩) n cap) xs) (i : Nat) (hi : i < n) {x' : S30} {A : Option Addr} {c : Nat} (hc : x'.f1.length ≤ c)
    (hx : Kd.F k30 W okp A x'.f1.length x'.f1) (hok : ∀ k, okp k → ok k ∧ k ≠ g) : Kd.N k30 30 ((W.setCell ⟨g, i * 2, none⟩ (.int .i64 x'.f0)).setCell ⟨g, i * 2 + 1, none⟩ (.slice A x'.f1.length c)) base ok (.slice (some ⟨g, 0, none⟩) n cap) (xs.set i x') := by
  obtain ⟨c0, hcl, _, hcc, _⟩ := Kd.N_elem h z30 (i : Int) (by omega) (by omega)
  have h2 := (Kd.N_seg h (i : Int) (by omega) (by omega) (c := c0) (seg := [.int .i64 x'.f0, .slice A x'.f1.length c]) (j := 0) hcl hcc (by show 0 + 2 ≤ 2; omega) (x' := x') (by rw [seg_all (by show c0.length = 2; exact hcl)]; exact k30_mkF W okp x' hc hx) hok).1
  rw [Int.toNat_natCast] at h2
  exact h2
set_option maxHeartbeats 8000000 in
set_option maxRecDepth 100000 in
theorem Put_cons (i : Int) (q : List Int) (ih : PutOk q) : PutOk (i :: q) := by
  intro t u P A Ap Au c cp cu w hft hfu hF hc hC hcp hFu hcu
  obtain ⟨ad, rfl, hi0⟩ : ∃ ad, Ap = some ad ∧ w.cell? ad = some (.int .i64 i) := by
    obtain ⟨_, _, h3⟩ := hC
    obtain ⟨ad, e, h4⟩ := h3 (by simp)
    obtain ⟨cc, h5, h6, h7⟩ := h4 0 i rfl
    refine ⟨ad, e, ?_⟩
    have h8 := h7 0 (.int .i64 i) (by have h9 : cc = [.int .i64 i] := h6; rw [h9]; rfl)
    exact h8
  obtain ⟨p, hp⟩ : ∃ p, p = i :: q := ⟨_, rfl⟩
  have hpl : 0 < p.length := by rw [hp]; simp
  have hpl2 : ((p.length : Int) == 0) = false := by rw [beq_eq_false_iff_ne]; omega
  have hpm := hC.2.1
  rw [← hp] at hC hcp hpm ⊢
  have hps := parts_f t
  obtain ⟨ps, hpse⟩ : ∃ ps, ps = partsT t := ⟨_, rfl⟩
  have hput : putT p t u = if i < 0 ∨ (ps.length : Int) ≤ i then none else (putT q (rd_T30 ps i) u).map fun x => ⟨t.f0, (cloneT t).f1.set i.toNat x⟩ := by rw [hp, hpse]; rfl
  rw [← hpse] at hps
  have hfps := fit_parts hft
  rw [← hpse] at hfps
  have hclen : (cloneT t).f1.length = ps.length := by rw [parts_clone, ← hpse, List.length_map]
  have hb3 : Below w.heap.size w (((w.alloc (.cells #[.int .i64 t.f0, .slice A t.f1.length c] 30)).alloc (.cells #[.int .i64 u.f0, .slice Au u.f1.length cu] 30)).alloc (.cells #[.int .i64 0, .slice none 0 0] 30)) := below_alloc (below_alloc (below_alloc (Below.refl _ _) _) _) _
  obtain ⟨w3, hw3⟩ : ∃ w3, w3 = (((w.alloc (.cells #[.int .i64 t.f0, .slice A t.f1.length c] 30)).alloc (.cells #[.int .i64 u.f0, .slice Au u.f1.length cu] 30)).alloc (.cells #[.int .i64 0, .slice none 0 0] 30)) := ⟨_, rfl⟩
  have hx0 : w3.heap[w.heap.size]? = some (.cells #[.int .i64 t.f0, .slice A t.f1.length c] 30 (0, 0)) := by rw [hw3]; exact blk_alloc (blk_alloc (heap_alloc_new _ _) _) _
  have hx1 : w3.heap[w.heap.size + 1]? = some (.cells #[.int .i64 u.f0, .slice Au u.f1.length cu] 30 (0, 0)) := by
    rw [hw3]
    have := heap_alloc_new (w.alloc (.cells #[.int .i64 t.f0, .slice A t.f1.length c] 30)) (.cells #[.int .i64 u.f0, .slice Au u.f1.length cu] 30)
    rw [World.size_alloc] at this
    exact blk_alloc this _
  have hx2 : w3.heap[w.heap.size + 1 + 1]? = some (.cells #[.int .i64 0, .slice none 0 0] 30 (0, 0)) := by
    rw [hw3]
    have := heap_alloc_new ((w.alloc (.cells #[.int .i64 t.f0, .slice A t.f1.length c] 30)).alloc (.cells #[.int .i64 u.f0, .slice Au u.f1.length cu] 30)) (.cells #[.int .i64 0, .slice none 0 0] 30)
    rw [World.size_alloc, World.size_alloc] at this
    exact this
  have hs3 : w3.heap.size = w.heap.size + 3 := by rw [hw3]; simp
  rw [← hw3] at hb3
  have HX0 := Aside0.mk hx0
  have HX1 := Aside0.mk hx1
  have HX2 := Aside0.mk hx2
  have HB3 := Aside0.mk hb3
  have HF := Aside0.mk hF
  have HFu := Aside0.mk hFu
  have HC := Aside0.mk hC
  have HI := Aside0.mk hi0
  have HP := Aside0.mk hp
  have HPUT := Aside0.mk hput
  have HPS := Aside0.mk hps
  have HFIT := Aside0.mk (And.intro hft (And.intro hfu hfps))
  have HIH := Aside0.mk ih
  have HS3 := Aside0.mk hs3
  have HCL := Aside0.mk hclen
  have HPM := Aside0.mk (And.intro hpl (And.intro hcp (And.intro hcu hc)))
  have hw3' := Aside0.mk hw3
  clear hft hfu hF hC hFu hx0 hx1 hx2 hb3 hi0 hp hput hps hfps ih hs3 hclen hpse hw3 hpl hcp
  go_enter Try.func30, Try.ntmps30
  go_wp2
  rw [← hw3'.out]
  refine Put_r3 (f := t.f0) (i := i) (gt := w.heap.size) (ps := ps) (P := fun k => (P k ∧ k < w.heap.size) ∨ w3.heap.size ≤ k) (by kernel_rfl) rfl rfl HX0.out HPM.out.1 ((HB3.out.cell (cell_lt' HI.out)).trans HI.out) ?_ ?_
  · intro w1 hb
    refine (term_parts.calls t.f0 (fun k => P k ∧ k < w.heap.size) A c t.f1 ps w1 (Kd.V_mk HPM.out.2.2.2 (Kd.F_below (Kd.F_below (Kd.F_bound HF.out) HB3.out) hb)) HPS.out).mono (fun e w2 ⟨v0, h1, h2, h3⟩ => ⟨v0, h1, ?_, h3⟩)
    exact Kd.V_mono h2 (fun k hk => hk.elim .inl (fun h => .inr (Nat.le_trans hb.size h)))
  intro v w4 hb4 hv5 hv6
  obtain ⟨A6, c6, hv6e, hl6, hF6⟩ := hv6
  simp only [layL, Nat.reduceAdd, List.setIfInBounds_toArray, List.set_cons_zero, List.set_cons_succ, hv5, hv6e]
  clear hv5 hv6e
  generalize v 0 = y0
  generalize v 1 = y1
  generalize v 2 = y2
  generalize v 3 = y3
  generalize v 4 = y4
  clear v
  have HF6 := Aside0.mk hF6
  have HB4 := Aside0.mk hb4
  clear hF6 hb4
  have k20 : w4.cell? ⟨w.heap.size + 1 + 1, 0, none⟩ = some (.int .i64 0) := (blk_cell (blk_below HX2.out HB4.out) 0).trans rfl
  have k21 : w4.cell? ⟨w.heap.size + 1 + 1, 1, none⟩ = some (.slice none 0 0) := (blk_cell (blk_below HX2.out HB4.out) 1).trans rfl
  have z20 := blk_frozen (blk_below HX2.out HB4.out) 0
  have z21 := blk_frozen (blk_below HX2.out HB4.out) 1
  have hnone : (i < 0 ∨ (ps.length : Int) ≤ i) → putT p t u = none := fun h => by rw [HPUT.out, if_pos h]
  have hres0 := blk_set (blk_set (blk_below HX2.out HB4.out) 0 (.int .i64 0)) 1 (.slice none 0 0)
  have hbb4 : Below w.heap.size w ((w4.setCell ⟨w.heap.size + 1 + 1, 0, none⟩ (.int .i64 0)).setCell ⟨w.heap.size + 1 + 1, 1, none⟩ (.slice none 0 0)) := below_set2 (HB3.out.trans (HB4.out.mono HB3.out.size)) (by omega)
  have HR0 := Aside0.mk (And.intro hres0 hbb4)
  have HN := Aside0.mk hnone
  clear hres0 hbb4 hnone
  by_cases hneg : i < 0
  · have hd : decide (i < 0) = true := decide_eq_true hneg
    have hnn := Aside0.mk (HN.out (.inl hneg))
    clear hneg
    go_wp2
    refine bodyPost_ret (results_ct rfl _ _ (w.heap.size + 1 + 1) 30 #[.int .i64 0, .slice none 0 0] (0, 0) _ rfl HR0.out.1 Try.underlying30 rfl (by kernel_rfl)) rfl ?_
    rw [hnn.out]
    exact ⟨none, 0, rfl, Nat.le_refl _, Kd.F_nil _ _ _, HR0.out.2⟩
  · have hd : decide (i < 0) = false := decide_eq_false hneg
    by_cases hge : (ps.length : Int) ≤ i
    · have hd2 : decide ((ps.length : Int) ≤ i) = true := decide_eq_true hge
      have hnn := Aside0.mk (HN.out (.inr hge))
      clear hneg hge
      go_wp2
      refine bodyPost_ret (results_ct rfl _ _ (w.heap.size + 1 + 1) 30 #[.int .i64 0, .slice none 0 0] (0, 0) _ rfl HR0.out.1 Try.underlying30 rfl (by kernel_rfl)) rfl ?_
      rw [hnn.out]
      exact ⟨none, 0, rfl, Nat.le_refl _, Kd.F_nil _ _ _, HR0.out.2⟩
    · have hd2 : decide ((ps.length : Int) ≤ i) = false := decide_eq_false hge
      clear k20 k21 z20 z21
      have hit : i.toNat < ps.length := by omega
      have hi2 : (i.toNat : Int) = i := by omega
      obtain ⟨x, hx⟩ : ∃ x, x = ps[i.toNat] := ⟨_, rfl⟩
      have hrd : rd_T30 ps i = x := by rw [hx, ← rdC_at ps i.toNat hit, hi2]
      obtain ⟨ad6, A1, c1, hA6, hc0, hc1, hl1, hF1⟩ := at_F30 HF6.out i.toNat hit
      rw [← hx] at hc0 hc1 hl1 hF1
      subst hA6
      have hfx : fit x := by rw [hx]; exact HFIT.out.2.2.2 _ (List.getElem_mem hit)
      obtain ⟨o, ho⟩ : ∃ o, o = putT q x u := ⟨_, rfl⟩
      have hputs : putT p t u = o.map fun y => ⟨t.f0, (cloneT t).f1.set i.toNat y⟩ := by rw [HPUT.out, if_neg (by omega), hrd, ← ho]
      obtain ⟨r, hr⟩ : ∃ r, r = o.getD ⟨0, []⟩ := ⟨_, rfl⟩
      obtain ⟨b, hb⟩ : ∃ b, b = o.isSome := ⟨_, rfl⟩
      have hih := HIH.out x u
      rw [← ho, ← hr, ← hb] at hih
      have HIX := Aside0.mk hih
      have HPS2 := Aside0.mk hputs
      have HO := Aside0.mk (And.intro hr hb)
      have HL1 := Aside0.mk hl1
      have HF1 := Aside0.mk hF1
      have HFX := Aside0.mk hfx
      have HIT := Aside0.mk (And.intro hit hi2)
      have HC0 := Aside0.mk hc0
      have HC1 := Aside0.mk hc1
      clear hih hputs hr hb hl1 hF1 hfx hit hi2 hc0 hc1 hrd hx ho HIH HN HR0
      go_wp2
      refine Put_r6 (i := i) (gu := w.heap.size + 1) (n := ps.length) (c := c6) (x := x) (u := u) (r := r) (b := b) (ad := ad6) (Ap := ad) (p := p) (q := q) (P := fun k => (P k ∧ k < w.heap.size) ∨ w3.heap.size ≤ k) (by kernel_rfl) rfl rfl rfl rfl (blk_below HX1.out HB4.out) ⟨by rw [HP.out]; rfl⟩ (by omega) HC0.out HC1.out HPM.out.1 HPM.out.2.1 (Kd.C_below (Kd.C_below HC.out HB3.out) HB4.out) ?_ ?_
      · intro w1 Aq c2 hb hl hCq
        refine (HIX.out (fun k => k < w4.heap.size ∧ ((P k ∧ k < w.heap.size) ∨ w3.heap.size ≤ k)) A1 Aq Au c1 c2 cu w1 HFX.out HFIT.out.2.1 ?_ HL1.out hCq hl ?_ HPM.out.2.2.1).mono (fun e w2 ⟨A', c', h1, h2, h3, h4⟩ => ⟨A', c', h1, h2, h3, h4⟩)
        · exact Kd.F_mono (Kd.F_below (Kd.F_bound HF1.out) hb) (fun k hk => ⟨hk.2, hk.1⟩)
        · exact Kd.F_mono (Kd.F_below (Kd.F_bound (Kd.F_below (Kd.F_below (Kd.F_bound HFu.out) HB3.out) HB4.out)) hb) (fun k hk => ⟨hk.2, .inl hk.1⟩)
      intro v w5 g A' c' hb5 hv13 hv11 hge5 hbx5 hl5 hF5
      simp only [layL, Nat.reduceAdd, List.setIfInBounds_toArray, List.set_cons_zero, List.set_cons_succ, hv13, hv11]
      clear hv13 hv11
      generalize v 0 = x0
      generalize v 1 = x1
      generalize v 2 = x2
      generalize v 3 = x3
      generalize v 4 = x4
      generalize v 5 = x5
      generalize v 6 = x6
      generalize v 7 = x7
      generalize v 8 = x8
      generalize v 9 = x9
      generalize v 10 = x10
      clear v
      have HX05 := blk_below (blk_below HX0.out HB4.out) hb5
      have HX25 := blk_below (blk_below HX2.out HB4.out) hb5
      have k00 : w5.cell? ⟨w.heap.size, 0, none⟩ = some (.int .i64 t.f0) := (blk_cell HX05 0).trans rfl
      have k01 : w5.cell? ⟨w.heap.size, 1, none⟩ = some (.slice A t.f1.length c) := (blk_cell HX05 1).trans rfl
      have k20 : w5.cell? ⟨w.heap.size + 1 + 1, 0, none⟩ = some (.int .i64 0) := (blk_cell HX25 0).trans rfl
      have k21 : w5.cell? ⟨w.heap.size + 1 + 1, 1, none⟩ = some (.slice none 0 0) := (blk_cell HX25 1).trans rfl
      have z20 := blk_frozen HX25 0
      have z21 := blk_frozen HX25 1
      have HZ0 := Aside0.mk HX05
      have HZ2 := Aside0.mk HX25
      have HB5 := Aside0.mk ((HB3.out.trans (HB4.out.mono HB3.out.size)).trans (hb5.mono (Nat.le_trans HB3.out.size HB4.out.size)))
      have HBX := Aside0.mk hbx5
      have HF5 := Aside0.mk hF5
      have HG5 := Aside0.mk (And.intro hge5 hl5)
      have HB5' := Aside0.mk hb5
      clear HX05 HX25 hbx5 hF5 hge5 hl5 hb5 HIX HC0 HC1 HF1 HL1 HFX
      cases b with
      | false =>
        have hnn := Aside0.mk (show putT p t u = none by
          rw [HPS2.out]
          have h1 := HO.out.2
          cases o with
          | none => rfl
          | some y => cases h1)
        have hres0 := Aside0.mk (blk_set (blk_set HZ2.out 0 (.int .i64 0)) 1 (.slice none 0 0))
        have hbb := Aside0.mk (show Below w.heap.size w ((w5.setCell ⟨w.heap.size + 1 + 1, 0, none⟩ (.int .i64 0)).setCell ⟨w.heap.size + 1 + 1, 1, none⟩ (.slice none 0 0)) from below_set2 HB5.out (by omega))
        go_wp2
        refine bodyPost_ret (results_ct rfl _ _ (w.heap.size + 1 + 1) 30 #[.int .i64 0, .slice none 0 0] (0, 0) _ rfl hres0.out Try.underlying30 rfl (by kernel_rfl)) rfl ?_
        rw [hnn.out]
        exact ⟨none, 0, rfl, Nat.le_refl _, Kd.F_nil _ _ _, hbb.out⟩
      | true =>
        obtain ⟨kc, hcl⟩ := (Clone_fit t HFIT.out.1).rounds
        have hcall := Aside0.mk (term_Clone.calls kc t.f0 A c t.f1 (cloneT t).f0 (cloneT t).f1 w5 (Kd.C_below (Kd.C_below (Kd.C_below (Kd.F_now HF.out) HB3.out) HB4.out) HB5'.out) HPM.out.2.2.2 hcl)
        clear hcl
        have hilt : i < ((cloneT t).f1.length : Int) := by rw [HCL.out]; omega
        have kg0 : w5.cell? ⟨g, 0, none⟩ = some (.int .i64 r.f0) := (blk_cell HBX.out 0).trans rfl
        go_wp2_with (go_at_call 38; refine hcall.out.mono ?_; rintro e w6 ⟨v1, rfl, hR, hb6⟩; obtain ⟨gc, cap, ccs, d0, d1, hv1, hgcb, hgcl, hccs, u0, u1⟩ := T_cells hR i.toNat (by rw [HCL.out]; exact HIT.out.1); subst hv1; have HR := Aside0.mk hR; have HB6 := Aside0.mk hb6; have HCCS := Aside0.mk hccs; have HU := Aside0.mk (And.intro u0 u1); have HG := Aside0.mk (And.intro hgcb hgcl); have p0 : (w6.alloc (.cells #[.int .i64 (cloneT t).f0, .slice (some ⟨gc, 0, none⟩) (cloneT t).f1.length cap] 30)).cell? ⟨g, 0, none⟩ = some (.int .i64 r.f0) := (blk_cell (blk_alloc (blk_below HBX.out hb6) _) 0).trans rfl; have p1 : (w6.alloc (.cells #[.int .i64 (cloneT t).f0, .slice (some ⟨gc, 0, none⟩) (cloneT t).f1.length cap] 30)).cell? ⟨g, 1, none⟩ = some (.slice A' r.f1.length c') := (blk_cell (blk_alloc (blk_below HBX.out hb6) _) 1).trans rfl; have p2 : (w6.alloc (.cells #[.int .i64 (cloneT t).f0, .slice (some ⟨gc, 0, none⟩) (cloneT t).f1.length cap] 30)).cell? ⟨gc, i.toNat * 2, none⟩ = some d0 := (blk_cell (blk_alloc hccs _) _).trans u0; have p3 : ((w6.alloc (.cells #[.int .i64 (cloneT t).f0, .slice (some ⟨gc, 0, none⟩) (cloneT t).f1.length cap] 30)).setCell ⟨gc, i.toNat * 2, none⟩ (.int .i64 r.f0)).cell? ⟨gc, i.toNat * 2 + 1, none⟩ = some d1 := (blk_cell (blk_set (blk_alloc hccs _) _ _) _).trans ((Array.getElem?_setIfInBounds_ne (by omega)).trans u1); have z2 := blk_frozen (blk_alloc hccs (.cells #[.int .i64 (cloneT t).f0, .slice (some ⟨gc, 0, none⟩) (cloneT t).f1.length cap] 30)) (i.toNat * 2); have z3 := blk_frozen (blk_set (blk_alloc hccs (.cells #[.int .i64 (cloneT t).f0, .slice (some ⟨gc, 0, none⟩) (cloneT t).f1.length cap] 30)) (i.toNat * 2) (.int .i64 r.f0)) (i.toNat * 2 + 1); have hne12 : w6.heap.size ≠ gc := Nat.ne_of_gt hgcl; have hne2 : w.heap.size + 1 + 1 ≠ gc := (fun e => by have := blk_lt HZ2.out; omega); have hB12 := blk_far (p := ⟨gc, i.toNat * 2 + 1, none⟩) (blk_far (p := ⟨gc, i.toNat * 2, none⟩) (heap_alloc_new w6 (.cells #[.int .i64 (cloneT t).f0, .slice (some ⟨gc, 0, none⟩) (cloneT t).f1.length cap] 30)) hne12 (.int .i64 r.f0)) hne12 (.slice A' r.f1.length c'); have hB2 := blk_far (p := ⟨gc, i.toNat * 2 + 1, none⟩) (blk_far (p := ⟨gc, i.toNat * 2, none⟩) (blk_alloc (blk_below HZ2.out hb6) (.cells #[.int .i64 (cloneT t).f0, .slice (some ⟨gc, 0, none⟩) (cloneT t).f1.length cap] 30)) hne2 (.int .i64 r.f0)) hne2 (.slice A' r.f1.length c'); have m0 : (((w6.alloc (.cells #[.int .i64 (cloneT t).f0, .slice (some ⟨gc, 0, none⟩) (cloneT t).f1.length cap] 30)).setCell ⟨gc, i.toNat * 2, none⟩ (.int .i64 r.f0)).setCell ⟨gc, i.toNat * 2 + 1, none⟩ (.slice A' r.f1.length c')).cell? ⟨w6.heap.size, 0, none⟩ = some (.int .i64 (cloneT t).f0) := (blk_cell hB12 0).trans rfl; have m1 : (((w6.alloc (.cells #[.int .i64 (cloneT t).f0, .slice (some ⟨gc, 0, none⟩) (cloneT t).f1.length cap] 30)).setCell ⟨gc, i.toNat * 2, none⟩ (.int .i64 r.f0)).setCell ⟨gc, i.toNat * 2 + 1, none⟩ (.slice A' r.f1.length c')).cell? ⟨w6.heap.size, 1, none⟩ = some (.slice (some ⟨gc, 0, none⟩) (cloneT t).f1.length cap) := (blk_cell hB12 1).trans rfl; have m2 : (((w6.alloc (.cells #[.int .i64 (cloneT t).f0, .slice (some ⟨gc, 0, none⟩) (cloneT t).f1.length cap] 30)).setCell ⟨gc, i.toNat * 2, none⟩ (.int .i64 r.f0)).setCell ⟨gc, i.toNat * 2 + 1, none⟩ (.slice A' r.f1.length c')).cell? ⟨w.heap.size + 1 + 1, 0, none⟩ = some (.int .i64 0) := (blk_cell hB2 0).trans rfl; have m3 : ((((w6.alloc (.cells #[.int .i64 (cloneT t).f0, .slice (some ⟨gc, 0, none⟩) (cloneT t).f1.length cap] 30)).setCell ⟨gc, i.toNat * 2, none⟩ (.int .i64 r.f0)).setCell ⟨gc, i.toNat * 2 + 1, none⟩ (.slice A' r.f1.length c')).setCell ⟨w.heap.size + 1 + 1, 0, none⟩ (.int .i64 (cloneT t).f0)).cell? ⟨w.heap.size + 1 + 1, 1, none⟩ = some (.slice none 0 0) := (blk_cell (blk_set hB2 0 _) 1).trans rfl; have z4 := blk_frozen hB2 0; have z5 := blk_frozen (blk_set hB2 0 (.int .i64 (cloneT t).f0)) 1; have HB2 := Aside0.mk hB2; clear hB2 hB12 hne12; clear hR hb6 hccs u0 u1 hgcb hgcl)
        have hN0 := Kd.R_N (Kd.R_mono (ok' := fun k => (P k ∧ k < w.heap.size) ∨ w3.heap.size ≤ k) (Kd.R_bound HR.out) (fun k hk => .inr (by have := hk.2.1; have := HB4.out.size; have := HB5'.out.size; omega)))
        have hF6 := Kd.F_alloc (Kd.F_below (Kd.F_bound HF5.out) HB6.out) (.cells #[.int .i64 (cloneT t).f0, .slice (some ⟨gc, 0, none⟩) (cloneT t).f1.length cap] 30)
        have hN1 := T_storeN (Kd.N_alloc hN0 (.cells #[.int .i64 (cloneT t).f0, .slice (some ⟨gc, 0, none⟩) (cloneT t).f1.length cap] 30)) i.toNat (by rw [HCL.out]; exact HIT.out.1) HG5.out.2 hF6 (fun k hk => ⟨hk.1.1.elim (fun h => h.2) (fun h => .inr (Nat.le_trans HB4.out.size h)), fun e => by have := hk.2; have := HG.out.1; omega⟩)
        have hV1 := Kd.V_F (Kd.N_V (base' := 0) hN1)
        have hne : ∀ k, ((P k ∧ k < w.heap.size) ∨ w3.heap.size ≤ k) → k ≠ w.heap.size + 1 + 1 := fun k hk e => by have := HS3.out; rcases hk with hk | hk <;> omega
        have hV2 := Kd.F_far (p := ⟨w.heap.size + 1 + 1, 1, none⟩) (Kd.F_far (p := ⟨w.heap.size + 1 + 1, 0, none⟩) hV1 hne (.int .i64 (cloneT t).f0)) hne (.slice (some ⟨gc, 0, none⟩) (cloneT t).f1.length cap)
        have hres := blk_set (blk_set HB2.out 0 (.int .i64 (cloneT t).f0)) 1 (.slice (some ⟨gc, 0, none⟩) (cloneT t).f1.length cap)
        have hsome : putT p t u = some ⟨t.f0, (cloneT t).f1.set i.toNat r⟩ := by
          have h1 := HO.out.1
          have h2 := HO.out.2
          rw [HPS2.out]
          cases o with
          | none => cases h2
          | some y => rw [h1]; rfl
        have hcap := (Kd.R_reads' HR.out).2.1
        have hct : (cloneT t).f0 = t.f0 := by obtain ⟨f, l⟩ := t; rfl
        have hbb : Below w.heap.size w _ := below_set2 (N := w.heap.size) (below_set2 (N := w.heap.size) (below_alloc (HB5.out.trans (HB6.out.mono HB5.out.size)) (.cells #[.int .i64 (cloneT t).f0, .slice (some ⟨gc, 0, none⟩) (cloneT t).f1.length cap] 30)) (g := gc) (i := i.toNat * 2) (j := i.toNat * 2 + 1) (u := .int .i64 r.f0) (v := .slice A' r.f1.length c') (by have := HG.out.1; have := HB5.out.size; omega)) (g := w.heap.size + 1 + 1) (i := 0) (j := 1) (u := .int .i64 (cloneT t).f0) (v := .slice (some ⟨gc, 0, none⟩) (cloneT t).f1.length cap) (by omega)
        refine bodyPost_ret (results_ct rfl _ _ (w.heap.size + 1 + 1) 30 #[.int .i64 (cloneT t).f0, .slice (some ⟨gc, 0, none⟩) (cloneT t).f1.length cap] (0, 0) _ rfl hres Try.underlying30 rfl (by kernel_rfl)) rfl ?_
        rw [hsome]
        refine ⟨some ⟨gc, 0, none⟩, cap, ?_, ?_, ?_, hbb⟩
        · rw [hct]
          simp only [Option.getD_some, Option.isSome_some, List.length_set]
          rfl
        · simp only [Option.getD_some, List.length_set]
          exact hcap
        · simp only [Option.getD_some, List.length_set]
          exact Kd.F_mono hV2 (fun k hk => hk.elim (fun h => .inl h.1) (fun h => .inr (by have := HS3.out; omega)))
theorem Put_any : ∀ p, PutOk p
  | [] => Put_nil
  | i :: q => Put_cons i q (Put_any q)
end Go.Proofs.Ytpfddihcikiofaa.P
end

section
namespace Go.Proofs.Ytpfddihcikiofaa.P
open Go.RowKit Go.Proofs.YtpfddihcikiofaaW.PrintWords Go.Proofs.YtpfddihcikiofaaW.PrintLast Go.Proofs.YtpfddihcikiofaaW.PrintMore
set_option linter.unusedVariables false
set_option linter.unusedSimpArgs false
theorem rdi_at (l : List Int) (k : Nat) (h : k < l.length) : rd l (k : Int) = l[k] := by
  unfold rd
  simp [List.getD, List.getElem?_eq_getElem h]
theorem cmp_len : ∀ a b : S30, cmpT a b = 0 → (nodes a).length = (nodes b).length := by
  refine S30.ind ?_
  intro f l ih b h
  obtain ⟨g, m⟩ := b
  have hfg : f = g := by
    rcases Decidable.em (f = g) with e | e
    · exact e
    · exfalso
      have h1 := cmpI_ne e
      have h2 := cmpI_ne (fun e' => e e'.symm)
      simp only [cmpT] at h
      split at h
      · split at h <;> contradiction
      · unfold orI at h; rw [if_neg h1] at h; contradiction
  subst hfg
  by_cases hf : f < 0
  · simp [nodes, hf]
  · have hlm : l.length = m.length := by
      rcases Decidable.em (l.length = m.length) with e | e
      · exact e
      · exfalso
        have h1 : cmpI (l.length : Int) m.length ≠ 0 := cmpI_ne (by omega)
        simp [cmpT, hf, cmpI_self, orI, h1] at h
    have hc : cmpTs l m = 0 := by simpa [cmpT, hf, cmpI_self, hlm, orI] using h
    have key : ∀ (l m : List S30), (∀ x ∈ l, ∀ y, cmpT x y = 0 → (nodes x).length = (nodes y).length) → l.length = m.length → cmpTs l m = 0 → (nodess l).length = (nodess m).length := by
      intro l
      induction l with
      | nil => intro m _ hl _; cases m with
        | nil => rfl
        | cons => simp at hl
      | cons x l ihl =>
        intro m h hl hc
        cases m with
        | nil => simp at hl
        | cons y m =>
          rw [cmpTs] at hc
          split at hc
          · rename_i h0
            rw [nodess, nodess, List.length_append, List.length_append, h x (by simp) y h0, ihl m (fun x hx => h x (by simp [hx])) (by simpa using hl) hc]
          · rename_i h0; contradiction
    have := key l m (fun x hx y => ih x hx y) hlm hc
    simp [nodes, hf, this]
theorem cmp_zero {f g : Int} {l m : List S30} (h : cmpT ⟨f, l⟩ ⟨g, m⟩ = 0) : f = g ∧ (¬ f < 0 → l.length = m.length ∧ cmpTs l m = 0) := by
  have hfg : f = g := by
    rcases Decidable.em (f = g) with e | e
    · exact e
    · exfalso
      have h1 := cmpI_ne e
      have h2 := cmpI_ne (fun e' => e e'.symm)
      simp only [cmpT] at h
      split at h
      · split at h <;> contradiction
      · unfold orI at h; rw [if_neg h1] at h; contradiction
  subst hfg
  refine ⟨rfl, fun hf => ?_⟩
  have hlm : l.length = m.length := by
    rcases Decidable.em (l.length = m.length) with e | e
    · exact e
    · exfalso
      have h1 : cmpI (l.length : Int) m.length ≠ 0 := cmpI_ne (by omega)
      simp [cmpT, hf, cmpI_self, orI, h1] at h
  exact ⟨hlm, by simpa [cmpT, hf, cmpI_self, hlm, orI] using h⟩
theorem fit_of_ok : ∀ t : S30, ok t → (nodes t).length ≤ 1000000 → fit t := by
  have key : ∀ t : S30, ok t → SmallN t := by
    refine S30.ind ?_
    intro f l ih h
    obtain ⟨h1, h2, h3, h4⟩ := h
    have hl : ∀ y ∈ nodess l, -1000000 ≤ y.f0 ∧ y.f0 ≤ 1000000 := by
      have := oks_mem h4
      clear h1 h2 h3 h4
      induction l with
      | nil => intro y hy; cases hy
      | cons x l ihl =>
        intro y hy
        rw [nodess, List.mem_append] at hy
        rcases hy with hy | hy
        · exact ih x (by simp) (this x (by simp)) y hy
        · exact ihl (fun x hx => ih x (by simp [hx])) (fun x hx => this x (by simp [hx])) y hy
    intro y hy
    rw [nodes] at hy
    rcases List.mem_cons.1 hy with rfl | hy
    · exact ⟨by show -1000000 ≤ f; omega, by show f ≤ 1000000; omega⟩
    · split at hy
      · cases hy
      · exact hl y hy
  intro t h hn
  exact ⟨hn, key t h⟩
end Go.Proofs.Ytpfddihcikiofaa.P
end

section
namespace Go.Proofs.Ytpfddihcikiofaa.P
open Go.RowKit Go.Proofs.YtpfddihcikiofaaW.PrintWords Go.Proofs.YtpfddihcikiofaaW.PrintLast Go.Proofs.YtpfddihcikiofaaW.PrintMore
set_option linter.unusedVariables false
set_option linter.unusedSimpArgs false
def ground (t : S30) : Prop := ∀ x ∈ nodes t, 0 ≤ x.f0
end Go.Proofs.Ytpfddihcikiofaa.P
end

section
namespace Go.Proofs.Ytpfddihcikiofaa.P
open Go.RowKit Go.Proofs.YtpfddihcikiofaaW.PrintWords Go.Proofs.YtpfddihcikiofaaW.PrintLast Go.Proofs.YtpfddihcikiofaaW.PrintMore
attribute [local go_sem] max2_int min2_int max_two min_two max_three min_three max_four min_four
set_option linter.unusedVariables false
set_option linter.unusedSimpArgs false
def term_At.l0 : Nat → List Int → Int → Int → Int → List (S30) → Option (Int × (List (S30)) × Bool)
  | 0, _, _, _, _, _ => none
  | k + 1, x9, x10, x11, x171000, x171001 => if x11 < x10 then (if 0 ≤ x11 then (if x11 < (x9.length : Int) then ((term_parts.f x171000 x171001).bind fun t173 => (if (rd x9 x11) < 0 then (some (0, ([] : List (S30)), false)) else (if (rd x9 x11) ≥ (t173.length : Int) then (some (0, ([] : List (S30)), false)) else (if 0 ≤ (rd x9 x11) then (if (rd x9 x11) < (t173.length : Int) then (term_At.l0 k x9 x10 (wrap64 (x11 + 1)) ((rd_T30 t173 (rd x9 x11)).f0) ((rd_T30 t173 (rd x9 x11)).f1)) else (none)) else (none))))) else (none)) else (none)) else (some (x171000, x171001, true))
def term_At.f (k : Nat) (a0_0 : Int) (l0_1 : List (S30)) (l1 : List Int) : Option (Int × (List (S30)) × Bool) := term_At.l0 k l1 (l1.length : Int) 0 a0_0 l0_1
set_option maxHeartbeats 8000000 in
set_option maxRecDepth 100000 in
theorem term_At.calls (k : Nat) (a0_0 : Int) (P0_1_ : Nat → Prop) (A0_1 : Option Addr) (c0_1 : Nat) (l0_1 : List (S30)) (A1 : Option Addr) (c1 : Nat) (l1 : List Int) (r1 : Int) (r2 : List (S30)) (r3 : Bool) (w : World) (hs0_1 : Kd.V k30 30 w w.heap.size (fun k_ => P0_1_ k_) (.slice A0_1 l0_1.length c0_1) l0_1) (hr1 : Kd.C (Kd.int .i64) w A1 l1.length l1) (hc1 : l1.length ≤ c1) (h : term_At.f k a0_0 l0_1 l1 = some (r1, r2, r3)) :
    Calls Try.prog 27 #[.agg #[.int .i64 a0_0, .slice A0_1 l0_1.length c0_1], .slice A1 l1.length c1] w fun e w' => ∃ v1_ : Value, e = .returned (.tuple #[.agg #[.int .i64 r1, v1_], .bool r3]) ∧ Kd.V k30 30 w' w.heap.size (fun k_ => (P0_1_ k_ ∨ w.heap.size ≤ k_)) v1_ r2 ∧ Below w.heap.size w w' := by
  have hu30 := Try.underlying30
  have HO0_1 := Aside0.mk (show Kd.V k30 30 w w.heap.size (fun k_ => (P0_1_ k_ ∨ w.heap.size ≤ k_)) (.slice A0_1 l0_1.length c0_1) l0_1 from Kd.V_mono hs0_1 (fun k_ hk => .inl hk))
  have HR1 := Aside0.mk hr1
  have HC1 := Aside0.mk hc1
  clear hr1 hc1
  have HB := Aside0.mk (Below.refl w.heap.size w)
  have H : (term_At.l0 k l1 (l1.length : Int) 0 a0_0 l0_1) = some (r1, r2, r3) := h
  clear h
  have H' := Aside0.mk H
  clear H
  go_enter Try.func27, Try.ntmps27
  go_wp2_with (first | ((with_reducible refine gate_dst (N := 2) rfl ?_); (try (refine gate_guard (by rfl) ?_; dsimp only)); refine box_event ?hg (N := 2) ?hd (cs := #[.int .i64 a0_0, .slice A0_1 l0_1.length c0_1]) (t := 30) ?hr ?_; (case hd => rfl); (case hg => rfl); (case hr => first | (go_simp; done) | (go_simp; rfl)); intro gb170 hg w3 hbox hb; have n0_ := Aside0.mk (Kd.V_below (Kd.V_elderB (by (with_reducible repeat (first | apply Kd.V_alloc | apply Kd.V_drewN | apply Kd.V_drew)); exact HO0_1.out) gb170 (Nat.le_of_eq hg.symm)) hb); have n1_ := Aside0.mk (below_step (by repeat (first | (with_reducible first | exact HB.out | apply below_alloc | apply pw_below_drewN | apply below_drew1) | exact HB.out)) hb); have n2_ := Aside0.mk (hbox); have n3_ := Aside0.mk ((by rw [hg]; exact (below_size (by repeat (first | (with_reducible first | exact HB.out | apply below_alloc | apply pw_below_drewN | apply below_drew1) | exact HB.out))) : w.heap.size ≤ gb170)); have n4_ := Aside0.mk ((by rw [hg]; exact (below_size (by repeat (first | (with_reducible first | exact HB.out | apply below_alloc | apply pw_below_drewN | apply below_drew1) | exact HB.out))) : w.heap.size ≤ gb170)); clear HO0_1; clear HB; have HO0_1 := n0_; have HB := n1_; have BK170 := n2_; have GW170 := n3_; have GE170 := n4_; clear n0_ n1_ n2_ n3_ n4_; clear hb hbox hg) | ((with_reducible refine gate_dst (N := 4) rfl ?_); (try (refine gate_guard (by rfl) ?_; dsimp only)); refine box_event ?hg (N := 4) ?hd (cs := #[.int .i64 0, .slice none 0 0]) (t := 30) ?hr ?_; (case hd => rfl); (case hg => rfl); (case hr => first | (go_simp; done) | (go_simp; rfl)); intro gb171 hg w4 hbox hb; have n0_ := Aside0.mk (Kd.V_below (Kd.V_elderB (by (with_reducible repeat (first | apply Kd.V_alloc | apply Kd.V_drewN | apply Kd.V_drew)); exact HO0_1.out) gb171 (Nat.le_of_eq hg.symm)) hb); have n1_ := Aside0.mk (blk_below (g := gb170) (o := .cells #[.int .i64 a0_0, .slice A0_1 l0_1.length c0_1] 30 (0, 0)) (by (with_reducible repeat (first | refine blk_drewN ?_ _ | refine blk_drew ?_ | refine blk_alloc ?_ _)); exact BK170.out) hb); have n2_ := Aside0.mk (below_step (by repeat (first | (with_reducible first | exact HB.out | apply below_alloc | apply pw_below_drewN | apply below_drew1 | refine below_set ?_ GE170.out) | exact HB.out)) hb); have n3_ := Aside0.mk (hbox); have n4_ := Aside0.mk ((by rw [hg]; exact (below_size (by repeat (first | (with_reducible first | exact HB.out | apply below_alloc | apply pw_below_drewN | apply below_drew1 | refine below_set ?_ GE170.out) | exact HB.out))) : w.heap.size ≤ gb171)); have n5_ := Aside0.mk ((by rw [hg]; exact (below_size (by repeat (first | (with_reducible first | exact HB.out | apply below_alloc | apply pw_below_drewN | apply below_drew1 | refine below_set ?_ GE170.out) | exact HB.out))) : w.heap.size ≤ gb171)); have n6_ := Aside0.mk ((by rw [hg]; exact Nat.ne_of_lt (blk_lt (g := gb170) (o := .cells #[.int .i64 a0_0, .slice A0_1 l0_1.length c0_1] 30 (0, 0)) (by (with_reducible repeat (first | refine blk_drewN ?_ _ | refine blk_drew ?_ | refine blk_alloc ?_ _)); exact BK170.out)) : gb170 ≠ gb171)); have n7_ := Aside0.mk ((by rw [hg]; exact Nat.ne_of_gt (blk_lt (g := gb170) (o := .cells #[.int .i64 a0_0, .slice A0_1 l0_1.length c0_1] 30 (0, 0)) (by (with_reducible repeat (first | refine blk_drewN ?_ _ | refine blk_drew ?_ | refine blk_alloc ?_ _)); exact BK170.out)) : gb171 ≠ gb170)); clear HO0_1; clear BK170; clear HB; have HO0_1 := n0_; have BK170 := n1_; have HB := n2_; have BK171 := n3_; have GW171 := n4_; have GE171 := n5_; have NB170_171 := n6_; have NB171_170 := n7_; clear n0_ n1_ n2_ n3_ n4_ n5_ n6_ n7_; clear hb hbox hg))
  go_loopg [11] k (fun kq v11 w' => ∃ (x11_1 : Int) (x171000_1 : Int) (x171001_1 : List (S30)) (x172000_1 : Int) (u171001 : Value), v11 = .int .i64 x11_1 ∧ Aside0 (term_At.l0 kq l1 (l1.length : Int) x11_1 x171000_1 x171001_1 = some (r1, r2, r3)) ∧ Aside0 (kq ≤ k) ∧ Aside0 (Kd.V k30 30 w' w.heap.size (fun k_ => (P0_1_ k_ ∨ w.heap.size ≤ k_) ∧ k_ ≠ gb170 ∧ k_ ≠ gb171) u171001 x171001_1) ∧ Aside0 (w'.heap[gb170]? = some (.cells #[.int .i64 x171000_1, u171001] 30 (0, 0))) ∧ Aside0 (w'.heap[gb171]? = some (.cells #[.int .i64 x172000_1, (.slice none 0 0)] 30 (0, 0))) ∧ Aside0 (Below w.heap.size w w'))
  case atStart => exact ⟨(0), (a0_0), (l0_1), (0), (.slice A0_1 l0_1.length c0_1), (by first | rfl | (simp; done) | (simp [*]; done)), H', ⟨Nat.le_refl _⟩, ⟨by (with_reducible repeat (first | apply Kd.V_alloc | apply Kd.V_drewN | apply Kd.V_drew)); exact Kd.V_mono HO0_1.out (fun _ hk => ⟨hk.1.1, ⟨hk.1.2, hk.2⟩⟩)⟩, ⟨by (with_reducible repeat (first | refine blk_drewN ?_ _ | refine blk_drew ?_ | refine blk_alloc ?_ _)); exact BK170.out⟩, ⟨by (with_reducible repeat (first | refine blk_drewN ?_ _ | refine blk_drew ?_ | refine blk_alloc ?_ _)); exact BK171.out⟩, ⟨by repeat (first | (with_reducible first | exact HB.out | apply below_alloc | apply pw_below_drewN | apply below_drew1 | refine below_set ?_ GE170.out | refine below_set ?_ GE171.out) | exact HB.out)⟩⟩
  case round =>
    clear H'
    try clear c1
    try clear c2
    try clear p2
    obtain ⟨x11_1, x171000_1, x171001_1, x172000_1, u171001, rfl, HA, HK1, HO_171001, BK170, BK171, HB⟩ := hrel
    cases gk with
    | zero => exact absurd HA.out (by simp [term_At.l0])
    | succ k1 =>
      have H := HA.out
      clear HA
      simp only [term_At.l0] at H
      by_cases c5 : x11_1 < (l1.length : Int)
      · rw [if_pos c5] at H
        have c5b0 : decide (x11_1 < (l1.length : Int)) = true := decide_eq_true c5
        clear c5
        by_cases c6 : 0 ≤ x11_1
        · rw [if_pos c6] at H
          have c6b0 : decide (0 ≤ x11_1) = true := decide_eq_true c6
          clear c6
          by_cases c7 : x11_1 < (l1.length : Int)
          · rw [if_pos c7] at H
            have c7b0 : decide (x11_1 < (l1.length : Int)) = true := decide_eq_true c7
            clear c7
            replace H := Option.bind_eq_some_iff.mp H
            obtain ⟨t173, A80, H⟩ := H
            replace H : (if (rd l1 x11_1) < 0 then (some (0, ([] : List (S30)), false)) else (if (rd l1 x11_1) ≥ (t173.length : Int) then (some (0, ([] : List (S30)), false)) else (if 0 ≤ (rd l1 x11_1) then (if (rd l1 x11_1) < (t173.length : Int) then (term_At.l0 k1 l1 (l1.length : Int) (wrap64 (x11_1 + 1)) ((rd_T30 t173 (rd l1 x11_1)).f0) ((rd_T30 t173 (rd l1 x11_1)).f1)) else (none)) else (none)))) = some (r1, r2, r3) := H
            have A8 := Aside0.mk A80
            clear A80
            by_cases c9 : (rd l1 x11_1) < 0
            · rw [if_pos c9] at H
              have c9b0 : decide ((rd l1 x11_1) < 0) = true := decide_eq_true c9
              clear c9
              simp only [Option.some.injEq, Prod.mk.injEq] at H
              obtain ⟨rfl, rfl, rfl⟩ := H
              have p172 : 0 ≤ (x11_1 : Int) := of_decide_eq_true (by first | (with_reducible assumption) | assumption)
              have q172 : x11_1 < (l1.length : Int) := of_decide_eq_true (by first | (with_reducible assumption) | assumption)
              obtain ⟨ad172, e172, hx172_0⟩ := Kd.at_int HR1.out x11_1 p172 q172
              cases e172
              replace hx172_0 := (HB.out.cell (World.block_lt_of_cell? w _ hx172_0)).trans hx172_0
              replace p172 := eq_true p172
              replace q172 := eq_true q172
              have hnb10 := NB170_171.out
              have hnc10 := NB171_170.out
              have hcz11_0 : wr.cell? ⟨gb170, 0, none⟩ = some (.int .i64 x171000_1) := (blk_cell BK170.out 0).trans rfl
              have hcz11_1 : wr.cell? ⟨gb170, 1, none⟩ = some (u171001) := (blk_cell BK170.out 1).trans rfl
              have hfz11_0 := blk_frozen BK170.out 0
              have hfz11_1 := blk_frozen BK170.out 1
              obtain ⟨Ao12, co12, eo12⟩ := Kd.V_slice HO_171001.out
              subst eo12
              go_wp2_with (first | ((with_reducible refine gate_callee (f := 74) rfl ?_); refine goesL_ (some 16) rfl rfl Try.func74 (by kernel_rfl) rfl #[.agg #[.int .i64 x171000_1, .slice Ao12 x171001_1.length co12]] rfl (by (try simp only [List.map_toArray, List.map_cons, List.map_nil]); first | done | rfl | (simp only [List.length_drop, List.length_take]; rfl)) ?_; (with_reducible refine (term_parts.calls x171000_1 (fun k_ => ((P0_1_ k_ ∨ w.heap.size ≤ k_) ∧ (k_ ≠ gb170 ∧ k_ ≠ gb171))) _ _ x171001_1 t173 _ ?side1 A8.out).mono ?_); (case side1 => exact HO_171001.out); rintro e w13 ⟨v174, rfl, ho0, hb⟩; refine ⟨_, rfl, ?_⟩; have n0_ := Aside0.mk (Kd.V_below (by (with_reducible repeat (first | apply Kd.V_alloc | apply Kd.V_drewN | apply Kd.V_drew)); exact HO_171001.out) hb); have n1_ := Aside0.mk (Kd.V_lower (Kd.V_mono (ok' := fun k_ => (P0_1_ k_ ∨ w.heap.size ≤ k_) ∧ k_ ≠ gb170 ∧ k_ ≠ gb171) ho0 (fun k_ hk_ => ⟨Or.elim hk_ (fun hs_ => hs_.1) (fun hn_ => (.inr (Nat.le_trans (below_size (by repeat (first | (with_reducible first | exact HB.out | apply below_alloc | apply pw_below_drewN | apply below_drew1 | refine below_set ?_ GE170.out | refine below_set ?_ GE171.out) | exact HB.out))) hn_))), Or.elim hk_ (fun hs_ => hs_.2.1) (fun hn_ => (Kd.freshB (g := gb170) (o := .cells #[.int .i64 x171000_1, .slice Ao12 x171001_1.length co12] 30 (0, 0)) (by (with_reducible repeat (first | refine blk_drewN ?_ _ | refine blk_drew ?_ | refine blk_alloc ?_ _)); exact BK170.out) k_ hn_)), Or.elim hk_ (fun hs_ => hs_.2.2) (fun hn_ => (Kd.freshB (g := gb171) (o := .cells #[.int .i64 x172000_1, .slice none 0 0] 30 (0, 0)) (by (with_reducible repeat (first | refine blk_drewN ?_ _ | refine blk_drew ?_ | refine blk_alloc ?_ _)); exact BK171.out) k_ hn_))⟩)) (below_size (by repeat (first | (with_reducible first | exact HB.out | apply below_alloc | apply pw_below_drewN | apply below_drew1 | refine below_set ?_ GE170.out | refine below_set ?_ GE171.out) | exact HB.out)))); have n2_ := Aside0.mk (blk_below (g := gb170) (o := .cells #[.int .i64 x171000_1, .slice Ao12 x171001_1.length co12] 30 (0, 0)) (by (with_reducible repeat (first | refine blk_drewN ?_ _ | refine blk_drew ?_ | refine blk_alloc ?_ _)); exact BK170.out) hb); have n3_ := Aside0.mk (blk_below (g := gb171) (o := .cells #[.int .i64 x172000_1, .slice none 0 0] 30 (0, 0)) (by (with_reducible repeat (first | refine blk_drewN ?_ _ | refine blk_drew ?_ | refine blk_alloc ?_ _)); exact BK171.out) hb); have n4_ := Aside0.mk (below_step (by repeat (first | (with_reducible first | exact HB.out | apply below_alloc | apply pw_below_drewN | apply below_drew1 | refine below_set ?_ GE170.out | refine below_set ?_ GE171.out) | exact HB.out)) hb); clear HO_171001; clear BK170; clear BK171; clear HB; have HO_171001 := n0_; have HO175 := n1_; have BK170 := n2_; have BK171 := n3_; have HB := n4_; clear n0_ n1_ n2_ n3_ n4_; (try clear hb); (try clear hb2); (try clear hk); (try clear hi); (try clear ho0); have hcz14_0 : w13.cell? ⟨gb171, 0, none⟩ = some (.int .i64 x172000_1) := (blk_cell BK171.out 0).trans rfl; have hcz14_1 : w13.cell? ⟨gb171, 1, none⟩ = some (.slice none 0 0) := (blk_cell BK171.out 1).trans rfl; have hfz14_0 := blk_frozen BK171.out 0; have hfz14_1 := blk_frozen BK171.out 1))
              refine bodyPost_ret (results_ct rfl _ _ gb171 30 #[.int .i64 0, .slice none 0 0] (0, 0) _ rfl (by (with_reducible repeat (first | refine blk_drewN ?_ _ | refine blk_drew ?_ | refine blk_alloc ?_ _)); refine blk_put (cs := #[.int .i64 0, .slice none 0 0]) ?_ 1 _ rfl; (with_reducible repeat (first | refine blk_drewN ?_ _ | refine blk_drew ?_ | refine blk_alloc ?_ _)); refine blk_put (cs := #[.int .i64 x172000_1, .slice none 0 0]) ?_ 0 _ rfl; (with_reducible repeat (first | refine blk_drewN ?_ _ | refine blk_drew ?_ | refine blk_alloc ?_ _)); exact BK171.out) Try.underlying30 rfl (by kernel_rfl)) rfl ?_
              exact ⟨_, by first | rfl | (simp [errW_none, errW_some] <;> rfl) | (simp [*, errW_none, errW_some] <;> rfl), by first | exact Kd.R_nil _ _ _ _ _ | exact Kd.N_nil _ _ _ _ _ | exact Kd.V_nil _ _ _ _ _ | exact Kd.Q_nil _ _ _ _ _ | exact Kd.S_nil _ _ _ _ _, by repeat (first | (with_reducible first | exact HB.out | apply below_alloc | apply pw_below_drewN | apply below_drew1 | refine below_set ?_ GE170.out | refine below_set ?_ GE171.out) | exact HB.out)⟩
            · rw [if_neg c9] at H
              have c9b0 : decide ((rd l1 x11_1) < 0) = false := decide_eq_false c9
              clear c9
              by_cases c15 : (rd l1 x11_1) ≥ (t173.length : Int)
              · rw [if_pos c15] at H
                have c15b0 : decide ((t173.length : Int) ≤ (rd l1 x11_1)) = true := decide_eq_true c15
                clear c15
                simp only [Option.some.injEq, Prod.mk.injEq] at H
                obtain ⟨rfl, rfl, rfl⟩ := H
                have p172 : 0 ≤ (x11_1 : Int) := of_decide_eq_true (by first | (with_reducible assumption) | assumption)
                have q172 : x11_1 < (l1.length : Int) := of_decide_eq_true (by first | (with_reducible assumption) | assumption)
                obtain ⟨ad172, e172, hx172_0⟩ := Kd.at_int HR1.out x11_1 p172 q172
                cases e172
                replace hx172_0 := (HB.out.cell (World.block_lt_of_cell? w _ hx172_0)).trans hx172_0
                replace p172 := eq_true p172
                replace q172 := eq_true q172
                have hnb16 := NB170_171.out
                have hnc16 := NB171_170.out
                have hcz17_0 : wr.cell? ⟨gb170, 0, none⟩ = some (.int .i64 x171000_1) := (blk_cell BK170.out 0).trans rfl
                have hcz17_1 : wr.cell? ⟨gb170, 1, none⟩ = some (u171001) := (blk_cell BK170.out 1).trans rfl
                have hfz17_0 := blk_frozen BK170.out 0
                have hfz17_1 := blk_frozen BK170.out 1
                obtain ⟨Ao18, co18, eo18⟩ := Kd.V_slice HO_171001.out
                subst eo18
                go_wp2_with (first | ((with_reducible refine gate_callee (f := 74) rfl ?_); refine goesL_ (some 16) rfl rfl Try.func74 (by kernel_rfl) rfl #[.agg #[.int .i64 x171000_1, .slice Ao18 x171001_1.length co18]] rfl (by (try simp only [List.map_toArray, List.map_cons, List.map_nil]); first | done | rfl | (simp only [List.length_drop, List.length_take]; rfl)) ?_; (with_reducible refine (term_parts.calls x171000_1 (fun k_ => ((P0_1_ k_ ∨ w.heap.size ≤ k_) ∧ (k_ ≠ gb170 ∧ k_ ≠ gb171))) _ _ x171001_1 t173 _ ?side1 A8.out).mono ?_); (case side1 => exact HO_171001.out); rintro e w19 ⟨v174, rfl, ho0, hb⟩; refine ⟨_, rfl, ?_⟩; have n0_ := Aside0.mk (Kd.V_below (by (with_reducible repeat (first | apply Kd.V_alloc | apply Kd.V_drewN | apply Kd.V_drew)); exact HO_171001.out) hb); have n1_ := Aside0.mk (Kd.V_lower (Kd.V_mono (ok' := fun k_ => (P0_1_ k_ ∨ w.heap.size ≤ k_) ∧ k_ ≠ gb170 ∧ k_ ≠ gb171) ho0 (fun k_ hk_ => ⟨Or.elim hk_ (fun hs_ => hs_.1) (fun hn_ => (.inr (Nat.le_trans (below_size (by repeat (first | (with_reducible first | exact HB.out | apply below_alloc | apply pw_below_drewN | apply below_drew1 | refine below_set ?_ GE170.out | refine below_set ?_ GE171.out) | exact HB.out))) hn_))), Or.elim hk_ (fun hs_ => hs_.2.1) (fun hn_ => (Kd.freshB (g := gb170) (o := .cells #[.int .i64 x171000_1, .slice Ao18 x171001_1.length co18] 30 (0, 0)) (by (with_reducible repeat (first | refine blk_drewN ?_ _ | refine blk_drew ?_ | refine blk_alloc ?_ _)); exact BK170.out) k_ hn_)), Or.elim hk_ (fun hs_ => hs_.2.2) (fun hn_ => (Kd.freshB (g := gb171) (o := .cells #[.int .i64 x172000_1, .slice none 0 0] 30 (0, 0)) (by (with_reducible repeat (first | refine blk_drewN ?_ _ | refine blk_drew ?_ | refine blk_alloc ?_ _)); exact BK171.out) k_ hn_))⟩)) (below_size (by repeat (first | (with_reducible first | exact HB.out | apply below_alloc | apply pw_below_drewN | apply below_drew1 | refine below_set ?_ GE170.out | refine below_set ?_ GE171.out) | exact HB.out)))); have n2_ := Aside0.mk (blk_below (g := gb170) (o := .cells #[.int .i64 x171000_1, .slice Ao18 x171001_1.length co18] 30 (0, 0)) (by (with_reducible repeat (first | refine blk_drewN ?_ _ | refine blk_drew ?_ | refine blk_alloc ?_ _)); exact BK170.out) hb); have n3_ := Aside0.mk (blk_below (g := gb171) (o := .cells #[.int .i64 x172000_1, .slice none 0 0] 30 (0, 0)) (by (with_reducible repeat (first | refine blk_drewN ?_ _ | refine blk_drew ?_ | refine blk_alloc ?_ _)); exact BK171.out) hb); have n4_ := Aside0.mk (below_step (by repeat (first | (with_reducible first | exact HB.out | apply below_alloc | apply pw_below_drewN | apply below_drew1 | refine below_set ?_ GE170.out | refine below_set ?_ GE171.out) | exact HB.out)) hb); clear HO_171001; clear BK170; clear BK171; clear HB; have HO_171001 := n0_; have HO175 := n1_; have BK170 := n2_; have BK171 := n3_; have HB := n4_; clear n0_ n1_ n2_ n3_ n4_; (try clear hb); (try clear hb2); (try clear hk); (try clear hi); (try clear ho0); obtain ⟨Ao20, co20, eo20⟩ := Kd.V_slice HO175.out; subst eo20; have hcz21_0 : w19.cell? ⟨gb171, 0, none⟩ = some (.int .i64 x172000_1) := (blk_cell BK171.out 0).trans rfl; have hcz21_1 : w19.cell? ⟨gb171, 1, none⟩ = some (.slice none 0 0) := (blk_cell BK171.out 1).trans rfl; have hfz21_0 := blk_frozen BK171.out 0; have hfz21_1 := blk_frozen BK171.out 1))
                refine bodyPost_ret (results_ct rfl _ _ gb171 30 #[.int .i64 0, .slice none 0 0] (0, 0) _ rfl (by (with_reducible repeat (first | refine blk_drewN ?_ _ | refine blk_drew ?_ | refine blk_alloc ?_ _)); refine blk_put (cs := #[.int .i64 0, .slice none 0 0]) ?_ 1 _ rfl; (with_reducible repeat (first | refine blk_drewN ?_ _ | refine blk_drew ?_ | refine blk_alloc ?_ _)); refine blk_put (cs := #[.int .i64 x172000_1, .slice none 0 0]) ?_ 0 _ rfl; (with_reducible repeat (first | refine blk_drewN ?_ _ | refine blk_drew ?_ | refine blk_alloc ?_ _)); exact BK171.out) Try.underlying30 rfl (by kernel_rfl)) rfl ?_
                exact ⟨_, by first | rfl | (simp [errW_none, errW_some] <;> rfl) | (simp [*, errW_none, errW_some] <;> rfl), by first | exact Kd.R_nil _ _ _ _ _ | exact Kd.N_nil _ _ _ _ _ | exact Kd.V_nil _ _ _ _ _ | exact Kd.Q_nil _ _ _ _ _ | exact Kd.S_nil _ _ _ _ _, by repeat (first | (with_reducible first | exact HB.out | apply below_alloc | apply pw_below_drewN | apply below_drew1 | refine below_set ?_ GE170.out | refine below_set ?_ GE171.out) | exact HB.out)⟩
              · rw [if_neg c15] at H
                have c15b0 : decide ((t173.length : Int) ≤ (rd l1 x11_1)) = false := decide_eq_false c15
                clear c15
                by_cases c22 : 0 ≤ (rd l1 x11_1)
                · rw [if_pos c22] at H
                  have c22b0 : decide (0 ≤ (rd l1 x11_1)) = true := decide_eq_true c22
                  clear c22
                  by_cases c23 : (rd l1 x11_1) < (t173.length : Int)
                  · rw [if_pos c23] at H
                    have c23b0 : decide ((rd l1 x11_1) < (t173.length : Int)) = true := decide_eq_true c23
                    clear c23
                    have H' := Aside0.mk H
                    clear H
                    have p172 : 0 ≤ (x11_1 : Int) := of_decide_eq_true (by first | (with_reducible assumption) | assumption)
                    have q172 : x11_1 < (l1.length : Int) := of_decide_eq_true (by first | (with_reducible assumption) | assumption)
                    obtain ⟨ad172, e172, hx172_0⟩ := Kd.at_int HR1.out x11_1 p172 q172
                    cases e172
                    replace hx172_0 := (HB.out.cell (World.block_lt_of_cell? w _ hx172_0)).trans hx172_0
                    replace p172 := eq_true p172
                    replace q172 := eq_true q172
                    have hnb24 := NB170_171.out
                    have hnc24 := NB171_170.out
                    have hcz25_0 : wr.cell? ⟨gb170, 0, none⟩ = some (.int .i64 x171000_1) := (blk_cell BK170.out 0).trans rfl
                    have hcz25_1 : wr.cell? ⟨gb170, 1, none⟩ = some (u171001) := (blk_cell BK170.out 1).trans rfl
                    have hfz25_0 := blk_frozen BK170.out 0
                    have hfz25_1 := blk_frozen BK170.out 1
                    obtain ⟨Ao26, co26, eo26⟩ := Kd.V_slice HO_171001.out
                    subst eo26
                    go_wp2_with (first | ((with_reducible refine gate_callee (f := 74) rfl ?_); refine goesL_ (some 16) rfl rfl Try.func74 (by kernel_rfl) rfl #[.agg #[.int .i64 x171000_1, .slice Ao26 x171001_1.length co26]] rfl (by (try simp only [List.map_toArray, List.map_cons, List.map_nil]); first | done | rfl | (simp only [List.length_drop, List.length_take]; rfl)) ?_; (with_reducible refine (term_parts.calls x171000_1 (fun k_ => ((P0_1_ k_ ∨ w.heap.size ≤ k_) ∧ (k_ ≠ gb170 ∧ k_ ≠ gb171))) _ _ x171001_1 t173 _ ?side1 A8.out).mono ?_); (case side1 => exact HO_171001.out); rintro e w27 ⟨v174, rfl, ho0, hb⟩; refine ⟨_, rfl, ?_⟩; have n0_ := Aside0.mk (Kd.V_below (by (with_reducible repeat (first | apply Kd.V_alloc | apply Kd.V_drewN | apply Kd.V_drew)); exact HO_171001.out) hb); have n1_ := Aside0.mk (Kd.V_lower (Kd.V_mono (ok' := fun k_ => (P0_1_ k_ ∨ w.heap.size ≤ k_) ∧ k_ ≠ gb170 ∧ k_ ≠ gb171) ho0 (fun k_ hk_ => ⟨Or.elim hk_ (fun hs_ => hs_.1) (fun hn_ => (.inr (Nat.le_trans (below_size (by repeat (first | (with_reducible first | exact HB.out | apply below_alloc | apply pw_below_drewN | apply below_drew1 | refine below_set ?_ GE170.out | refine below_set ?_ GE171.out) | exact HB.out))) hn_))), Or.elim hk_ (fun hs_ => hs_.2.1) (fun hn_ => (Kd.freshB (g := gb170) (o := .cells #[.int .i64 x171000_1, .slice Ao26 x171001_1.length co26] 30 (0, 0)) (by (with_reducible repeat (first | refine blk_drewN ?_ _ | refine blk_drew ?_ | refine blk_alloc ?_ _)); exact BK170.out) k_ hn_)), Or.elim hk_ (fun hs_ => hs_.2.2) (fun hn_ => (Kd.freshB (g := gb171) (o := .cells #[.int .i64 x172000_1, .slice none 0 0] 30 (0, 0)) (by (with_reducible repeat (first | refine blk_drewN ?_ _ | refine blk_drew ?_ | refine blk_alloc ?_ _)); exact BK171.out) k_ hn_))⟩)) (below_size (by repeat (first | (with_reducible first | exact HB.out | apply below_alloc | apply pw_below_drewN | apply below_drew1 | refine below_set ?_ GE170.out | refine below_set ?_ GE171.out) | exact HB.out)))); have n2_ := Aside0.mk (blk_below (g := gb170) (o := .cells #[.int .i64 x171000_1, .slice Ao26 x171001_1.length co26] 30 (0, 0)) (by (with_reducible repeat (first | refine blk_drewN ?_ _ | refine blk_drew ?_ | refine blk_alloc ?_ _)); exact BK170.out) hb); have n3_ := Aside0.mk (blk_below (g := gb171) (o := .cells #[.int .i64 x172000_1, .slice none 0 0] 30 (0, 0)) (by (with_reducible repeat (first | refine blk_drewN ?_ _ | refine blk_drew ?_ | refine blk_alloc ?_ _)); exact BK171.out) hb); have n4_ := Aside0.mk (below_step (by repeat (first | (with_reducible first | exact HB.out | apply below_alloc | apply pw_below_drewN | apply below_drew1 | refine below_set ?_ GE170.out | refine below_set ?_ GE171.out) | exact HB.out)) hb); clear HO_171001; clear BK170; clear BK171; clear HB; have HO_171001 := n0_; have HO175 := n1_; have BK170 := n2_; have BK171 := n3_; have HB := n4_; clear n0_ n1_ n2_ n3_ n4_; (try clear hb); (try clear hb2); (try clear hk); (try clear hi); (try clear ho0); obtain ⟨Ao28, co28, eo28⟩ := Kd.V_slice HO175.out; subst eo28; have p176 : 0 ≤ ((rd l1 x11_1) : Int) := of_decide_eq_true (by first | (with_reducible assumption) | assumption); have q176 : (rd l1 x11_1) < (t173.length : Int) := of_decide_eq_true (by first | (with_reducible assumption) | assumption); obtain ⟨ad176, A176_1, c176_1, e176, hx176_0, hx176_1, hl176_1, hi176_1⟩ := at_T30 (Kd.V_reads' HO175.out).2.2 (rd l1 x11_1) p176 q176; cases e176; obtain ⟨ce176, hce176, hMe176, hcc176⟩ := Kd.V_get HO175.out z30 (rd l1 x11_1) p176 (by first | exact q176 | exact of_decide_eq_true (by first | (with_reducible assumption) | assumption) | (have e_ := (Kd.V_reads' HO175.out).1; omega)); obtain ⟨ua176_1, uc176_1, rfl, ul176_1, ge176_1⟩ := k30_openF hMe176; have hv176_1 := hcc176 1 _ rfl; rw [add_field _ _ 1 (by omega)] at hv176_1; replace hv176_1 := Option.some.inj (hv176_1.symm.trans hx176_1); injection hv176_1 with hva_ hvn_ hvc_; rw [hva_] at ge176_1; rw [hvc_] at ul176_1; have HL176_1 := Aside0.mk (show Kd.V k30 30 _ w.heap.size _ _ ((rd_T30 t173 (rd l1 x11_1)).f1) from Kd.V_mk ul176_1 ge176_1); clear hva_ hvn_ hvc_ ge176_1 ul176_1; clear hcc176 hce176; have HR176_1 := Aside0.mk hi176_1; have HC176_1 := Aside0.mk hl176_1; clear hi176_1 hl176_1; replace p176 := eq_true p176; replace q176 := eq_true q176; have hcz29_0 : w27.cell? ⟨gb170, 0, none⟩ = some (.int .i64 x171000_1) := (blk_cell BK170.out 0).trans rfl; have hcz29_1 : w27.cell? ⟨gb170, 1, none⟩ = some (.slice Ao26 x171001_1.length co26) := (blk_cell BK170.out 1).trans rfl; have hfz29_0 := blk_frozen BK170.out 0; have hfz29_1 := blk_frozen BK170.out 1))
                    go_roundg k1
                    case measure => have := HK1.out; omega
                    case rel => exact ⟨(wrap64 (x11_1 + 1)), ((rd_T30 t173 (rd l1 x11_1)).f0), ((rd_T30 t173 (rd l1 x11_1)).f1), (x172000_1), (.slice A176_1 ((rd_T30 t173 (rd l1 x11_1)).f1).length c176_1), (by first | rfl | (simp; done) | (simp [*]; done)), H', ⟨by have := HK1.out; omega⟩, ⟨by (with_reducible repeat (first | apply Kd.V_alloc | apply Kd.V_drewN | apply Kd.V_drew)); exact Kd.V_mono (Kd.V_far (p := ⟨gb170, 1, none⟩) (Kd.V_far (p := ⟨gb170, 0, none⟩) (Kd.V_mono HL176_1.out (fun k_ hk => (⟨hk, hk.2.1⟩ : _ ∧ k_ ≠ gb170))) (fun _ hk => hk.2) (.int .i64 ((rd_T30 t173 (rd l1 x11_1)).f0))) (fun _ hk => hk.2) (.slice A176_1 ((rd_T30 t173 (rd l1 x11_1)).f1).length c176_1)) (fun _ hk => ⟨hk.1.1, ⟨hk.1.2.1, hk.1.2.2⟩⟩)⟩, ⟨by (with_reducible repeat (first | refine blk_drewN ?_ _ | refine blk_drew ?_ | refine blk_alloc ?_ _)); refine blk_put (cs := #[.int .i64 ((rd_T30 t173 (rd l1 x11_1)).f0), .slice Ao26 x171001_1.length co26]) ?_ 1 _ rfl; (with_reducible repeat (first | refine blk_drewN ?_ _ | refine blk_drew ?_ | refine blk_alloc ?_ _)); refine blk_put (cs := #[.int .i64 x171000_1, .slice Ao26 x171001_1.length co26]) ?_ 0 _ rfl; (with_reducible repeat (first | refine blk_drewN ?_ _ | refine blk_drew ?_ | refine blk_alloc ?_ _)); exact BK170.out⟩, ⟨by (with_reducible repeat (first | refine blk_drewN ?_ _ | refine blk_drew ?_ | refine blk_alloc ?_ _)); refine blk_far ?_ NB171_170.out _; (with_reducible repeat (first | refine blk_drewN ?_ _ | refine blk_drew ?_ | refine blk_alloc ?_ _)); refine blk_far ?_ NB171_170.out _; (with_reducible repeat (first | refine blk_drewN ?_ _ | refine blk_drew ?_ | refine blk_alloc ?_ _)); exact BK171.out⟩, ⟨by repeat (first | (with_reducible first | exact HB.out | apply below_alloc | apply pw_below_drewN | apply below_drew1 | refine below_set ?_ GE170.out | refine below_set ?_ GE171.out) | exact HB.out)⟩⟩
                  · rw [if_neg c23] at H
                    exact absurd H (by simp)
                · rw [if_neg c22] at H
                  exact absurd H (by simp)
          · rw [if_neg c7] at H
            exact absurd H (by simp)
        · rw [if_neg c6] at H
          exact absurd H (by simp)
      · rw [if_neg c5] at H
        have c5b0 : decide (x11_1 < (l1.length : Int)) = false := decide_eq_false c5
        clear c5
        simp only [Option.some.injEq, Prod.mk.injEq] at H
        obtain ⟨rfl, rfl, rfl⟩ := H
        have hnb30 := NB170_171.out
        have hnc30 := NB171_170.out
        have hcz31_0 : wr.cell? ⟨gb170, 0, none⟩ = some (.int .i64 x171000_1) := (blk_cell BK170.out 0).trans rfl
        have hcz31_1 : wr.cell? ⟨gb170, 1, none⟩ = some (u171001) := (blk_cell BK170.out 1).trans rfl
        have hfz31_0 := blk_frozen BK170.out 0
        have hfz31_1 := blk_frozen BK170.out 1
        have hcz32_0 : wr.cell? ⟨gb171, 0, none⟩ = some (.int .i64 x172000_1) := (blk_cell BK171.out 0).trans rfl
        have hcz32_1 : wr.cell? ⟨gb171, 1, none⟩ = some (.slice none 0 0) := (blk_cell BK171.out 1).trans rfl
        have hfz32_0 := blk_frozen BK171.out 0
        have hfz32_1 := blk_frozen BK171.out 1
        obtain ⟨Ao33, co33, eo33⟩ := Kd.V_slice HO_171001.out
        subst eo33
        go_wp2
        refine bodyPost_ret (results_ct rfl _ _ gb171 30 #[.int .i64 x171000_1, .slice Ao33 x171001_1.length co33] (0, 0) _ rfl (by (with_reducible repeat (first | refine blk_drewN ?_ _ | refine blk_drew ?_ | refine blk_alloc ?_ _)); refine blk_put (cs := #[.int .i64 x171000_1, .slice none 0 0]) ?_ 1 _ rfl; (with_reducible repeat (first | refine blk_drewN ?_ _ | refine blk_drew ?_ | refine blk_alloc ?_ _)); refine blk_put (cs := #[.int .i64 x172000_1, .slice none 0 0]) ?_ 0 _ rfl; (with_reducible repeat (first | refine blk_drewN ?_ _ | refine blk_drew ?_ | refine blk_alloc ?_ _)); exact BK171.out) Try.underlying30 rfl (by kernel_rfl)) rfl ?_
        exact ⟨_, by first | rfl | (simp [errW_none, errW_some] <;> rfl) | (simp [*, errW_none, errW_some] <;> rfl), by (with_reducible repeat (first | apply Kd.V_alloc | apply Kd.V_drewN | apply Kd.V_drew)); exact Kd.V_mono (Kd.V_far (p := ⟨gb171, 1, none⟩) (Kd.V_far (p := ⟨gb171, 0, none⟩) (Kd.V_mono HO_171001.out (fun k_ hk => (⟨hk, hk.2.2⟩ : _ ∧ k_ ≠ gb171))) (fun _ hk => hk.2) (.int .i64 x171000_1)) (fun _ hk => hk.2) (.slice Ao33 x171001_1.length co33)) (fun _ hk => hk.1.1), by repeat (first | (with_reducible first | exact HB.out | apply below_alloc | apply pw_below_drewN | apply below_drew1 | refine below_set ?_ GE170.out | refine below_set ?_ GE171.out) | exact HB.out)⟩
end Go.Proofs.Ytpfddihcikiofaa.P
end

section
namespace Go.Proofs.Ytpfddihcikiofaa.P
open Go.RowKit Go.Proofs.YtpfddihcikiofaaW.PrintWords Go.Proofs.YtpfddihcikiofaaW.PrintLast Go.Proofs.YtpfddihcikiofaaW.PrintMore
set_option linter.unusedVariables false
set_option linter.unusedSimpArgs false
theorem eqv_symm {a b : S30} (h : cmpT a b = 0) : cmpT b a = 0 := by have := cmp_anti a b; omega
theorem eqv_trans {a b c : S30} (h : cmpT a b = 0) (h2 : cmpT b c = 0) : cmpT a c = 0 := by
  have := cmp_trans a b c (by omega) (by omega)
  exact this.2.2 ⟨h, h2⟩
theorem cmp_zero' {f g : Int} {l m : List S30} (hfg : f = g) (h : ¬ f < 0 → l.length = m.length ∧ cmpTs l m = 0) : cmpT ⟨f, l⟩ ⟨g, m⟩ = 0 := by
  subst hfg
  by_cases hf : f < 0
  · simp [cmpT, hf, cmpI_self]
  · obtain ⟨h1, h2⟩ := h hf
    simp [cmpT, hf, cmpI_self, h1, orI, h2]
theorem cmpTs_zero_iff : ∀ l m : List S30, l.length = m.length → (cmpTs l m = 0 ↔ ∀ (j : Nat) (x y : S30), l[j]? = some x → m[j]? = some y → cmpT x y = 0)
  | [], [], _ => by simp [cmpTs]
  | x :: l, y :: m, h => by
    rw [cmpTs]
    have ih := cmpTs_zero_iff l m (by simpa using h)
    by_cases h0 : cmpT x y = 0
    · rw [if_pos h0, ih]
      constructor
      · intro h1 j a b ha hb
        cases j with
        | zero => simp at ha hb; subst ha hb; exact h0
        | succ j => simp at ha hb; exact h1 j a b ha hb
      · intro h1 j a b ha hb
        exact h1 (j + 1) a b (by simpa using ha) (by simpa using hb)
    · rw [if_neg h0]
      constructor
      · intro h1; exact absurd h1 h0
      · intro h1; exact absurd (h1 0 x y rfl rfl) h0
theorem eqv_nums : ∀ a b : S30, cmpT a b = 0 → (nodes a).map (·.f0) = (nodes b).map (·.f0) := by
  refine S30.ind ?_
  intro f l ih b h
  obtain ⟨g, m⟩ := b
  obtain ⟨rfl, h2⟩ := cmp_zero h
  by_cases hf : f < 0
  · simp [nodes, hf]
  · obtain ⟨h3, h4⟩ := h2 hf
    have key : ∀ (l m : List S30), (∀ x ∈ l, ∀ y, cmpT x y = 0 → (nodes x).map (·.f0) = (nodes y).map (·.f0)) → l.length = m.length → cmpTs l m = 0 → (nodess l).map (·.f0) = (nodess m).map (·.f0) := by
      intro l
      induction l with
      | nil => intro m _ hl _; cases m with
        | nil => rfl
        | cons => simp at hl
      | cons x l ihl =>
        intro m h hl hc
        cases m with
        | nil => simp at hl
        | cons y m =>
          rw [cmpTs] at hc
          split at hc
          · rename_i h0
            rw [nodess, nodess, List.map_append, List.map_append, h x (by simp) y h0, ihl m (fun x hx => h x (by simp [hx])) (by simpa using hl) hc]
          · rename_i h0; contradiction
    have := key l m (fun x hx y => ih x hx y) h3 h4
    simp [nodes, hf, this]
theorem eqv_fit {a b : S30} (h : cmpT a b = 0) (ha : fit a) : fit b := by
  have h1 := eqv_nums a b h
  refine ⟨by rw [← cmp_len a b h]; exact ha.1, fun x hx => ?_⟩
  have h2 : x.f0 ∈ (nodes b).map (·.f0) := List.mem_map_of_mem hx
  rw [← h1, List.mem_map] at h2
  obtain ⟨y, hy, e⟩ := h2
  rw [← e]
  exact ha.2 y hy
def atT : List Int → S30 → Option S30
  | [], t => some t
  | i :: q, t => if i < 0 ∨ ((partsT t).length : Int) ≤ i then none else atT q (rd_T30 (partsT t) i)
def put0 : List Int → S30 → S30 → Option S30
  | [], _, u => some u
  | i :: q, t, u => if i < 0 ∨ ((partsT t).length : Int) ≤ i then none else (put0 q (rd_T30 (partsT t) i) u).map fun x => ⟨t.f0, t.f1.set i.toNat x⟩
theorem parts_at {t : S30} {i : Int} (h : ¬ (i < 0 ∨ ((partsT t).length : Int) ≤ i)) : ¬ t.f0 < 0 ∧ ∃ hi : i.toNat < t.f1.length, rd_T30 (partsT t) i = t.f1[i.toNat] := by
  unfold partsT at *
  by_cases hf : t.f0 < 0
  · simp [hf] at h; omega
  · simp only [hf, if_false] at *
    refine ⟨fun h => h, by omega, ?_⟩
    rw [← rdC_at t.f1 i.toNat (by omega)]
    congr 1
    omega
theorem put_eqv : ∀ (q : List Int) (t u : S30), match put0 q t u, putT q t u with
    | some z, some z' => cmpT z' z = 0
    | none, none => True
    | _, _ => False
  | [], t, u => by simp only [put0, putT]; exact cmp_clone u
  | i :: q, t, u => by
    simp only [put0, putT]
    by_cases h : i < 0 ∨ ((partsT t).length : Int) ≤ i
    · rw [if_pos h, if_pos h]; trivial
    · rw [if_neg h, if_neg h]
      obtain ⟨hf, hi, hrd⟩ := parts_at h
      have ih := put_eqv q (rd_T30 (partsT t) i) u
      cases h0 : put0 q (rd_T30 (partsT t) i) u with
      | none => rw [h0] at ih; cases h1 : putT q (rd_T30 (partsT t) i) u with
        | none => trivial
        | some z' => rw [h1] at ih; exact ih
      | some z =>
        rw [h0] at ih
        cases h1 : putT q (rd_T30 (partsT t) i) u with
        | none => rw [h1] at ih; exact ih
        | some z' =>
          rw [h1] at ih
          simp only [Option.map_some]
          refine cmp_zero' rfl (fun _ => ?_)
          have hp : (cloneT t).f1 = t.f1.map cloneT := by rw [parts_clone]; unfold partsT; rw [if_neg hf]
          have hlen : ((cloneT t).f1.set i.toNat z').length = (t.f1.set i.toNat z).length := by rw [hp]; simp
          refine ⟨hlen, (cmpTs_zero_iff _ _ hlen).2 (fun j x y hx hy => ?_)⟩
          rw [hp] at hx
          by_cases hj : j = i.toNat
          · subst hj
            rw [List.getElem?_set_self (by simpa using hi)] at hx
            rw [List.getElem?_set_self hi] at hy
            injection hx with hx
            injection hy with hy
            rw [← hx, ← hy]
            exact ih
          · rw [List.getElem?_set_ne (fun e => hj e.symm)] at hx hy
            rw [List.getElem?_map, hy] at hx
            injection hx with hx
            rw [← hx]
            exact cmp_clone y
theorem countN_nodes {f : Int} {l : List S30} (hf : ¬ f < 0) (v : Int) (hv : v < 0) : countN v (nodes ⟨f, l⟩) = countN v (nodess l) := by
  have hn : nodes ⟨f, l⟩ = ⟨f, l⟩ :: nodess l := by simp [nodes, hf]
  rw [hn]
  unfold countN
  rw [List.filter_cons_of_neg]
  simp
  omega
theorem nodess_app (a b : List S30) : nodess (a ++ b) = nodess a ++ nodess b := by
  induction a with
  | nil => rfl
  | cons x a ih => rw [List.cons_append, nodess, nodess, ih, List.append_assoc]
theorem nodess_split (l : List S30) (i : Nat) (hi : i < l.length) (y : S30) : nodess (l.set i y) = nodess (l.take i) ++ nodes y ++ nodess (l.drop (i + 1)) := by
  have h : l.set i y = l.take i ++ ([y] ++ l.drop (i + 1)) := by rw [List.set_eq_take_append_cons_drop, if_pos hi]; rfl
  rw [h, nodess_app, nodess_app]
  simp [nodess]
theorem nodess_split' (l : List S30) (i : Nat) (hi : i < l.length) : nodess l = nodess (l.take i) ++ nodes l[i] ++ nodess (l.drop (i + 1)) := by
  have := nodess_split l i hi l[i]
  rw [List.set_getElem_self] at this
  exact this
theorem cmpTs_self : ∀ b : List S30, cmpTs b b = 0
  | [] => by rw [cmpTs]
  | x :: b => by rw [cmpTs, if_pos (cmp_self x)]; exact cmpTs_self b
theorem put_at : ∀ (q : List Int) (t s : S30), atT q t = some s → put0 q t s = some t
  | [], t, s, h => by simp only [atT, Option.some.injEq] at h; simp only [put0, h]
  | i :: q, t, s, h => by
    simp only [atT, put0] at h ⊢
    by_cases hc : i < 0 ∨ ((partsT t).length : Int) ≤ i
    · rw [if_pos hc] at h; cases h
    · rw [if_neg hc] at h ⊢
      obtain ⟨hf, hi, hrd⟩ := parts_at hc
      rw [put_at q _ s h, Option.map_some, hrd, List.set_getElem_self, S30.eta]
theorem put_some : ∀ (q : List Int) (t s u : S30), atT q t = some s → ∃ z, put0 q t u = some z
  | [], t, s, u, h => ⟨u, rfl⟩
  | i :: q, t, s, u, h => by
    simp only [atT, put0] at h ⊢
    by_cases hc : i < 0 ∨ ((partsT t).length : Int) ≤ i
    · rw [if_pos hc] at h; cases h
    · rw [if_neg hc] at h ⊢
      obtain ⟨z, hz⟩ := put_some q _ s u h
      exact ⟨_, by rw [hz]; rfl⟩
theorem parts_set {f : Int} {l : List S30} (hf : ¬ f < 0) : partsT ⟨f, l⟩ = l := by unfold partsT; rw [if_neg hf]
theorem at_put : ∀ (q : List Int) (t u z : S30), put0 q t u = some z → atT q z = some u
  | [], t, u, z, h => by simp only [put0, Option.some.injEq] at h; simp only [atT, h]
  | i :: q, t, u, z, h => by
    simp only [put0] at h
    by_cases hc : i < 0 ∨ ((partsT t).length : Int) ≤ i
    · rw [if_pos hc] at h; cases h
    · rw [if_neg hc] at h
      obtain ⟨hf, hi, hrd⟩ := parts_at hc
      rw [Option.map_eq_some_iff] at h
      obtain ⟨a, ha, rfl⟩ := h
      have hi2 : i = (i.toNat : Int) := by omega
      have hpl : (partsT t).length = t.f1.length := by unfold partsT; rw [if_neg hf]
      have hrd2 : rd_T30 (t.f1.set i.toNat a) i = a := by
        have := rdC_at (t.f1.set i.toNat a) i.toNat (by simpa using hi)
        rw [← hi2] at this
        rw [this]
        simp
      simp only [atT]
      rw [parts_set hf, if_neg (by rw [List.length_set]; omega), hrd2]
      exact at_put q _ u a ha
theorem put_put : ∀ (q : List Int) (t u z w : S30), put0 q t u = some z → put0 q z w = put0 q t w
  | [], t, u, z, w, h => rfl
  | i :: q, t, u, z, w, h => by
    simp only [put0] at h ⊢
    by_cases hc : i < 0 ∨ ((partsT t).length : Int) ≤ i
    · rw [if_pos hc] at h; cases h
    · rw [if_neg hc] at h ⊢
      obtain ⟨hf, hi, hrd⟩ := parts_at hc
      rw [Option.map_eq_some_iff] at h
      obtain ⟨a, ha, rfl⟩ := h
      have hi2 : i = (i.toNat : Int) := by omega
      have hpl : (partsT t).length = t.f1.length := by unfold partsT; rw [if_neg hf]
      have hrd2 : rd_T30 (t.f1.set i.toNat a) i = a := by
        have := rdC_at (t.f1.set i.toNat a) i.toNat (by simpa using hi)
        rw [← hi2] at this
        rw [this]
        simp
      rw [parts_set hf, if_neg (by rw [List.length_set]; omega), hrd2, put_put q _ u a w ha]
      simp only [List.set_set]
theorem put_len : ∀ (q : List Int) (t s u z : S30), atT q t = some s → put0 q t u = some z → (nodes z).length + (nodes s).length = (nodes t).length + (nodes u).length
  | [], t, s, u, z, h, h2 => by simp only [atT, put0, Option.some.injEq] at h h2; subst h h2; omega
  | i :: q, t, s, u, z, h, h2 => by
    simp only [atT, put0] at h h2
    by_cases hc : i < 0 ∨ ((partsT t).length : Int) ≤ i
    · rw [if_pos hc] at h; cases h
    · rw [if_neg hc] at h h2
      obtain ⟨hf, hi, hrd⟩ := parts_at hc
      rw [Option.map_eq_some_iff] at h2
      obtain ⟨a, ha, rfl⟩ := h2
      have ih := put_len q _ s u a h ha
      rw [hrd] at ih
      have hn : ∀ l : List S30, (nodes ⟨t.f0, l⟩).length = 1 + (nodess l).length := fun l => by simp [nodes, hf]; omega
      have h0 := hn t.f1
      rw [S30.eta] at h0
      have h1 := congrArg List.length (nodess_split' t.f1 i.toNat hi)
      rw [hn, nodess_split t.f1 i.toNat hi, h0, h1]
      simp only [List.length_append]
      omega
theorem at_sub : ∀ (q : List Int) (t s : S30), atT q t = some s → (∀ v, v < 0 → countN v (nodes s) ≤ countN v (nodes t)) ∧ (nodes s).length ≤ (nodes t).length ∧ (q ≠ [] → (nodes s).length < (nodes t).length) ∧ (∀ x ∈ nodes s, x ∈ nodes t)
  | [], t, s, h => by simp only [atT, Option.some.injEq] at h; subst h; exact ⟨fun _ _ => Nat.le_refl _, Nat.le_refl _, fun h => absurd rfl h, fun x hx => hx⟩
  | i :: q, t, s, h => by
    simp only [atT] at h
    by_cases hc : i < 0 ∨ ((partsT t).length : Int) ≤ i
    · rw [if_pos hc] at h; cases h
    · rw [if_neg hc] at h
      obtain ⟨hf, hi, hrd⟩ := parts_at hc
      have ih := at_sub q _ s h
      rw [hrd] at ih
      have hn : nodes t = t :: nodess t.f1 := by
        obtain ⟨f, l⟩ := t
        have hf' : ¬ f < 0 := hf
        simp [nodes, hf']
      have hsp := nodess_split' t.f1 i.toNat hi
      refine ⟨fun v hv => ?_, ?_, fun _ => ?_, fun x hx => ?_⟩
      · have h1 := ih.1 v hv
        have h2 : countN v (nodes t) = countN v (nodess t.f1) := by have := countN_nodes (f := t.f0) (l := t.f1) hf v hv; rwa [S30.eta] at this
        rw [h2, hsp, countN_append, countN_append]
        omega
      · rw [hn, List.length_cons, hsp, List.length_append, List.length_append]; have := ih.2.1; omega
      · rw [hn, List.length_cons, hsp, List.length_append, List.length_append]; have := ih.2.1; omega
      · rw [hn, hsp]
        exact List.mem_cons_of_mem _ (List.mem_append_left _ (List.mem_append_right _ (ih.2.2.2 x hx)))
theorem at_fit {q : List Int} {t s : S30} (h : atT q t = some s) (hf : fit t) : fit s := by
  have h1 := at_sub q t s h
  exact ⟨Nat.le_trans h1.2.1 hf.1, fun x hx => hf.2 x (h1.2.2.2 x hx)⟩
theorem put_nums : ∀ (q : List Int) (t u z : S30), put0 q t u = some z → ∀ x ∈ nodes z, (∃ y ∈ nodes t, x.f0 = y.f0) ∨ (∃ y ∈ nodes u, x.f0 = y.f0)
  | [], t, u, z, h, x, hx => by simp only [put0, Option.some.injEq] at h; subst h; exact .inr ⟨x, hx, rfl⟩
  | i :: q, t, u, z, h, x, hx => by
    simp only [put0] at h
    by_cases hc : i < 0 ∨ ((partsT t).length : Int) ≤ i
    · rw [if_pos hc] at h; cases h
    · rw [if_neg hc] at h
      obtain ⟨hf, hi, hrd⟩ := parts_at hc
      rw [Option.map_eq_some_iff] at h
      obtain ⟨a, ha, rfl⟩ := h
      have ih := put_nums q _ u a ha
      rw [hrd] at ih
      have hn : nodes t = t :: nodess t.f1 := by
        obtain ⟨f, l⟩ := t
        have hf' : ¬ f < 0 := hf
        simp [nodes, hf']
      have hn2 : nodes ⟨t.f0, t.f1.set i.toNat a⟩ = ⟨t.f0, t.f1.set i.toNat a⟩ :: nodess (t.f1.set i.toNat a) := by simp [nodes, hf]
      rw [hn2, nodess_split t.f1 i.toNat hi] at hx
      have hsp := nodess_split' t.f1 i.toNat hi
      rcases List.mem_cons.1 hx with rfl | hx
      · exact .inl ⟨t, by rw [hn]; exact List.mem_cons_self, rfl⟩
      · rw [List.mem_append, List.mem_append] at hx
        rcases hx with (hx | hx) | hx
        · exact .inl ⟨x, by rw [hn, hsp]; exact List.mem_cons_of_mem _ (List.mem_append_left _ (List.mem_append_left _ hx)), rfl⟩
        · rcases ih x hx with ⟨y, hy, e⟩ | h2
          · exact .inl ⟨y, by rw [hn, hsp]; exact List.mem_cons_of_mem _ (List.mem_append_left _ (List.mem_append_right _ hy)), e⟩
          · exact .inr h2
        · exact .inl ⟨x, by rw [hn, hsp]; exact List.mem_cons_of_mem _ (List.mem_append_right _ hx), rfl⟩
theorem put_fit {q : List Int} {t u z : S30} (h : put0 q t u = some z) (hn : (nodes z).length ≤ 1000000) (ht : fit t) (hu : fit u) : fit z := by
  refine ⟨hn, fun x hx => ?_⟩
  rcases put_nums q t u z h x hx with ⟨y, hy, e⟩ | ⟨y, hy, e⟩
  · rw [e]; exact ht.2 y hy
  · rw [e]; exact hu.2 y hy
mutual
theorem flatP_at : ∀ (pre : List Int) (t : S30), ∀ e ∈ flatP pre t, ∃ q, e.1 = pre ++ q ∧ atT q t = some e.2
  | pre, ⟨f, l⟩, e, he => by
    rw [flatP] at he
    rcases List.mem_cons.1 he with rfl | he
    · exact ⟨[], by simp, rfl⟩
    · split at he
      · cases he
      · rename_i hf
        obtain ⟨i, q, h1, h2, h3⟩ := flatPs_at pre 0 l e he
        refine ⟨((i : Nat) : Int) :: q, by simpa using h1, ?_⟩
        simp only [atT]
        rw [parts_set hf, if_neg (by omega), rdC_at l i h2]
        exact h3 h2
theorem flatPs_at : ∀ (pre : List Int) (k : Nat) (l : List S30), ∀ e ∈ flatPs pre k l, ∃ (i : Nat) (q : List Int), e.1 = pre ++ ((k + i : Nat) : Int) :: q ∧ i < l.length ∧ ∀ h : i < l.length, atT q l[i] = some e.2
  | _, _, [], e, he => by cases he
  | pre, k, x :: r, e, he => by
    rw [flatPs] at he
    rcases List.mem_append.1 he with he | he
    · obtain ⟨q, h1, h2⟩ := flatP_at _ x e he
      exact ⟨0, q, by rw [h1]; simp, by simp, fun _ => h2⟩
    · obtain ⟨i, q, h1, h2, h3⟩ := flatPs_at pre (k + 1) r e he
      refine ⟨i + 1, q, by rw [h1, show k + 1 + i = k + (i + 1) by omega], by simp; omega, fun h => ?_⟩
      simpa using h3 h2
end
theorem at_len : ∀ (q : List Int) (t s : S30), atT q t = some s → q.length < (nodes t).length
  | [], t, _, _ => by have := nodes_pos t; simp; omega
  | i :: q, t, s, h => by
    simp only [atT] at h
    by_cases hc : i < 0 ∨ ((partsT t).length : Int) ≤ i
    · rw [if_pos hc] at h; cases h
    · rw [if_neg hc] at h
      obtain ⟨hf, hi, hrd⟩ := parts_at hc
      have ih := at_len q _ s h
      rw [hrd] at ih
      have hn : nodes t = t :: nodess t.f1 := by
        obtain ⟨f, l⟩ := t
        have hf' : ¬ f < 0 := hf
        simp [nodes, hf']
      have hsp := nodess_split' t.f1 i.toNat hi
      rw [hn, hsp]
      simp only [List.length_cons, List.length_append]
      omega
def atR (o : Option S30) : Int × List S30 × Bool := match o with
  | some x => (x.f0, x.f1, true)
  | none => (0, [], false)
theorem At_spec : ∀ (q pre : List Int) (t : S30), fit t → (pre ++ q).length ≤ 1000000 → Ev (fun k => term_At.l0 k (pre ++ q) ((pre ++ q).length : Int) (pre.length : Int) t.f0 t.f1) (atR (atT q t))
  | [], pre, t, hf, hl => by
    refine Ev.step (f := fun _ => some (t.f0, t.f1, true)) (fun k => by rw [term_At.l0, if_neg (by simp)]) ?_
    exact Ev.now _
  | i :: q, pre, t, hf, hl => by
    have hlt : pre.length < (pre ++ i :: q).length := by simp
    have hrd : rd (pre ++ i :: q) (pre.length : Int) = i := by
      rw [rdi_at _ _ hlt]
      simp
    have hps := parts_f t
    simp only [atT]
    by_cases hc : i < 0 ∨ ((partsT t).length : Int) ≤ i
    · rw [if_pos hc]
      refine Ev.step (f := fun _ => some (0, [], false)) (fun k => ?_) (Ev.now _)
      rw [term_At.l0, if_pos (by omega), if_pos (by omega), if_pos (by omega), hps, Option.bind_some, hrd]
      by_cases h1 : i < 0
      · rw [if_pos h1]
      · rw [if_neg h1, if_pos (by omega)]
    · rw [if_neg hc]
      have hfs : fit (rd_T30 (partsT t) i) := by
        obtain ⟨h1, hi, h2⟩ := parts_at hc
        rw [h2]
        have := (fit_parts hf).2
        refine this _ ?_
        unfold partsT
        rw [if_neg h1]
        exact List.getElem_mem hi
      have ih := At_spec q (pre ++ [i]) (rd_T30 (partsT t) i) hfs (by simpa using hl)
      refine Ev.step (f := fun k => term_At.l0 k (pre ++ i :: q) ((pre ++ i :: q).length : Int) ((pre.length + 1 : Nat) : Int) (rd_T30 (partsT t) i).f0 (rd_T30 (partsT t) i).f1) (fun k => ?_) ?_
      · rw [term_At.l0, if_pos (by omega), if_pos (by omega), if_pos (by omega), hps, Option.bind_some, hrd, if_neg (by omega), if_neg (by omega), if_pos (by omega), if_pos (by omega), wsucc pre.length 1000000 (by omega) (by omega)]
      · simpa using ih
end Go.Proofs.Ytpfddihcikiofaa.P
end

section
namespace Go.Proofs.Ytpfddihcikiofaa.P
open Go.RowKit Go.Proofs.YtpfddihcikiofaaW.PrintWords Go.Proofs.YtpfddihcikiofaaW.PrintLast Go.Proofs.YtpfddihcikiofaaW.PrintMore
set_option linter.unusedVariables false
set_option linter.unusedSimpArgs false
theorem eqv_parts {t t' : S30} (h : cmpT t t' = 0) : t.f0 = t'.f0 ∧ (partsT t).length = (partsT t').length ∧ ∀ (j : Nat) (x y : S30), (partsT t)[j]? = some x → (partsT t')[j]? = some y → cmpT x y = 0 := by
  obtain ⟨f, l⟩ := t
  obtain ⟨g, m⟩ := t'
  obtain ⟨rfl, h2⟩ := cmp_zero h
  refine ⟨rfl, ?_⟩
  unfold partsT
  by_cases hf : f < 0
  · simp [hf]
  · obtain ⟨h3, h4⟩ := h2 hf
    simp only [hf, if_false]
    exact ⟨h3, (cmpTs_zero_iff l m h3).1 h4⟩
theorem eqv_rd {t t' : S30} (h : cmpT t t' = 0) {i : Int} (hc : ¬ (i < 0 ∨ ((partsT t).length : Int) ≤ i)) : cmpT (rd_T30 (partsT t) i) (rd_T30 (partsT t') i) = 0 := by
  obtain ⟨_, h2, h3⟩ := eqv_parts h
  have hi : i = (i.toNat : Int) := by omega
  have l1 : i.toNat < (partsT t).length := by omega
  have l2 : i.toNat < (partsT t').length := by omega
  rw [hi, rdC_at _ _ l1, rdC_at _ _ l2]
  exact h3 i.toNat _ _ (List.getElem?_eq_getElem l1) (List.getElem?_eq_getElem l2)
theorem at_congr : ∀ (q : List Int) (t t' : S30), cmpT t t' = 0 → ∀ s, atT q t = some s → ∃ s', atT q t' = some s' ∧ cmpT s s' = 0
  | [], t, t', h, s, hs => by simp only [atT, Option.some.injEq] at hs; subst hs; exact ⟨t', rfl, h⟩
  | i :: q, t, t', h, s, hs => by
    simp only [atT] at hs ⊢
    by_cases hc : i < 0 ∨ ((partsT t).length : Int) ≤ i
    · rw [if_pos hc] at hs; cases hs
    · rw [if_neg hc] at hs
      rw [if_neg (by rw [← (eqv_parts h).2.1]; exact hc)]
      exact at_congr q _ _ (eqv_rd h hc) s hs
theorem put_congr : ∀ (q : List Int) (t t' u : S30), cmpT t t' = 0 → ∀ z, put0 q t u = some z → ∃ z', put0 q t' u = some z' ∧ cmpT z z' = 0
  | [], t, t', u, h, z, hz => by simp only [put0, Option.some.injEq] at hz; subst hz; exact ⟨u, rfl, cmp_self u⟩
  | i :: q, t, t', u, h, z, hz => by
    simp only [put0] at hz ⊢
    by_cases hc : i < 0 ∨ ((partsT t).length : Int) ≤ i
    · rw [if_pos hc] at hz; cases hz
    · rw [if_neg hc] at hz
      obtain ⟨e1, e2, e3⟩ := eqv_parts h
      rw [if_neg (by rw [← e2]; exact hc)]
      rw [Option.map_eq_some_iff] at hz
      obtain ⟨x, hx, rfl⟩ := hz
      obtain ⟨x', hx', hxx⟩ := put_congr q _ _ u (eqv_rd h hc) x hx
      obtain ⟨hf, hi, _⟩ := parts_at hc
      have hf' : ¬ t'.f0 < 0 := by rw [← e1]; exact hf
      have p1 : partsT t = t.f1 := by unfold partsT; rw [if_neg hf]
      have p2 : partsT t' = t'.f1 := by unfold partsT; rw [if_neg hf']
      rw [p1, p2] at e2 e3
      refine ⟨⟨t'.f0, t'.f1.set i.toNat x'⟩, by rw [hx']; rfl, cmp_zero' e1 (fun _ => ⟨by simpa using e2, (cmpTs_zero_iff _ _ (by simpa using e2)).2 (fun j a b ha hb => ?_)⟩)⟩
      by_cases hj : j = i.toNat
      · subst hj
        rw [List.getElem?_set_self hi] at ha
        rw [List.getElem?_set_self (by omega)] at hb
        injection ha with ha
        injection hb with hb
        rw [← ha, ← hb]
        exact hxx
      · rw [List.getElem?_set_ne (fun e => hj e.symm)] at ha hb
        exact e3 j a b ha hb
theorem at_other : ∀ (q q' : List Int) (t u z : S30), put0 q t u = some z → ¬ q <+: q' → ¬ q' <+: q → atT q' z = atT q' t
  | [], q', t, u, z, h, h1, h2 => absurd (List.nil_prefix) h1
  | i :: q, [], t, u, z, h, h1, h2 => absurd (List.nil_prefix) h2
  | i :: q, j :: q', t, u, z, h, h1, h2 => by
    simp only [put0] at h
    by_cases hc : i < 0 ∨ ((partsT t).length : Int) ≤ i
    · rw [if_pos hc] at h; cases h
    · rw [if_neg hc] at h
      obtain ⟨hf, hi, hrd⟩ := parts_at hc
      rw [Option.map_eq_some_iff] at h
      obtain ⟨a, ha, rfl⟩ := h
      have hpl : partsT t = t.f1 := by unfold partsT; rw [if_neg hf]
      simp only [atT]
      rw [parts_set hf, hpl, List.length_set]
      by_cases hcj : j < 0 ∨ (t.f1.length : Int) ≤ j
      · rw [if_pos hcj, if_pos hcj]
      · rw [if_neg hcj, if_neg hcj]
        have hj2 : j = (j.toNat : Int) := by omega
        have hjl : j.toNat < t.f1.length := by omega
        by_cases hij : i = j
        · subst hij
          have hi2 : i = (i.toNat : Int) := by omega
          have hrd2 : rd_T30 (t.f1.set i.toNat a) i = a := by
            have := rdC_at (t.f1.set i.toNat a) i.toNat (by simpa using hi)
            rw [← hi2] at this
            rw [this]
            simp
          rw [hrd2]
          rw [hpl] at ha
          exact at_other q q' _ u a ha (fun h => h1 (List.cons_prefix_cons.2 ⟨rfl, h⟩)) (fun h => h2 (List.cons_prefix_cons.2 ⟨rfl, h⟩))
        · have hrd2 : rd_T30 (t.f1.set i.toNat a) j = rd_T30 t.f1 j := by
            have e1 := rdC_at (t.f1.set i.toNat a) j.toNat (by simpa using hjl)
            have e2 := rdC_at t.f1 j.toNat hjl
            rw [← hj2] at e1 e2
            rw [e1, e2]
            rw [List.getElem_set_ne (by omega)]
          rw [hrd2]
theorem puts_law {q : List Int} {t s u : S30} (hs : atT q t = some s) : ∃ z, putT q t u = some z ∧ (nodes z).length + (nodes s).length = (nodes t).length + (nodes u).length ∧ (fit t → fit u → (nodes t).length + (nodes u).length ≤ 1000000 → fit z) ∧
    (∃ g, atT q z = some g ∧ cmpT g u = 0) ∧ (∃ bk, putT q z s = some bk ∧ cmpT bk t = 0) ∧ ∀ q' s', ¬ q <+: q' → ¬ q' <+: q → atT q' t = some s' → ∃ s2, atT q' z = some s2 ∧ cmpT s' s2 = 0 := by
  obtain ⟨z0, hz0⟩ := put_some q t s u hs
  have hpe := put_eqv q t u
  rw [hz0] at hpe
  cases hz : putT q t u with
  | none => rw [hz] at hpe; exact hpe.elim
  | some z =>
    rw [hz] at hpe
    have hpe' := eqv_symm hpe
    have hlen := put_len q t s u z0 hs hz0
    have hl2 := cmp_len _ _ hpe
    refine ⟨z, rfl, by omega, fun ht hu hn => eqv_fit hpe' (put_fit hz0 (by omega) ht hu), ?_, ?_, fun q' s' h1 h2 h3 => ?_⟩
    · obtain ⟨g, hg, hgc⟩ := at_congr q z0 z hpe' u (at_put q t u z0 hz0)
      exact ⟨g, hg, eqv_symm hgc⟩
    · have h1 : put0 q z0 s = some t := by rw [put_put q t u z0 s hz0]; exact put_at q t s hs
      obtain ⟨b0, hb0, hbc⟩ := put_congr q z0 z s hpe' t h1
      have h2 := put_eqv q z s
      rw [hb0] at h2
      cases hb : putT q z s with
      | none => rw [hb] at h2; exact h2.elim
      | some bk =>
        rw [hb] at h2
        exact ⟨bk, rfl, eqv_trans h2 (eqv_symm hbc)⟩
    · have h4 := at_other q q' t u z0 hz0 h1 h2
      exact at_congr q' z0 z hpe' s' (h4.trans h3)
end Go.Proofs.Ytpfddihcikiofaa.P
end

section
namespace Go.Proofs.Ytpfddihcikiofaa.P
open Go.RowKit Go.Proofs.YtpfddihcikiofaaW.PrintWords Go.Proofs.YtpfddihcikiofaaW.PrintLast Go.Proofs.YtpfddihcikiofaaW.PrintMore
set_option linter.unusedVariables false
set_option linter.unusedSimpArgs false
theorem V_away2 {e base g : Nat} {ok : Nat → Prop} {W : World} {v : Value} {xs : List S24} (h : Kd.V k24 e W base ok v xs) (hok : ∀ k, ok k → k ≠ g) (hp : 0 < xs.length) : some g ≠ v.ownBlock := fun he => by
  obtain ⟨A, c, rfl, hl, hF⟩ := h
  cases A with
  | none => simp [Value.ownBlock] at he
  | some ad =>
    have hg : g = ad.block := by simpa [Value.ownBlock] using he
    subst hg
    have h1 := hF { W with heap := W.heap.setIfInBounds ad.block (.map #[] 0) } (fun k hk hlt => by
      show (W.heap.setIfInBounds ad.block (.map #[] 0))[k]? = W.heap[k]?
      rw [Array.getElem?_setIfInBounds_ne (fun e => hok k hk e.symm)])
    obtain ⟨_, _, h2⟩ := h1
    obtain ⟨ad', e1, h3⟩ := h2 hp
    injection e1 with e1
    subst e1
    obtain ⟨c', h4, h5, h6⟩ := h3 0 xs[0] (List.getElem?_eq_getElem hp)
    have h7 : c'.length = 2 := h4
    have h8 := h6 0 c'[0] (List.getElem?_eq_getElem (by omega))
    rw [show (0 : Nat) * k24.sz + 0 = 0 by omega, show ad.add 0 = ad from by simp [Addr.add]] at h8
    unfold World.cell? at h8
    by_cases hlt : ad.block < W.heap.size
    · rw [show ({ W with heap := W.heap.setIfInBounds ad.block (.map #[] 0) } : World).heap[ad.block]? = some (.map #[] 0) from by
        show (W.heap.setIfInBounds ad.block (.map #[] 0))[ad.block]? = _
        rw [Array.getElem?_setIfInBounds, if_pos rfl, if_pos hlt]] at h8
      simp at h8
    · rw [show ({ W with heap := W.heap.setIfInBounds ad.block (.map #[] 0) } : World).heap[ad.block]? = none from by
        show (W.heap.setIfInBounds ad.block (.map #[] 0))[ad.block]? = _
        rw [Array.getElem?_setIfInBounds, if_pos rfl, if_neg hlt]] at h8
      simp at h8
end Go.Proofs.Ytpfddihcikiofaa.P
end

section
namespace Go.Proofs.Ytpfddihcikiofaa.P
open Go.RowKit Go.Proofs.YtpfddihcikiofaaW.PrintWords Go.Proofs.YtpfddihcikiofaaW.PrintLast Go.Proofs.YtpfddihcikiofaaW.PrintMore
attribute [local go_sem] max2_int min2_int max_two min_two max_three min_three max_four min_four
set_option linter.unusedVariables false
set_option linter.unusedSimpArgs false
mutual
def soritesref06_Put.l0 : Nat → Int → Int → Int → List (S24) → Int → List (S24) → Int → List (S24) → Option (Int × (List (S24)) × Int)
  | 0, _, _, _, _, _, _, _, _ => none
  | k + 1, x1, x9, x234000, x234001, x235000, x235001, x237000, x237001 => if x9 < (x234001.length : Int) then (if 0 ≤ x9 then (if x1 ≥ 0 then ((soritesref06_Put.f k ((rd_T24 x234001 x9).f0) ((rd_T24 x234001 x9).f1) x1 x235000 x235001).bind fun bt240 => (if x237001.length < 4398046511104 then (soritesref06_Put.l0 k bt240.2.2 (wrap64 (x9 + 1)) x234000 x234001 x235000 x235001 x237000 (x237001 ++ [(⟨bt240.1, bt240.2.1⟩ : S24)])) else (none))) else (if x237001.length < 4398046511104 then (soritesref06_Put.l0 k x1 (wrap64 (x9 + 1)) x234000 x234001 x235000 x235001 x237000 (x237001 ++ [(⟨(rd_T24 x234001 x9).f0, (rd_T24 x234001 x9).f1⟩ : S24)])) else (none))) else (none)) else (some (x237000, x237001, x1))
def soritesref06_Put.f : Nat → Int → List (S24) → Int → Int → List (S24) → Option (Int × (List (S24)) × Int)
  | 0, _, _, _, _, _ => none
  | k + 1, a0_0, l0_1, a1, a2_0, l2_1 => if a1 = 0 then (some (a2_0, l2_1, (-1))) else (if a0_0 < 0 then (some (a0_0, ([] : List (S24)), wrap64 (a1 - 1))) else (soritesref06_Put.l0 k (wrap64 (a1 - 1)) 0 a0_0 l0_1 a2_0 l2_1 a0_0 ([] : List (S24))))
end
def soritesref06_Put.T12 : Bool × List (List Nat × List Nat) := (true, [([], []), ([0], [0]), ([], []), ([1, 2], [1, 2]), ([3], [3]), ([], []), ([], []), ([4, 5, 6], [4, 5, 6]), ([7], [7]), ([8], [8]), ([8], [8]), ([9, 7, 0, 1, 2, 3, 4, 5, 6, 7, 8, 9], [9]), ([10, 11, 0, 1, 2, 3, 4, 5, 6, 7, 8, 9, 10, 11], [5, 10])])
def soritesref06_Put.B12 : List Nat := [0, 1, 0, 7, 15, 0, 0, 127, 255, 511, 511, 1023, 4095]
theorem soritesref06_Put.tab12 : rtab .any (opsOf Try.f31 12) = soritesref06_Put.T12 := by kernel_rfl
theorem soritesref06_Put.bits12 : waitsOk soritesref06_Put.T12.2 soritesref06_Put.B12 = true := by kernel_rfl
set_option maxHeartbeats 8000000 in
set_option maxRecDepth 100000 in
theorem soritesref06_Put.calls (k : Nat) : ∀ (a0_0 : Int) (P0_1_ : Nat → Prop) (A0_1 : Option Addr) (c0_1 : Nat) (l0_1 : List (S24)) (a1 : Int) (a2_0 : Int) (P2_1_ : Nat → Prop) (A2_1 : Option Addr) (c2_1 : Nat) (l2_1 : List (S24)) (r1 : Int) (r2 : List (S24)) (r3 : Int) (w : World) (hs0_1 : Kd.V k24 24 w w.heap.size (fun k_ => P0_1_ k_) (.slice A0_1 l0_1.length c0_1) l0_1) (hs2_1 : Kd.V k24 24 w w.heap.size (fun k_ => P2_1_ k_) (.slice A2_1 l2_1.length c2_1) l2_1) (h : soritesref06_Put.f k a0_0 l0_1 a1 a2_0 l2_1 = some (r1, r2, r3)),
    Calls Try.prog 31 #[.agg #[.int .i64 a0_0, .slice A0_1 l0_1.length c0_1], .int .i64 a1, .agg #[.int .i64 a2_0, .slice A2_1 l2_1.length c2_1]] w fun e w' => ∃ v1_ : Value, e = .returned (.tuple #[.agg #[.int .i64 r1, v1_], .int .i64 r3]) ∧ Kd.V k24 24 w' w.heap.size (fun k_ => ((P0_1_ k_ ∨ P2_1_ k_) ∨ w.heap.size ≤ k_)) v1_ r2 ∧ Below w.heap.size w w' := by
  induction k using Nat.strongRecOn with
  | _ k ih =>
  intro a0_0 P0_1_ A0_1 c0_1 l0_1 a1 a2_0 P2_1_ A2_1 c2_1 l2_1 r1 r2 r3 w hs0_1 hs2_1 h
  cases k with
  | zero => exact absurd h (by simp [soritesref06_Put.f])
  | succ k =>
  simp only [soritesref06_Put.f] at h
  have hu24 := Try.underlying24
  have HO0_1 := Aside0.mk (show Kd.V k24 24 w w.heap.size (fun k_ => ((P0_1_ k_ ∨ P2_1_ k_) ∨ w.heap.size ≤ k_)) (.slice A0_1 l0_1.length c0_1) l0_1 from Kd.V_mono hs0_1 (fun k_ hk => .inl (.inl hk)))
  have HO2_1 := Aside0.mk (show Kd.V k24 24 w w.heap.size (fun k_ => ((P0_1_ k_ ∨ P2_1_ k_) ∨ w.heap.size ≤ k_)) (.slice A2_1 l2_1.length c2_1) l2_1 from Kd.V_mono hs2_1 (fun k_ hk => .inl (.inr hk)))
  have HB := Aside0.mk (Below.refl w.heap.size w)
  have H : (if a1 = 0 then (some (a2_0, l2_1, (-1))) else (if a0_0 < 0 then (some (a0_0, ([] : List (S24)), wrap64 (a1 - 1))) else (soritesref06_Put.l0 k (wrap64 (a1 - 1)) 0 a0_0 l0_1 a2_0 l2_1 a0_0 ([] : List (S24))))) = some (r1, r2, r3) := h
  clear h
  by_cases c4 : a1 = 0
  · rw [if_pos c4] at H
    have c4b0 : (a1 == 0) = true := beq_iff_eq.mpr c4
    have c4b1 : (a1 != 0) = false := bne_eq_false_iff_eq.mpr c4
    clear c4
    simp only [Option.some.injEq, Prod.mk.injEq] at H
    obtain ⟨rfl, rfl, rfl⟩ := H
    go_enter Try.func31, Try.ntmps31
    go_wp2_with (first | ((with_reducible refine gate_dst (N := 3) rfl ?_); refine box_event ?hg (N := 3) ?hd (cs := #[.int .i64 a0_0, .slice A0_1 l0_1.length c0_1]) (t := 24) ?hr ?_; (case hd => rfl); (case hg => rfl); (case hr => first | (go_simp; done) | (go_simp; rfl)); intro gb233 hg w5 hbox hb; have n0_ := Aside0.mk (Kd.V_below (Kd.V_elderB (by (with_reducible repeat (first | apply Kd.V_alloc | apply Kd.V_drewN | apply Kd.V_drew)); exact HO0_1.out) gb233 (Nat.le_of_eq hg.symm)) hb); have n1_ := Aside0.mk (Kd.V_below (Kd.V_elderB (by (with_reducible repeat (first | apply Kd.V_alloc | apply Kd.V_drewN | apply Kd.V_drew)); exact HO2_1.out) gb233 (Nat.le_of_eq hg.symm)) hb); have n2_ := Aside0.mk (below_step (by repeat (first | (with_reducible first | exact HB.out | apply below_alloc | apply pw_below_drewN | apply below_drew1) | exact HB.out)) hb); have n3_ := Aside0.mk (hbox); have n4_ := Aside0.mk ((by rw [hg]; exact (below_size (by repeat (first | (with_reducible first | exact HB.out | apply below_alloc | apply pw_below_drewN | apply below_drew1) | exact HB.out))) : w.heap.size ≤ gb233)); have n5_ := Aside0.mk ((by rw [hg]; exact (below_size (by repeat (first | (with_reducible first | exact HB.out | apply below_alloc | apply pw_below_drewN | apply below_drew1) | exact HB.out))) : w.heap.size ≤ gb233)); clear HO0_1; clear HO2_1; clear HB; have HO0_1 := n0_; have HO2_1 := n1_; have HB := n2_; have BK233 := n3_; have GW233 := n4_; have GE233 := n5_; clear n0_ n1_ n2_ n3_ n4_ n5_; clear hb hbox hg) | ((with_reducible refine gate_dst (N := 5) rfl ?_); refine box_event ?hg (N := 5) ?hd (cs := #[.int .i64 a2_0, .slice A2_1 l2_1.length c2_1]) (t := 24) ?hr ?_; (case hd => rfl); (case hg => rfl); (case hr => first | (go_simp; done) | (go_simp; rfl)); intro gb234 hg w6 hbox hb; have n0_ := Aside0.mk (Kd.V_below (Kd.V_elderB (by (with_reducible repeat (first | apply Kd.V_alloc | apply Kd.V_drewN | apply Kd.V_drew)); exact HO0_1.out) gb234 (Nat.le_of_eq hg.symm)) hb); have n1_ := Aside0.mk (Kd.V_below (Kd.V_elderB (by (with_reducible repeat (first | apply Kd.V_alloc | apply Kd.V_drewN | apply Kd.V_drew)); exact HO2_1.out) gb234 (Nat.le_of_eq hg.symm)) hb); have n2_ := Aside0.mk (blk_below (g := gb233) (o := .cells #[.int .i64 a0_0, .slice A0_1 l0_1.length c0_1] 24 (0, 0)) (by (with_reducible repeat (first | refine blk_drewN ?_ _ | refine blk_drew ?_ | refine blk_alloc ?_ _)); exact BK233.out) hb); have n3_ := Aside0.mk (below_step (by repeat (first | (with_reducible first | exact HB.out | apply below_alloc | apply pw_below_drewN | apply below_drew1 | refine below_set ?_ GE233.out) | exact HB.out)) hb); have n4_ := Aside0.mk (hbox); have n5_ := Aside0.mk ((by rw [hg]; exact (below_size (by repeat (first | (with_reducible first | exact HB.out | apply below_alloc | apply pw_below_drewN | apply below_drew1 | refine below_set ?_ GE233.out) | exact HB.out))) : w.heap.size ≤ gb234)); have n6_ := Aside0.mk ((by rw [hg]; exact (below_size (by repeat (first | (with_reducible first | exact HB.out | apply below_alloc | apply pw_below_drewN | apply below_drew1 | refine below_set ?_ GE233.out) | exact HB.out))) : w.heap.size ≤ gb234)); have n7_ := Aside0.mk ((by rw [hg]; exact Nat.ne_of_lt (blk_lt (g := gb233) (o := .cells #[.int .i64 a0_0, .slice A0_1 l0_1.length c0_1] 24 (0, 0)) (by (with_reducible repeat (first | refine blk_drewN ?_ _ | refine blk_drew ?_ | refine blk_alloc ?_ _)); exact BK233.out)) : gb233 ≠ gb234)); have n8_ := Aside0.mk ((by rw [hg]; exact Nat.ne_of_gt (blk_lt (g := gb233) (o := .cells #[.int .i64 a0_0, .slice A0_1 l0_1.length c0_1] 24 (0, 0)) (by (with_reducible repeat (first | refine blk_drewN ?_ _ | refine blk_drew ?_ | refine blk_alloc ?_ _)); exact BK233.out)) : gb234 ≠ gb233)); clear HO0_1; clear HO2_1; clear BK233; clear HB; have HO0_1 := n0_; have HO2_1 := n1_; have BK233 := n2_; have HB := n3_; have BK234 := n4_; have GW234 := n5_; have GE234 := n6_; have NB233_234 := n7_; have NB234_233 := n8_; clear n0_ n1_ n2_ n3_ n4_ n5_ n6_ n7_ n8_; clear hb hbox hg) | ((with_reducible refine gate_dst (N := 6) rfl ?_); refine box_event ?hg (N := 6) ?hd (cs := #[.int .i64 0, .slice none 0 0]) (t := 24) ?hr ?_; (case hd => rfl); (case hg => rfl); (case hr => first | (go_simp; done) | (go_simp; rfl)); intro gb235 hg w7 hbox hb; have n0_ := Aside0.mk (Kd.V_below (Kd.V_elderB (by (with_reducible repeat (first | apply Kd.V_alloc | apply Kd.V_drewN | apply Kd.V_drew)); exact HO0_1.out) gb235 (Nat.le_of_eq hg.symm)) hb); have n1_ := Aside0.mk (Kd.V_below (Kd.V_elderB (by (with_reducible repeat (first | apply Kd.V_alloc | apply Kd.V_drewN | apply Kd.V_drew)); exact HO2_1.out) gb235 (Nat.le_of_eq hg.symm)) hb); have n2_ := Aside0.mk (blk_below (g := gb233) (o := .cells #[.int .i64 a0_0, .slice A0_1 l0_1.length c0_1] 24 (0, 0)) (by (with_reducible repeat (first | refine blk_drewN ?_ _ | refine blk_drew ?_ | refine blk_alloc ?_ _)); exact BK233.out) hb); have n3_ := Aside0.mk (blk_below (g := gb234) (o := .cells #[.int .i64 a2_0, .slice A2_1 l2_1.length c2_1] 24 (0, 0)) (by (with_reducible repeat (first | refine blk_drewN ?_ _ | refine blk_drew ?_ | refine blk_alloc ?_ _)); exact BK234.out) hb); have n4_ := Aside0.mk (below_step (by repeat (first | (with_reducible first | exact HB.out | apply below_alloc | apply pw_below_drewN | apply below_drew1 | refine below_set ?_ GE233.out | refine below_set ?_ GE234.out) | exact HB.out)) hb); have n5_ := Aside0.mk (hbox); have n6_ := Aside0.mk ((by rw [hg]; exact (below_size (by repeat (first | (with_reducible first | exact HB.out | apply below_alloc | apply pw_below_drewN | apply below_drew1 | refine below_set ?_ GE233.out | refine below_set ?_ GE234.out) | exact HB.out))) : w.heap.size ≤ gb235)); have n7_ := Aside0.mk ((by rw [hg]; exact (below_size (by repeat (first | (with_reducible first | exact HB.out | apply below_alloc | apply pw_below_drewN | apply below_drew1 | refine below_set ?_ GE233.out | refine below_set ?_ GE234.out) | exact HB.out))) : w.heap.size ≤ gb235)); have n8_ := Aside0.mk ((by rw [hg]; exact Nat.ne_of_lt (blk_lt (g := gb233) (o := .cells #[.int .i64 a0_0, .slice A0_1 l0_1.length c0_1] 24 (0, 0)) (by (with_reducible repeat (first | refine blk_drewN ?_ _ | refine blk_drew ?_ | refine blk_alloc ?_ _)); exact BK233.out)) : gb233 ≠ gb235)); have n9_ := Aside0.mk ((by rw [hg]; exact Nat.ne_of_gt (blk_lt (g := gb233) (o := .cells #[.int .i64 a0_0, .slice A0_1 l0_1.length c0_1] 24 (0, 0)) (by (with_reducible repeat (first | refine blk_drewN ?_ _ | refine blk_drew ?_ | refine blk_alloc ?_ _)); exact BK233.out)) : gb235 ≠ gb233)); have n10_ := Aside0.mk ((by rw [hg]; exact Nat.ne_of_lt (blk_lt (g := gb234) (o := .cells #[.int .i64 a2_0, .slice A2_1 l2_1.length c2_1] 24 (0, 0)) (by (with_reducible repeat (first | refine blk_drewN ?_ _ | refine blk_drew ?_ | refine blk_alloc ?_ _)); exact BK234.out)) : gb234 ≠ gb235)); have n11_ := Aside0.mk ((by rw [hg]; exact Nat.ne_of_gt (blk_lt (g := gb234) (o := .cells #[.int .i64 a2_0, .slice A2_1 l2_1.length c2_1] 24 (0, 0)) (by (with_reducible repeat (first | refine blk_drewN ?_ _ | refine blk_drew ?_ | refine blk_alloc ?_ _)); exact BK234.out)) : gb235 ≠ gb234)); clear HO0_1; clear HO2_1; clear BK233; clear BK234; clear HB; have HO0_1 := n0_; have HO2_1 := n1_; have BK233 := n2_; have BK234 := n3_; have HB := n4_; have BK235 := n5_; have GW235 := n6_; have GE235 := n7_; have NB233_235 := n8_; have NB235_233 := n9_; have NB234_235 := n10_; have NB235_234 := n11_; clear n0_ n1_ n2_ n3_ n4_ n5_ n6_ n7_ n8_ n9_ n10_ n11_; clear hb hbox hg; have hnb8 := NB234_233.out; have hnc8 := NB233_234.out; have hnb9 := NB234_235.out; have hnc9 := NB235_234.out; have hcz10_0 : w7.cell? ⟨gb234, 0, none⟩ = some (.int .i64 a2_0) := (blk_cell BK234.out 0).trans rfl; have hcz10_1 : w7.cell? ⟨gb234, 1, none⟩ = some (.slice A2_1 l2_1.length c2_1) := (blk_cell BK234.out 1).trans rfl; have hfz10_0 := blk_frozen BK234.out 0; have hfz10_1 := blk_frozen BK234.out 1; have hnb11 := NB235_233.out; have hnc11 := NB233_235.out; have hcz12_0 : w7.cell? ⟨gb235, 0, none⟩ = some (.int .i64 0) := (blk_cell BK235.out 0).trans rfl; have hcz12_1 : w7.cell? ⟨gb235, 1, none⟩ = some (.slice none 0 0) := (blk_cell BK235.out 1).trans rfl; have hfz12_0 := blk_frozen BK235.out 0; have hfz12_1 := blk_frozen BK235.out 1))
    refine bodyPost_ret (results_ct rfl _ _ gb235 24 #[.int .i64 a2_0, .slice A2_1 l2_1.length c2_1] (0, 0) _ rfl (by (with_reducible repeat (first | refine blk_drewN ?_ _ | refine blk_drew ?_ | refine blk_alloc ?_ _)); refine blk_put (cs := #[.int .i64 a2_0, .slice none 0 0]) ?_ 1 _ rfl; (with_reducible repeat (first | refine blk_drewN ?_ _ | refine blk_drew ?_ | refine blk_alloc ?_ _)); refine blk_put (cs := #[.int .i64 0, .slice none 0 0]) ?_ 0 _ rfl; (with_reducible repeat (first | refine blk_drewN ?_ _ | refine blk_drew ?_ | refine blk_alloc ?_ _)); exact BK235.out) Try.underlying24 rfl (by kernel_rfl)) rfl ?_
    exact ⟨_, by first | rfl | (simp [errW_none, errW_some] <;> rfl) | (simp [*, errW_none, errW_some] <;> rfl), by (with_reducible repeat (first | apply Kd.V_alloc | apply Kd.V_drewN | apply Kd.V_drew)); exact Kd.V_mono (Kd.V_far (p := ⟨gb235, 1, none⟩) (Kd.V_far (p := ⟨gb235, 0, none⟩) (Kd.V_mono HO2_1.out (fun k_ hk => (⟨hk, hk.2⟩ : _ ∧ k_ ≠ gb235))) (fun _ hk => hk.2) (.int .i64 a2_0)) (fun _ hk => hk.2) (.slice A2_1 l2_1.length c2_1)) (fun _ hk => hk.1.1.1.1), by repeat (first | (with_reducible first | exact HB.out | apply below_alloc | apply pw_below_drewN | apply below_drew1 | refine below_set ?_ GE233.out | refine below_set ?_ GE234.out | refine below_set ?_ GE235.out) | exact HB.out)⟩
  · rw [if_neg c4] at H
    have c4b0 : (a1 == 0) = false := beq_eq_false_iff_ne.mpr c4
    have c4b1 : (a1 != 0) = true := bne_iff_ne.mpr c4
    by_cases c13 : a0_0 < 0
    · rw [if_pos c13] at H
      have c13b0 : decide (a0_0 < 0) = true := decide_eq_true c13
      clear c13
      simp only [Option.some.injEq, Prod.mk.injEq] at H
      obtain ⟨rfl, rfl, rfl⟩ := H
      go_enter Try.func31, Try.ntmps31
      go_wp2_with (first | ((with_reducible refine gate_dst (N := 3) rfl ?_); refine box_event ?hg (N := 3) ?hd (cs := #[.int .i64 a0_0, .slice A0_1 l0_1.length c0_1]) (t := 24) ?hr ?_; (case hd => rfl); (case hg => rfl); (case hr => first | (go_simp; done) | (go_simp; rfl)); intro gb233 hg w14 hbox hb; have n0_ := Aside0.mk (Kd.V_below (Kd.V_elderB (by (with_reducible repeat (first | apply Kd.V_alloc | apply Kd.V_drewN | apply Kd.V_drew)); exact HO0_1.out) gb233 (Nat.le_of_eq hg.symm)) hb); have n1_ := Aside0.mk (Kd.V_below (Kd.V_elderB (by (with_reducible repeat (first | apply Kd.V_alloc | apply Kd.V_drewN | apply Kd.V_drew)); exact HO2_1.out) gb233 (Nat.le_of_eq hg.symm)) hb); have n2_ := Aside0.mk (below_step (by repeat (first | (with_reducible first | exact HB.out | apply below_alloc | apply pw_below_drewN | apply below_drew1) | exact HB.out)) hb); have n3_ := Aside0.mk (hbox); have n4_ := Aside0.mk ((by rw [hg]; exact (below_size (by repeat (first | (with_reducible first | exact HB.out | apply below_alloc | apply pw_below_drewN | apply below_drew1) | exact HB.out))) : w.heap.size ≤ gb233)); have n5_ := Aside0.mk ((by rw [hg]; exact (below_size (by repeat (first | (with_reducible first | exact HB.out | apply below_alloc | apply pw_below_drewN | apply below_drew1) | exact HB.out))) : w.heap.size ≤ gb233)); clear HO0_1; clear HO2_1; clear HB; have HO0_1 := n0_; have HO2_1 := n1_; have HB := n2_; have BK233 := n3_; have GW233 := n4_; have GE233 := n5_; clear n0_ n1_ n2_ n3_ n4_ n5_; clear hb hbox hg) | ((with_reducible refine gate_dst (N := 5) rfl ?_); refine box_event ?hg (N := 5) ?hd (cs := #[.int .i64 a2_0, .slice A2_1 l2_1.length c2_1]) (t := 24) ?hr ?_; (case hd => rfl); (case hg => rfl); (case hr => first | (go_simp; done) | (go_simp; rfl)); intro gb234 hg w15 hbox hb; have n0_ := Aside0.mk (Kd.V_below (Kd.V_elderB (by (with_reducible repeat (first | apply Kd.V_alloc | apply Kd.V_drewN | apply Kd.V_drew)); exact HO0_1.out) gb234 (Nat.le_of_eq hg.symm)) hb); have n1_ := Aside0.mk (Kd.V_below (Kd.V_elderB (by (with_reducible repeat (first | apply Kd.V_alloc | apply Kd.V_drewN | apply Kd.V_drew)); exact HO2_1.out) gb234 (Nat.le_of_eq hg.symm)) hb); have n2_ := Aside0.mk (blk_below (g := gb233) (o := .cells #[.int .i64 a0_0, .slice A0_1 l0_1.length c0_1] 24 (0, 0)) (by (with_reducible repeat (first | refine blk_drewN ?_ _ | refine blk_drew ?_ | refine blk_alloc ?_ _)); exact BK233.out) hb); have n3_ := Aside0.mk (below_step (by repeat (first | (with_reducible first | exact HB.out | apply below_alloc | apply pw_below_drewN | apply below_drew1 | refine below_set ?_ GE233.out) | exact HB.out)) hb); have n4_ := Aside0.mk (hbox); have n5_ := Aside0.mk ((by rw [hg]; exact (below_size (by repeat (first | (with_reducible first | exact HB.out | apply below_alloc | apply pw_below_drewN | apply below_drew1 | refine below_set ?_ GE233.out) | exact HB.out))) : w.heap.size ≤ gb234)); have n6_ := Aside0.mk ((by rw [hg]; exact (below_size (by repeat (first | (with_reducible first | exact HB.out | apply below_alloc | apply pw_below_drewN | apply below_drew1 | refine below_set ?_ GE233.out) | exact HB.out))) : w.heap.size ≤ gb234)); have n7_ := Aside0.mk ((by rw [hg]; exact Nat.ne_of_lt (blk_lt (g := gb233) (o := .cells #[.int .i64 a0_0, .slice A0_1 l0_1.length c0_1] 24 (0, 0)) (by (with_reducible repeat (first | refine blk_drewN ?_ _ | refine blk_drew ?_ | refine blk_alloc ?_ _)); exact BK233.out)) : gb233 ≠ gb234)); have n8_ := Aside0.mk ((by rw [hg]; exact Nat.ne_of_gt (blk_lt (g := gb233) (o := .cells #[.int .i64 a0_0, .slice A0_1 l0_1.length c0_1] 24 (0, 0)) (by (with_reducible repeat (first | refine blk_drewN ?_ _ | refine blk_drew ?_ | refine blk_alloc ?_ _)); exact BK233.out)) : gb234 ≠ gb233)); clear HO0_1; clear HO2_1; clear BK233; clear HB; have HO0_1 := n0_; have HO2_1 := n1_; have BK233 := n2_; have HB := n3_; have BK234 := n4_; have GW234 := n5_; have GE234 := n6_; have NB233_234 := n7_; have NB234_233 := n8_; clear n0_ n1_ n2_ n3_ n4_ n5_ n6_ n7_ n8_; clear hb hbox hg) | ((with_reducible refine gate_dst (N := 6) rfl ?_); refine box_event ?hg (N := 6) ?hd (cs := #[.int .i64 0, .slice none 0 0]) (t := 24) ?hr ?_; (case hd => rfl); (case hg => rfl); (case hr => first | (go_simp; done) | (go_simp; rfl)); intro gb235 hg w16 hbox hb; have n0_ := Aside0.mk (Kd.V_below (Kd.V_elderB (by (with_reducible repeat (first | apply Kd.V_alloc | apply Kd.V_drewN | apply Kd.V_drew)); exact HO0_1.out) gb235 (Nat.le_of_eq hg.symm)) hb); have n1_ := Aside0.mk (Kd.V_below (Kd.V_elderB (by (with_reducible repeat (first | apply Kd.V_alloc | apply Kd.V_drewN | apply Kd.V_drew)); exact HO2_1.out) gb235 (Nat.le_of_eq hg.symm)) hb); have n2_ := Aside0.mk (blk_below (g := gb233) (o := .cells #[.int .i64 a0_0, .slice A0_1 l0_1.length c0_1] 24 (0, 0)) (by (with_reducible repeat (first | refine blk_drewN ?_ _ | refine blk_drew ?_ | refine blk_alloc ?_ _)); exact BK233.out) hb); have n3_ := Aside0.mk (blk_below (g := gb234) (o := .cells #[.int .i64 a2_0, .slice A2_1 l2_1.length c2_1] 24 (0, 0)) (by (with_reducible repeat (first | refine blk_drewN ?_ _ | refine blk_drew ?_ | refine blk_alloc ?_ _)); exact BK234.out) hb); have n4_ := Aside0.mk (below_step (by repeat (first | (with_reducible first | exact HB.out | apply below_alloc | apply pw_below_drewN | apply below_drew1 | refine below_set ?_ GE233.out | refine below_set ?_ GE234.out) | exact HB.out)) hb); have n5_ := Aside0.mk (hbox); have n6_ := Aside0.mk ((by rw [hg]; exact (below_size (by repeat (first | (with_reducible first | exact HB.out | apply below_alloc | apply pw_below_drewN | apply below_drew1 | refine below_set ?_ GE233.out | refine below_set ?_ GE234.out) | exact HB.out))) : w.heap.size ≤ gb235)); have n7_ := Aside0.mk ((by rw [hg]; exact (below_size (by repeat (first | (with_reducible first | exact HB.out | apply below_alloc | apply pw_below_drewN | apply below_drew1 | refine below_set ?_ GE233.out | refine below_set ?_ GE234.out) | exact HB.out))) : w.heap.size ≤ gb235)); have n8_ := Aside0.mk ((by rw [hg]; exact Nat.ne_of_lt (blk_lt (g := gb233) (o := .cells #[.int .i64 a0_0, .slice A0_1 l0_1.length c0_1] 24 (0, 0)) (by (with_reducible repeat (first | refine blk_drewN ?_ _ | refine blk_drew ?_ | refine blk_alloc ?_ _)); exact BK233.out)) : gb233 ≠ gb235)); have n9_ := Aside0.mk ((by rw [hg]; exact Nat.ne_of_gt (blk_lt (g := gb233) (o := .cells #[.int .i64 a0_0, .slice A0_1 l0_1.length c0_1] 24 (0, 0)) (by (with_reducible repeat (first | refine blk_drewN ?_ _ | refine blk_drew ?_ | refine blk_alloc ?_ _)); exact BK233.out)) : gb235 ≠ gb233)); have n10_ := Aside0.mk ((by rw [hg]; exact Nat.ne_of_lt (blk_lt (g := gb234) (o := .cells #[.int .i64 a2_0, .slice A2_1 l2_1.length c2_1] 24 (0, 0)) (by (with_reducible repeat (first | refine blk_drewN ?_ _ | refine blk_drew ?_ | refine blk_alloc ?_ _)); exact BK234.out)) : gb234 ≠ gb235)); have n11_ := Aside0.mk ((by rw [hg]; exact Nat.ne_of_gt (blk_lt (g := gb234) (o := .cells #[.int .i64 a2_0, .slice A2_1 l2_1.length c2_1] 24 (0, 0)) (by (with_reducible repeat (first | refine blk_drewN ?_ _ | refine blk_drew ?_ | refine blk_alloc ?_ _)); exact BK234.out)) : gb235 ≠ gb234)); clear HO0_1; clear HO2_1; clear BK233; clear BK234; clear HB; have HO0_1 := n0_; have HO2_1 := n1_; have BK233 := n2_; have BK234 := n3_; have HB := n4_; have BK235 := n5_; have GW235 := n6_; have GE235 := n7_; have NB233_235 := n8_; have NB235_233 := n9_; have NB234_235 := n10_; have NB235_234 := n11_; clear n0_ n1_ n2_ n3_ n4_ n5_ n6_ n7_ n8_ n9_ n10_ n11_; clear hb hbox hg; have hnb17 := NB233_234.out; have hnc17 := NB234_233.out; have hnb18 := NB233_235.out; have hnc18 := NB235_233.out; have hcz19_0 : w16.cell? ⟨gb233, 0, none⟩ = some (.int .i64 a0_0) := (blk_cell BK233.out 0).trans rfl; have hcz19_1 : w16.cell? ⟨gb233, 1, none⟩ = some (.slice A0_1 l0_1.length c0_1) := (blk_cell BK233.out 1).trans rfl; have hfz19_0 := blk_frozen BK233.out 0; have hfz19_1 := blk_frozen BK233.out 1; have hnb20 := NB235_234.out; have hnc20 := NB234_235.out; have hcz21_0 : w16.cell? ⟨gb235, 0, none⟩ = some (.int .i64 0) := (blk_cell BK235.out 0).trans rfl; have hcz21_1 : w16.cell? ⟨gb235, 1, none⟩ = some (.slice none 0 0) := (blk_cell BK235.out 1).trans rfl; have hfz21_0 := blk_frozen BK235.out 0; have hfz21_1 := blk_frozen BK235.out 1))
      refine bodyPost_ret (results_ct rfl _ _ gb235 24 #[.int .i64 a0_0, .slice none 0 0] (0, 0) _ rfl (by (with_reducible repeat (first | refine blk_drewN ?_ _ | refine blk_drew ?_ | refine blk_alloc ?_ _)); refine blk_put (cs := #[.int .i64 a0_0, .slice none 0 0]) ?_ 1 _ rfl; (with_reducible repeat (first | refine blk_drewN ?_ _ | refine blk_drew ?_ | refine blk_alloc ?_ _)); refine blk_put (cs := #[.int .i64 0, .slice none 0 0]) ?_ 0 _ rfl; (with_reducible repeat (first | refine blk_drewN ?_ _ | refine blk_drew ?_ | refine blk_alloc ?_ _)); exact BK235.out) Try.underlying24 rfl (by kernel_rfl)) rfl ?_
      exact ⟨_, by first | rfl | (simp [errW_none, errW_some] <;> rfl) | (simp [*, errW_none, errW_some] <;> rfl), by first | exact Kd.R_nil _ _ _ _ _ | exact Kd.N_nil _ _ _ _ _ | exact Kd.V_nil _ _ _ _ _ | exact Kd.Q_nil _ _ _ _ _ | exact Kd.S_nil _ _ _ _ _, by repeat (first | (with_reducible first | exact HB.out | apply below_alloc | apply pw_below_drewN | apply below_drew1 | refine below_set ?_ GE233.out | refine below_set ?_ GE234.out | refine below_set ?_ GE235.out) | exact HB.out)⟩
    · rw [if_neg c13] at H
      have c13b0 : decide (a0_0 < 0) = false := decide_eq_false c13
      clear c13
      have H' := Aside0.mk H
      clear H
      go_enter Try.func31, Try.ntmps31
      go_wp2_with (first | ((with_reducible refine gate_dst (N := 3) rfl ?_); refine box_event ?hg (N := 3) ?hd (cs := #[.int .i64 a0_0, .slice A0_1 l0_1.length c0_1]) (t := 24) ?hr ?_; (case hd => rfl); (case hg => rfl); (case hr => first | (go_simp; done) | (go_simp; rfl)); intro gb233 hg w22 hbox hb; have n0_ := Aside0.mk (Kd.V_below (Kd.V_elderB (by (with_reducible repeat (first | apply Kd.V_alloc | apply Kd.V_drewN | apply Kd.V_drew)); exact HO0_1.out) gb233 (Nat.le_of_eq hg.symm)) hb); have n1_ := Aside0.mk (Kd.V_below (Kd.V_elderB (by (with_reducible repeat (first | apply Kd.V_alloc | apply Kd.V_drewN | apply Kd.V_drew)); exact HO2_1.out) gb233 (Nat.le_of_eq hg.symm)) hb); have n2_ := Aside0.mk (below_step (by repeat (first | (with_reducible first | exact HB.out | apply below_alloc | apply pw_below_drewN | apply below_drew1) | exact HB.out)) hb); have n3_ := Aside0.mk (hbox); have n4_ := Aside0.mk ((by rw [hg]; exact (below_size (by repeat (first | (with_reducible first | exact HB.out | apply below_alloc | apply pw_below_drewN | apply below_drew1) | exact HB.out))) : w.heap.size ≤ gb233)); have n5_ := Aside0.mk ((by rw [hg]; exact (below_size (by repeat (first | (with_reducible first | exact HB.out | apply below_alloc | apply pw_below_drewN | apply below_drew1) | exact HB.out))) : w.heap.size ≤ gb233)); clear HO0_1; clear HO2_1; clear HB; have HO0_1 := n0_; have HO2_1 := n1_; have HB := n2_; have BK233 := n3_; have GW233 := n4_; have GE233 := n5_; clear n0_ n1_ n2_ n3_ n4_ n5_; clear hb hbox hg) | ((with_reducible refine gate_dst (N := 5) rfl ?_); refine box_event ?hg (N := 5) ?hd (cs := #[.int .i64 a2_0, .slice A2_1 l2_1.length c2_1]) (t := 24) ?hr ?_; (case hd => rfl); (case hg => rfl); (case hr => first | (go_simp; done) | (go_simp; rfl)); intro gb234 hg w23 hbox hb; have n0_ := Aside0.mk (Kd.V_below (Kd.V_elderB (by (with_reducible repeat (first | apply Kd.V_alloc | apply Kd.V_drewN | apply Kd.V_drew)); exact HO0_1.out) gb234 (Nat.le_of_eq hg.symm)) hb); have n1_ := Aside0.mk (Kd.V_below (Kd.V_elderB (by (with_reducible repeat (first | apply Kd.V_alloc | apply Kd.V_drewN | apply Kd.V_drew)); exact HO2_1.out) gb234 (Nat.le_of_eq hg.symm)) hb); have n2_ := Aside0.mk (blk_below (g := gb233) (o := .cells #[.int .i64 a0_0, .slice A0_1 l0_1.length c0_1] 24 (0, 0)) (by (with_reducible repeat (first | refine blk_drewN ?_ _ | refine blk_drew ?_ | refine blk_alloc ?_ _)); exact BK233.out) hb); have n3_ := Aside0.mk (below_step (by repeat (first | (with_reducible first | exact HB.out | apply below_alloc | apply pw_below_drewN | apply below_drew1 | refine below_set ?_ GE233.out) | exact HB.out)) hb); have n4_ := Aside0.mk (hbox); have n5_ := Aside0.mk ((by rw [hg]; exact (below_size (by repeat (first | (with_reducible first | exact HB.out | apply below_alloc | apply pw_below_drewN | apply below_drew1 | refine below_set ?_ GE233.out) | exact HB.out))) : w.heap.size ≤ gb234)); have n6_ := Aside0.mk ((by rw [hg]; exact (below_size (by repeat (first | (with_reducible first | exact HB.out | apply below_alloc | apply pw_below_drewN | apply below_drew1 | refine below_set ?_ GE233.out) | exact HB.out))) : w.heap.size ≤ gb234)); have n7_ := Aside0.mk ((by rw [hg]; exact Nat.ne_of_lt (blk_lt (g := gb233) (o := .cells #[.int .i64 a0_0, .slice A0_1 l0_1.length c0_1] 24 (0, 0)) (by (with_reducible repeat (first | refine blk_drewN ?_ _ | refine blk_drew ?_ | refine blk_alloc ?_ _)); exact BK233.out)) : gb233 ≠ gb234)); have n8_ := Aside0.mk ((by rw [hg]; exact Nat.ne_of_gt (blk_lt (g := gb233) (o := .cells #[.int .i64 a0_0, .slice A0_1 l0_1.length c0_1] 24 (0, 0)) (by (with_reducible repeat (first | refine blk_drewN ?_ _ | refine blk_drew ?_ | refine blk_alloc ?_ _)); exact BK233.out)) : gb234 ≠ gb233)); clear HO0_1; clear HO2_1; clear BK233; clear HB; have HO0_1 := n0_; have HO2_1 := n1_; have BK233 := n2_; have HB := n3_; have BK234 := n4_; have GW234 := n5_; have GE234 := n6_; have NB233_234 := n7_; have NB234_233 := n8_; clear n0_ n1_ n2_ n3_ n4_ n5_ n6_ n7_ n8_; clear hb hbox hg) | ((with_reducible refine gate_dst (N := 6) rfl ?_); refine box_event ?hg (N := 6) ?hd (cs := #[.int .i64 0, .slice none 0 0]) (t := 24) ?hr ?_; (case hd => rfl); (case hg => rfl); (case hr => first | (go_simp; done) | (go_simp; rfl)); intro gb235 hg w24 hbox hb; have n0_ := Aside0.mk (Kd.V_below (Kd.V_elderB (by (with_reducible repeat (first | apply Kd.V_alloc | apply Kd.V_drewN | apply Kd.V_drew)); exact HO0_1.out) gb235 (Nat.le_of_eq hg.symm)) hb); have n1_ := Aside0.mk (Kd.V_below (Kd.V_elderB (by (with_reducible repeat (first | apply Kd.V_alloc | apply Kd.V_drewN | apply Kd.V_drew)); exact HO2_1.out) gb235 (Nat.le_of_eq hg.symm)) hb); have n2_ := Aside0.mk (blk_below (g := gb233) (o := .cells #[.int .i64 a0_0, .slice A0_1 l0_1.length c0_1] 24 (0, 0)) (by (with_reducible repeat (first | refine blk_drewN ?_ _ | refine blk_drew ?_ | refine blk_alloc ?_ _)); exact BK233.out) hb); have n3_ := Aside0.mk (blk_below (g := gb234) (o := .cells #[.int .i64 a2_0, .slice A2_1 l2_1.length c2_1] 24 (0, 0)) (by (with_reducible repeat (first | refine blk_drewN ?_ _ | refine blk_drew ?_ | refine blk_alloc ?_ _)); exact BK234.out) hb); have n4_ := Aside0.mk (below_step (by repeat (first | (with_reducible first | exact HB.out | apply below_alloc | apply pw_below_drewN | apply below_drew1 | refine below_set ?_ GE233.out | refine below_set ?_ GE234.out) | exact HB.out)) hb); have n5_ := Aside0.mk (hbox); have n6_ := Aside0.mk ((by rw [hg]; exact (below_size (by repeat (first | (with_reducible first | exact HB.out | apply below_alloc | apply pw_below_drewN | apply below_drew1 | refine below_set ?_ GE233.out | refine below_set ?_ GE234.out) | exact HB.out))) : w.heap.size ≤ gb235)); have n7_ := Aside0.mk ((by rw [hg]; exact (below_size (by repeat (first | (with_reducible first | exact HB.out | apply below_alloc | apply pw_below_drewN | apply below_drew1 | refine below_set ?_ GE233.out | refine below_set ?_ GE234.out) | exact HB.out))) : w.heap.size ≤ gb235)); have n8_ := Aside0.mk ((by rw [hg]; exact Nat.ne_of_lt (blk_lt (g := gb233) (o := .cells #[.int .i64 a0_0, .slice A0_1 l0_1.length c0_1] 24 (0, 0)) (by (with_reducible repeat (first | refine blk_drewN ?_ _ | refine blk_drew ?_ | refine blk_alloc ?_ _)); exact BK233.out)) : gb233 ≠ gb235)); have n9_ := Aside0.mk ((by rw [hg]; exact Nat.ne_of_gt (blk_lt (g := gb233) (o := .cells #[.int .i64 a0_0, .slice A0_1 l0_1.length c0_1] 24 (0, 0)) (by (with_reducible repeat (first | refine blk_drewN ?_ _ | refine blk_drew ?_ | refine blk_alloc ?_ _)); exact BK233.out)) : gb235 ≠ gb233)); have n10_ := Aside0.mk ((by rw [hg]; exact Nat.ne_of_lt (blk_lt (g := gb234) (o := .cells #[.int .i64 a2_0, .slice A2_1 l2_1.length c2_1] 24 (0, 0)) (by (with_reducible repeat (first | refine blk_drewN ?_ _ | refine blk_drew ?_ | refine blk_alloc ?_ _)); exact BK234.out)) : gb234 ≠ gb235)); have n11_ := Aside0.mk ((by rw [hg]; exact Nat.ne_of_gt (blk_lt (g := gb234) (o := .cells #[.int .i64 a2_0, .slice A2_1 l2_1.length c2_1] 24 (0, 0)) (by (with_reducible repeat (first | refine blk_drewN ?_ _ | refine blk_drew ?_ | refine blk_alloc ?_ _)); exact BK234.out)) : gb235 ≠ gb234)); clear HO0_1; clear HO2_1; clear BK233; clear BK234; clear HB; have HO0_1 := n0_; have HO2_1 := n1_; have BK233 := n2_; have BK234 := n3_; have HB := n4_; have BK235 := n5_; have GW235 := n6_; have GE235 := n7_; have NB233_235 := n8_; have NB235_233 := n9_; have NB234_235 := n10_; have NB235_234 := n11_; clear n0_ n1_ n2_ n3_ n4_ n5_ n6_ n7_ n8_ n9_ n10_ n11_; clear hb hbox hg; have hnb25 := NB233_234.out; have hnc25 := NB234_233.out; have hnb26 := NB233_235.out; have hnc26 := NB235_233.out; have hcz27_0 : w24.cell? ⟨gb233, 0, none⟩ = some (.int .i64 a0_0) := (blk_cell BK233.out 0).trans rfl; have hcz27_1 : w24.cell? ⟨gb233, 1, none⟩ = some (.slice A0_1 l0_1.length c0_1) := (blk_cell BK233.out 1).trans rfl; have hfz27_0 := blk_frozen BK233.out 0; have hfz27_1 := blk_frozen BK233.out 1) | ((with_reducible refine gate_dst (N := 8) rfl ?_); refine box_event ?hg (N := 8) ?hd (cs := #[.int .i64 0, .slice none 0 0]) (t := 24) ?hr ?_; (case hd => rfl); (case hg => rfl); (case hr => first | (go_simp; done) | (go_simp; rfl)); intro gb236 hg w28 hbox hb; have n0_ := Aside0.mk (Kd.V_below (Kd.V_elderB (by (with_reducible repeat (first | apply Kd.V_alloc | apply Kd.V_drewN | apply Kd.V_drew)); exact HO0_1.out) gb236 (Nat.le_of_eq hg.symm)) hb); have n1_ := Aside0.mk (Kd.V_below (Kd.V_elderB (by (with_reducible repeat (first | apply Kd.V_alloc | apply Kd.V_drewN | apply Kd.V_drew)); exact HO2_1.out) gb236 (Nat.le_of_eq hg.symm)) hb); have n2_ := Aside0.mk (blk_below (g := gb233) (o := .cells #[.int .i64 a0_0, .slice A0_1 l0_1.length c0_1] 24 (0, 0)) (by (with_reducible repeat (first | refine blk_drewN ?_ _ | refine blk_drew ?_ | refine blk_alloc ?_ _)); exact BK233.out) hb); have n3_ := Aside0.mk (blk_below (g := gb234) (o := .cells #[.int .i64 a2_0, .slice A2_1 l2_1.length c2_1] 24 (0, 0)) (by (with_reducible repeat (first | refine blk_drewN ?_ _ | refine blk_drew ?_ | refine blk_alloc ?_ _)); exact BK234.out) hb); have n4_ := Aside0.mk (blk_below (g := gb235) (o := .cells #[.int .i64 0, .slice none 0 0] 24 (0, 0)) (by (with_reducible repeat (first | refine blk_drewN ?_ _ | refine blk_drew ?_ | refine blk_alloc ?_ _)); exact BK235.out) hb); have n5_ := Aside0.mk (below_step (by repeat (first | (with_reducible first | exact HB.out | apply below_alloc | apply pw_below_drewN | apply below_drew1 | refine below_set ?_ GE233.out | refine below_set ?_ GE234.out | refine below_set ?_ GE235.out) | exact HB.out)) hb); have n6_ := Aside0.mk (hbox); have n7_ := Aside0.mk ((by rw [hg]; exact (below_size (by repeat (first | (with_reducible first | exact HB.out | apply below_alloc | apply pw_below_drewN | apply below_drew1 | refine below_set ?_ GE233.out | refine below_set ?_ GE234.out | refine below_set ?_ GE235.out) | exact HB.out))) : w.heap.size ≤ gb236)); have n8_ := Aside0.mk ((by rw [hg]; exact (below_size (by repeat (first | (with_reducible first | exact HB.out | apply below_alloc | apply pw_below_drewN | apply below_drew1 | refine below_set ?_ GE233.out | refine below_set ?_ GE234.out | refine below_set ?_ GE235.out) | exact HB.out))) : w.heap.size ≤ gb236)); have n9_ := Aside0.mk ((by rw [hg]; exact Nat.ne_of_lt (blk_lt (g := gb233) (o := .cells #[.int .i64 a0_0, .slice A0_1 l0_1.length c0_1] 24 (0, 0)) (by (with_reducible repeat (first | refine blk_drewN ?_ _ | refine blk_drew ?_ | refine blk_alloc ?_ _)); exact BK233.out)) : gb233 ≠ gb236)); have n10_ := Aside0.mk ((by rw [hg]; exact Nat.ne_of_gt (blk_lt (g := gb233) (o := .cells #[.int .i64 a0_0, .slice A0_1 l0_1.length c0_1] 24 (0, 0)) (by (with_reducible repeat (first | refine blk_drewN ?_ _ | refine blk_drew ?_ | refine blk_alloc ?_ _)); exact BK233.out)) : gb236 ≠ gb233)); have n11_ := Aside0.mk ((by rw [hg]; exact Nat.ne_of_lt (blk_lt (g := gb234) (o := .cells #[.int .i64 a2_0, .slice A2_1 l2_1.length c2_1] 24 (0, 0)) (by (with_reducible repeat (first | refine blk_drewN ?_ _ | refine blk_drew ?_ | refine blk_alloc ?_ _)); exact BK234.out)) : gb234 ≠ gb236)); have n12_ := Aside0.mk ((by rw [hg]; exact Nat.ne_of_gt (blk_lt (g := gb234) (o := .cells #[.int .i64 a2_0, .slice A2_1 l2_1.length c2_1] 24 (0, 0)) (by (with_reducible repeat (first | refine blk_drewN ?_ _ | refine blk_drew ?_ | refine blk_alloc ?_ _)); exact BK234.out)) : gb236 ≠ gb234)); have n13_ := Aside0.mk ((by rw [hg]; exact Nat.ne_of_lt (blk_lt (g := gb235) (o := .cells #[.int .i64 0, .slice none 0 0] 24 (0, 0)) (by (with_reducible repeat (first | refine blk_drewN ?_ _ | refine blk_drew ?_ | refine blk_alloc ?_ _)); exact BK235.out)) : gb235 ≠ gb236)); have n14_ := Aside0.mk ((by rw [hg]; exact Nat.ne_of_gt (blk_lt (g := gb235) (o := .cells #[.int .i64 0, .slice none 0 0] 24 (0, 0)) (by (with_reducible repeat (first | refine blk_drewN ?_ _ | refine blk_drew ?_ | refine blk_alloc ?_ _)); exact BK235.out)) : gb236 ≠ gb235)); clear HO0_1; clear HO2_1; clear BK233; clear BK234; clear BK235; clear HB; have HO0_1 := n0_; have HO2_1 := n1_; have BK233 := n2_; have BK234 := n3_; have BK235 := n4_; have HB := n5_; have BK236 := n6_; have GW236 := n7_; have GE236 := n8_; have NB233_236 := n9_; have NB236_233 := n10_; have NB234_236 := n11_; have NB236_234 := n12_; have NB235_236 := n13_; have NB236_235 := n14_; clear n0_ n1_ n2_ n3_ n4_ n5_ n6_ n7_ n8_ n9_ n10_ n11_ n12_ n13_ n14_; clear hb hbox hg; have hnb29 := NB236_233.out; have hnc29 := NB233_236.out; have hnb30 := NB236_234.out; have hnc30 := NB234_236.out; have hnb31 := NB236_235.out; have hnc31 := NB235_236.out; have hcz32_0 : w28.cell? ⟨gb236, 0, none⟩ = some (.int .i64 0) := (blk_cell BK236.out 0).trans rfl; have hcz32_1 : w28.cell? ⟨gb236, 1, none⟩ = some (.slice none 0 0) := (blk_cell BK236.out 1).trans rfl; have hfz32_0 := blk_frozen BK236.out 0; have hfz32_1 := blk_frozen BK236.out 1))
      go_loopg [1, 9] k (fun kq v1 v9 w' => ∃ (x1_1 : Int) (x9_1 : Int) (x237001_1 : List (S24)) (u237001 : Value), v1 = .int .i64 x1_1 ∧ v9 = .int .i64 x9_1 ∧ Aside0 (soritesref06_Put.l0 kq x1_1 x9_1 a0_0 l0_1 a2_0 l2_1 a0_0 x237001_1 = some (r1, r2, r3)) ∧ Aside0 (kq ≤ k) ∧ Aside0 (Kd.V k24 24 w' w.heap.size (fun k_ => ((P0_1_ k_ ∨ P2_1_ k_) ∨ w.heap.size ≤ k_) ∧ some k_ ≠ (u237001 : Value).ownBlock ∧ k_ ≠ gb233 ∧ k_ ≠ gb234 ∧ k_ ≠ gb235 ∧ k_ ≠ gb236) (.slice A0_1 l0_1.length c0_1) l0_1) ∧ Aside0 (Kd.V k24 24 w' w.heap.size (fun k_ => ((P0_1_ k_ ∨ P2_1_ k_) ∨ w.heap.size ≤ k_) ∧ some k_ ≠ (u237001 : Value).ownBlock ∧ k_ ≠ gb233 ∧ k_ ≠ gb234 ∧ k_ ≠ gb235 ∧ k_ ≠ gb236) (.slice A2_1 l2_1.length c2_1) l2_1) ∧ Aside0 (Kd.N k24 24 w' w.heap.size (fun k_ => ((P0_1_ k_ ∨ P2_1_ k_) ∨ w.heap.size ≤ k_) ∧ k_ ≠ gb233 ∧ k_ ≠ gb234 ∧ k_ ≠ gb235 ∧ k_ ≠ gb236) u237001 x237001_1) ∧ Aside0 (w'.heap[gb233]? = some (.cells #[.int .i64 a0_0, (.slice A0_1 l0_1.length c0_1)] 24 (0, 0))) ∧ Aside0 (w'.heap[gb234]? = some (.cells #[.int .i64 a2_0, (.slice A2_1 l2_1.length c2_1)] 24 (0, 0))) ∧ Aside0 (w'.heap[gb235]? = some (.cells #[.int .i64 0, (.slice none 0 0)] 24 (0, 0))) ∧ Aside0 (w'.heap[gb236]? = some (.cells #[.int .i64 a0_0, u237001] 24 (0, 0))) ∧ Aside0 (Below w.heap.size w w'))
      case atStart => exact ⟨(wrap64 (a1 - 1)), (0), (([] : List (S24))), (.slice none 0 0), (by first | rfl | (simp; done) | (simp [*]; done)), (by first | rfl | (simp; done) | (simp [*]; done)), H', ⟨Nat.le_refl _⟩, ⟨by (with_reducible repeat (first | apply Kd.V_alloc | apply Kd.V_drewN | apply Kd.V_drew)); exact Kd.V_mono (Kd.V_far (p := ⟨gb236, 1, none⟩) (Kd.V_far (p := ⟨gb236, 0, none⟩) (Kd.V_mono HO0_1.out (fun k_ hk => (⟨hk, hk.2⟩ : _ ∧ k_ ≠ gb236))) (fun _ hk => hk.2) (.int .i64 a0_0)) (fun _ hk => hk.2) (.slice none 0 0)) (fun _ hk => ⟨hk.1.1.1.1.1, ⟨(by simp [Value.ownBlock]), ⟨hk.1.1.1.1.2, ⟨hk.1.1.1.2, ⟨hk.1.1.2, hk.1.2⟩⟩⟩⟩⟩)⟩, ⟨by (with_reducible repeat (first | apply Kd.V_alloc | apply Kd.V_drewN | apply Kd.V_drew)); exact Kd.V_mono (Kd.V_far (p := ⟨gb236, 1, none⟩) (Kd.V_far (p := ⟨gb236, 0, none⟩) (Kd.V_mono HO2_1.out (fun k_ hk => (⟨hk, hk.2⟩ : _ ∧ k_ ≠ gb236))) (fun _ hk => hk.2) (.int .i64 a0_0)) (fun _ hk => hk.2) (.slice none 0 0)) (fun _ hk => ⟨hk.1.1.1.1.1, ⟨(by simp [Value.ownBlock]), ⟨hk.1.1.1.1.2, ⟨hk.1.1.1.2, ⟨hk.1.1.2, hk.1.2⟩⟩⟩⟩⟩)⟩, ⟨by first | exact Kd.R_nil _ _ _ _ _ | exact Kd.N_nil _ _ _ _ _ | exact Kd.V_nil _ _ _ _ _ | exact Kd.Q_nil _ _ _ _ _ | exact Kd.S_nil _ _ _ _ _⟩, ⟨by (with_reducible repeat (first | refine blk_drewN ?_ _ | refine blk_drew ?_ | refine blk_alloc ?_ _)); refine blk_far ?_ NB233_236.out _; (with_reducible repeat (first | refine blk_drewN ?_ _ | refine blk_drew ?_ | refine blk_alloc ?_ _)); refine blk_far ?_ NB233_236.out _; (with_reducible repeat (first | refine blk_drewN ?_ _ | refine blk_drew ?_ | refine blk_alloc ?_ _)); exact BK233.out⟩, ⟨by (with_reducible repeat (first | refine blk_drewN ?_ _ | refine blk_drew ?_ | refine blk_alloc ?_ _)); refine blk_far ?_ NB234_236.out _; (with_reducible repeat (first | refine blk_drewN ?_ _ | refine blk_drew ?_ | refine blk_alloc ?_ _)); refine blk_far ?_ NB234_236.out _; (with_reducible repeat (first | refine blk_drewN ?_ _ | refine blk_drew ?_ | refine blk_alloc ?_ _)); exact BK234.out⟩, ⟨by (with_reducible repeat (first | refine blk_drewN ?_ _ | refine blk_drew ?_ | refine blk_alloc ?_ _)); refine blk_far ?_ NB235_236.out _; (with_reducible repeat (first | refine blk_drewN ?_ _ | refine blk_drew ?_ | refine blk_alloc ?_ _)); refine blk_far ?_ NB235_236.out _; (with_reducible repeat (first | refine blk_drewN ?_ _ | refine blk_drew ?_ | refine blk_alloc ?_ _)); exact BK235.out⟩, ⟨by (with_reducible repeat (first | refine blk_drewN ?_ _ | refine blk_drew ?_ | refine blk_alloc ?_ _)); refine blk_put (cs := #[.int .i64 a0_0, .slice none 0 0]) ?_ 1 _ rfl; (with_reducible repeat (first | refine blk_drewN ?_ _ | refine blk_drew ?_ | refine blk_alloc ?_ _)); refine blk_put (cs := #[.int .i64 0, .slice none 0 0]) ?_ 0 _ rfl; (with_reducible repeat (first | refine blk_drewN ?_ _ | refine blk_drew ?_ | refine blk_alloc ?_ _)); exact BK236.out⟩, ⟨by repeat (first | (with_reducible first | exact HB.out | apply below_alloc | apply pw_below_drewN | apply below_drew1 | refine below_set ?_ GE233.out | refine below_set ?_ GE234.out | refine below_set ?_ GE235.out | refine below_set ?_ GE236.out) | exact HB.out)⟩⟩
      case round =>
        clear H'
        try clear c1
        try clear c2
        try clear p2
        try clear c3
        try clear c4
        try clear c4b0
        try clear c4b1
        try clear p6
        try clear c8
        try clear c9
        try clear c11
        try clear c13
        try clear c13b0
        try clear c17
        try clear c18
        try clear c20
        try clear c25
        try clear c26
        try clear c29
        try clear c30
        try clear c31
        try clear hcz10_0
        try clear hcz10_1
        try clear hcz12_0
        try clear hcz12_1
        try clear hcz19_0
        try clear hcz19_1
        try clear hcz21_0
        try clear hcz21_1
        try clear hcz27_0
        try clear hcz27_1
        try clear hcz32_0
        try clear hcz32_1
        try clear hfz10_0
        try clear hfz10_1
        try clear hfz12_0
        try clear hfz12_1
        try clear hfz19_0
        try clear hfz19_1
        try clear hfz21_0
        try clear hfz21_1
        try clear hfz27_0
        try clear hfz27_1
        try clear hfz32_0
        try clear hfz32_1
        obtain ⟨x1_1, x9_1, x237001_1, u237001, rfl, rfl, HA, HK1, HO_234001, HO_235001, HO_237001, BK233, BK234, BK235, BK236, HB⟩ := hrel
        cases gk with
        | zero => exact absurd HA.out (by simp [soritesref06_Put.l0])
        | succ k1 =>
          have H := HA.out
          clear HA
          simp only [soritesref06_Put.l0] at H
          by_cases c33 : x9_1 < (l0_1.length : Int)
          · rw [if_pos c33] at H
            have c33b0 : decide (x9_1 < (l0_1.length : Int)) = true := decide_eq_true c33
            clear c33
            by_cases c34 : 0 ≤ x9_1
            · rw [if_pos c34] at H
              have c34b0 : decide (0 ≤ x9_1) = true := decide_eq_true c34
              clear c34
              by_cases c35 : x1_1 ≥ 0
              · rw [if_pos c35] at H
                have c35b0 : decide (0 ≤ x1_1) = true := decide_eq_true c35
                clear c35
                replace H := Option.bind_eq_some_iff.mp H
                obtain ⟨⟨t240, t241, t244⟩, A360, H⟩ := H
                replace H : (if x237001_1.length < 4398046511104 then (soritesref06_Put.l0 k1 t244 (wrap64 (x9_1 + 1)) a0_0 l0_1 a2_0 l2_1 a0_0 (x237001_1 ++ [(⟨t240, t241⟩ : S24)])) else (none)) = some (r1, r2, r3) := H
                have A36 := Aside0.mk A360
                clear A360
                by_cases c37 : x237001_1.length < 4398046511104
                · rw [if_pos c37] at H
                  have LMc37 := Aside0.mk c37
                  clear c37
                  obtain ⟨y245, hy245⟩ : ∃ y_ : List (S24), y_ = (x237001_1 ++ [(⟨t240, t241⟩ : S24)]) := ⟨_, rfl⟩
                  replace H : (soritesref06_Put.l0 k1 t244 (wrap64 (x9_1 + 1)) a0_0 l0_1 a2_0 l2_1 a0_0 y245) = some (r1, r2, r3) := by first | (rw [hy245]; with_reducible exact H) | (have H2_ := (Option.bind_some _ _).symm.trans H; rw [hy245]; with_reducible exact H2_) | (have H2_ := (Option.bind_some _ _).symm.trans H; with_reducible exact H2_) | with_reducible exact H | (rw [hy245]; exact H) | exact H
                  have Ny245 := Aside0.mk hy245
                  clear hy245
                  have H' := Aside0.mk H
                  clear H
                  have hnb38 := NB233_234.out
                  have hnc38 := NB234_233.out
                  have hnb39 := NB233_235.out
                  have hnc39 := NB235_233.out
                  have hnb40 := NB233_236.out
                  have hnc40 := NB236_233.out
                  have hcz41_0 : wr.cell? ⟨gb233, 0, none⟩ = some (.int .i64 a0_0) := (blk_cell BK233.out 0).trans rfl
                  have hcz41_1 : wr.cell? ⟨gb233, 1, none⟩ = some (.slice A0_1 l0_1.length c0_1) := (blk_cell BK233.out 1).trans rfl
                  have hfz41_0 := blk_frozen BK233.out 0
                  have hfz41_1 := blk_frozen BK233.out 1
                  have p237 : 0 ≤ (x9_1 : Int) := of_decide_eq_true (by first | (with_reducible assumption) | assumption)
                  have q237 : x9_1 < (l0_1.length : Int) := of_decide_eq_true (by first | (with_reducible assumption) | assumption)
                  obtain ⟨ad237, A237_1, c237_1, e237, hx237_0, hx237_1, hl237_1, hi237_1⟩ := at_T24 (Kd.V_reads' HO_234001.out).2.2 x9_1 p237 q237
                  cases e237
                  obtain ⟨ce237, hce237, hMe237, hcc237⟩ := Kd.V_get HO_234001.out z24 x9_1 p237 (by first | exact q237 | exact of_decide_eq_true (by first | (with_reducible assumption) | assumption) | (have e_ := (Kd.V_reads' HO_234001.out).1; omega))
                  obtain ⟨ua237_1, uc237_1, rfl, ul237_1, ge237_1⟩ := k24_openF hMe237
                  have hv237_1 := hcc237 1 _ rfl
                  rw [add_field _ _ 1 (by omega)] at hv237_1
                  replace hv237_1 := Option.some.inj (hv237_1.symm.trans hx237_1)
                  injection hv237_1 with hva_ hvn_ hvc_
                  rw [hva_] at ge237_1
                  rw [hvc_] at ul237_1
                  have HL237_1 := Aside0.mk (show Kd.V k24 24 _ w.heap.size _ _ ((rd_T24 l0_1 x9_1).f1) from Kd.V_mk ul237_1 ge237_1)
                  clear hva_ hvn_ hvc_ ge237_1 ul237_1
                  clear hcc237 hce237
                  have HR237_1 := Aside0.mk hi237_1
                  have HC237_1 := Aside0.mk hl237_1
                  clear hi237_1 hl237_1
                  replace p237 := eq_true p237
                  replace q237 := eq_true q237
                  try go_wp2_with (first | ((with_reducible refine gate_dst (N := 10) rfl ?_); refine box_event ?hg (N := 10) ?hd (cs := #[.int .i64 0, .slice none 0 0]) (t := 24) ?hr ?_; (case hd => rfl); (case hg => rfl); (case hr => first | (go_simp; done) | (go_simp; rfl)); intro gb238 hg w42 hbox hb; have n0_ := Aside0.mk (Kd.V_below (Kd.V_elderB (by (with_reducible repeat (first | apply Kd.V_alloc | apply Kd.V_drewN | apply Kd.V_drew)); exact HO_234001.out) gb238 (Nat.le_of_eq hg.symm)) hb); have n1_ := Aside0.mk (Kd.V_below (Kd.V_elderB (by (with_reducible repeat (first | apply Kd.V_alloc | apply Kd.V_drewN | apply Kd.V_drew)); exact HO_235001.out) gb238 (Nat.le_of_eq hg.symm)) hb); have n2_ := Aside0.mk (Kd.N_below (Kd.N_elderB (by (with_reducible repeat (first | apply Kd.N_alloc | apply Kd.N_drewN | apply Kd.N_drew)); exact HO_237001.out) gb238 (Nat.le_of_eq hg.symm)) hb); have n3_ := Aside0.mk (Kd.V_below (Kd.V_elderB (by (with_reducible repeat (first | apply Kd.V_alloc | apply Kd.V_drewN | apply Kd.V_drew)); exact HL237_1.out) gb238 (Nat.le_of_eq hg.symm)) hb); have n4_ := Aside0.mk (blk_below (g := gb233) (o := .cells #[.int .i64 a0_0, .slice (some ad237) l0_1.length c0_1] 24 (0, 0)) (by (with_reducible repeat (first | refine blk_drewN ?_ _ | refine blk_drew ?_ | refine blk_alloc ?_ _)); exact BK233.out) hb); have n5_ := Aside0.mk (blk_below (g := gb234) (o := .cells #[.int .i64 a2_0, .slice A2_1 l2_1.length c2_1] 24 (0, 0)) (by (with_reducible repeat (first | refine blk_drewN ?_ _ | refine blk_drew ?_ | refine blk_alloc ?_ _)); exact BK234.out) hb); have n6_ := Aside0.mk (blk_below (g := gb235) (o := .cells #[.int .i64 0, .slice none 0 0] 24 (0, 0)) (by (with_reducible repeat (first | refine blk_drewN ?_ _ | refine blk_drew ?_ | refine blk_alloc ?_ _)); exact BK235.out) hb); have n7_ := Aside0.mk (blk_below (g := gb236) (o := .cells #[.int .i64 a0_0, u237001] 24 (0, 0)) (by (with_reducible repeat (first | refine blk_drewN ?_ _ | refine blk_drew ?_ | refine blk_alloc ?_ _)); exact BK236.out) hb); have n8_ := Aside0.mk (Kd.C_below (by repeat (first | (with_reducible exact HR237_1.out) | (with_reducible refine Kd.C_alloc ?_ _) | (with_reducible refine Kd.C_drewN ?_ _) | (with_reducible refine Kd.C_drew ?_) | exact HR237_1.out)) hb); have n9_ := Aside0.mk (below_step (by repeat (first | (with_reducible first | exact HB.out | apply below_alloc | apply pw_below_drewN | apply below_drew1 | refine below_set ?_ GE233.out | refine below_set ?_ GE234.out | refine below_set ?_ GE235.out | refine below_set ?_ GE236.out) | exact HB.out)) hb); have n10_ := Aside0.mk (hbox); have n11_ := Aside0.mk ((by rw [hg]; exact (below_size (by repeat (first | (with_reducible first | exact HB.out | apply below_alloc | apply pw_below_drewN | apply below_drew1 | refine below_set ?_ GE233.out | refine below_set ?_ GE234.out | refine below_set ?_ GE235.out | refine below_set ?_ GE236.out) | exact HB.out))) : w.heap.size ≤ gb238)); have n12_ := Aside0.mk ((by rw [hg]; exact (below_size (by repeat (first | (with_reducible first | exact HB.out | apply below_alloc | apply pw_below_drewN | apply below_drew1 | refine below_set ?_ GE233.out | refine below_set ?_ GE234.out | refine below_set ?_ GE235.out | refine below_set ?_ GE236.out) | exact HB.out))) : w.heap.size ≤ gb238)); have n13_ := Aside0.mk ((by rw [hg]; exact Nat.ne_of_lt (blk_lt (g := gb233) (o := .cells #[.int .i64 a0_0, .slice (some ad237) l0_1.length c0_1] 24 (0, 0)) (by (with_reducible repeat (first | refine blk_drewN ?_ _ | refine blk_drew ?_ | refine blk_alloc ?_ _)); exact BK233.out)) : gb233 ≠ gb238)); have n14_ := Aside0.mk ((by rw [hg]; exact Nat.ne_of_gt (blk_lt (g := gb233) (o := .cells #[.int .i64 a0_0, .slice (some ad237) l0_1.length c0_1] 24 (0, 0)) (by (with_reducible repeat (first | refine blk_drewN ?_ _ | refine blk_drew ?_ | refine blk_alloc ?_ _)); exact BK233.out)) : gb238 ≠ gb233)); have n15_ := Aside0.mk ((by rw [hg]; exact Nat.ne_of_lt (blk_lt (g := gb234) (o := .cells #[.int .i64 a2_0, .slice A2_1 l2_1.length c2_1] 24 (0, 0)) (by (with_reducible repeat (first | refine blk_drewN ?_ _ | refine blk_drew ?_ | refine blk_alloc ?_ _)); exact BK234.out)) : gb234 ≠ gb238)); have n16_ := Aside0.mk ((by rw [hg]; exact Nat.ne_of_gt (blk_lt (g := gb234) (o := .cells #[.int .i64 a2_0, .slice A2_1 l2_1.length c2_1] 24 (0, 0)) (by (with_reducible repeat (first | refine blk_drewN ?_ _ | refine blk_drew ?_ | refine blk_alloc ?_ _)); exact BK234.out)) : gb238 ≠ gb234)); have n17_ := Aside0.mk ((by rw [hg]; exact Nat.ne_of_lt (blk_lt (g := gb235) (o := .cells #[.int .i64 0, .slice none 0 0] 24 (0, 0)) (by (with_reducible repeat (first | refine blk_drewN ?_ _ | refine blk_drew ?_ | refine blk_alloc ?_ _)); exact BK235.out)) : gb235 ≠ gb238)); have n18_ := Aside0.mk ((by rw [hg]; exact Nat.ne_of_gt (blk_lt (g := gb235) (o := .cells #[.int .i64 0, .slice none 0 0] 24 (0, 0)) (by (with_reducible repeat (first | refine blk_drewN ?_ _ | refine blk_drew ?_ | refine blk_alloc ?_ _)); exact BK235.out)) : gb238 ≠ gb235)); have n19_ := Aside0.mk ((by rw [hg]; exact Nat.ne_of_lt (blk_lt (g := gb236) (o := .cells #[.int .i64 a0_0, u237001] 24 (0, 0)) (by (with_reducible repeat (first | refine blk_drewN ?_ _ | refine blk_drew ?_ | refine blk_alloc ?_ _)); exact BK236.out)) : gb236 ≠ gb238)); have n20_ := Aside0.mk ((by rw [hg]; exact Nat.ne_of_gt (blk_lt (g := gb236) (o := .cells #[.int .i64 a0_0, u237001] 24 (0, 0)) (by (with_reducible repeat (first | refine blk_drewN ?_ _ | refine blk_drew ?_ | refine blk_alloc ?_ _)); exact BK236.out)) : gb238 ≠ gb236)); clear HO_234001; clear HO_235001; clear HO_237001; clear HL237_1; clear BK233; clear BK234; clear BK235; clear BK236; clear HR237_1; clear HB; have HO_234001 := n0_; have HO_235001 := n1_; have HO_237001 := n2_; have HL237_1 := n3_; have BK233 := n4_; have BK234 := n5_; have BK235 := n6_; have BK236 := n7_; have HR237_1 := n8_; have HB := n9_; have BK238 := n10_; have GW238 := n11_; have GE238 := n12_; have NB233_238 := n13_; have NB238_233 := n14_; have NB234_238 := n15_; have NB238_234 := n16_; have NB235_238 := n17_; have NB238_235 := n18_; have NB236_238 := n19_; have NB238_236 := n20_; clear n0_ n1_ n2_ n3_ n4_ n5_ n6_ n7_ n8_ n9_ n10_ n11_ n12_ n13_ n14_ n15_ n16_ n17_ n18_ n19_ n20_; clear hb hbox hg; have hnb43 := NB238_233.out; have hnc43 := NB233_238.out; have hnb44 := NB238_234.out; have hnc44 := NB234_238.out; have hnb45 := NB238_235.out; have hnc45 := NB235_238.out; have hnb46 := NB238_236.out; have hnc46 := NB236_238.out; have hcz47_0 : w42.cell? ⟨gb238, 0, none⟩ = some (.int .i64 0) := (blk_cell BK238.out 0).trans rfl; have hcz47_1 : w42.cell? ⟨gb238, 1, none⟩ = some (.slice none 0 0) := (blk_cell BK238.out 1).trans rfl; have hfz47_0 := blk_frozen BK238.out 0; have hfz47_1 := blk_frozen BK238.out 1))
                  have n0_ : Aside0 (Kd.V k24 24 ((w42.setCell ⟨gb238, 0, none⟩ (.int .i64 ((rd_T24 l0_1 x9_1).f0))).setCell ⟨gb238, 1, none⟩ (.slice A237_1 ((rd_T24 l0_1 x9_1).f1).length c237_1)) w.heap.size (fun k_ => ((P0_1_ k_ ∨ P2_1_ k_) ∨ w.heap.size ≤ k_) ∧ some k_ ≠ (u237001 : Value).ownBlock ∧ k_ ≠ gb233 ∧ k_ ≠ gb234 ∧ k_ ≠ gb235 ∧ k_ ≠ gb236 ∧ k_ ≠ gb238) (.slice (some ad237) l0_1.length c0_1) l0_1) := ⟨by (with_reducible repeat (first | apply Kd.V_alloc | apply Kd.V_drewN | apply Kd.V_drew)); exact Kd.V_mono (Kd.V_far (p := ⟨gb238, 1, none⟩) (Kd.V_far (p := ⟨gb238, 0, none⟩) (Kd.V_mono HO_234001.out (fun k_ hk => (⟨hk, hk.2⟩ : _ ∧ k_ ≠ gb238))) (fun _ hk => hk.2) (.int .i64 ((rd_T24 l0_1 x9_1).f0))) (fun _ hk => hk.2) (.slice A237_1 ((rd_T24 l0_1 x9_1).f1).length c237_1)) (fun _ hk => ⟨hk.1.1.1, ⟨hk.1.1.2.1, ⟨hk.1.1.2.2.1, ⟨hk.1.1.2.2.2.1, ⟨hk.1.1.2.2.2.2.1, ⟨hk.1.1.2.2.2.2.2, hk.1.2⟩⟩⟩⟩⟩⟩)⟩
                  have n1_ : Aside0 (Kd.V k24 24 ((w42.setCell ⟨gb238, 0, none⟩ (.int .i64 ((rd_T24 l0_1 x9_1).f0))).setCell ⟨gb238, 1, none⟩ (.slice A237_1 ((rd_T24 l0_1 x9_1).f1).length c237_1)) w.heap.size (fun k_ => ((P0_1_ k_ ∨ P2_1_ k_) ∨ w.heap.size ≤ k_) ∧ some k_ ≠ (u237001 : Value).ownBlock ∧ k_ ≠ gb233 ∧ k_ ≠ gb234 ∧ k_ ≠ gb235 ∧ k_ ≠ gb236 ∧ k_ ≠ gb238) (.slice A2_1 l2_1.length c2_1) l2_1) := ⟨by (with_reducible repeat (first | apply Kd.V_alloc | apply Kd.V_drewN | apply Kd.V_drew)); exact Kd.V_mono (Kd.V_far (p := ⟨gb238, 1, none⟩) (Kd.V_far (p := ⟨gb238, 0, none⟩) (Kd.V_mono HO_235001.out (fun k_ hk => (⟨hk, hk.2⟩ : _ ∧ k_ ≠ gb238))) (fun _ hk => hk.2) (.int .i64 ((rd_T24 l0_1 x9_1).f0))) (fun _ hk => hk.2) (.slice A237_1 ((rd_T24 l0_1 x9_1).f1).length c237_1)) (fun _ hk => ⟨hk.1.1.1, ⟨hk.1.1.2.1, ⟨hk.1.1.2.2.1, ⟨hk.1.1.2.2.2.1, ⟨hk.1.1.2.2.2.2.1, ⟨hk.1.1.2.2.2.2.2, hk.1.2⟩⟩⟩⟩⟩⟩)⟩
                  have n2_ : Aside0 (Kd.N k24 24 ((w42.setCell ⟨gb238, 0, none⟩ (.int .i64 ((rd_T24 l0_1 x9_1).f0))).setCell ⟨gb238, 1, none⟩ (.slice A237_1 ((rd_T24 l0_1 x9_1).f1).length c237_1)) w.heap.size (fun k_ => ((P0_1_ k_ ∨ P2_1_ k_) ∨ w.heap.size ≤ k_) ∧ k_ ≠ gb233 ∧ k_ ≠ gb234 ∧ k_ ≠ gb235 ∧ k_ ≠ gb236 ∧ k_ ≠ gb238) u237001 x237001_1) := ⟨by (with_reducible repeat (first | apply Kd.N_alloc | apply Kd.N_drewN | apply Kd.N_drew)); exact Kd.N_mono (Kd.N_far (p := ⟨gb238, 1, none⟩) (Kd.N_far (p := ⟨gb238, 0, none⟩) (Kd.N_mono HO_237001.out (fun k_ hk => (⟨hk, hk.2⟩ : _ ∧ k_ ≠ gb238))) (fun _ hk => hk.2) (.int .i64 ((rd_T24 l0_1 x9_1).f0))) (fun _ hk => hk.2) (.slice A237_1 ((rd_T24 l0_1 x9_1).f1).length c237_1)) (fun _ hk => ⟨hk.1.1.1, ⟨hk.1.1.2.1, ⟨hk.1.1.2.2.1, ⟨hk.1.1.2.2.2.1, ⟨hk.1.1.2.2.2.2, hk.1.2⟩⟩⟩⟩⟩)⟩
                  have n3_ : Aside0 (Kd.V k24 24 ((w42.setCell ⟨gb238, 0, none⟩ (.int .i64 ((rd_T24 l0_1 x9_1).f0))).setCell ⟨gb238, 1, none⟩ (.slice A237_1 ((rd_T24 l0_1 x9_1).f1).length c237_1)) w.heap.size (fun k_ => ((P0_1_ k_ ∨ P2_1_ k_) ∨ w.heap.size ≤ k_) ∧ some k_ ≠ (u237001 : Value).ownBlock ∧ k_ ≠ gb233 ∧ k_ ≠ gb234 ∧ k_ ≠ gb235 ∧ k_ ≠ gb236 ∧ k_ ≠ gb238) (.slice A237_1 ((rd_T24 l0_1 x9_1).f1).length c237_1) ((rd_T24 l0_1 x9_1).f1)) := ⟨by (with_reducible repeat (first | apply Kd.V_alloc | apply Kd.V_drewN | apply Kd.V_drew)); exact Kd.V_mono (Kd.V_far (p := ⟨gb238, 1, none⟩) (Kd.V_far (p := ⟨gb238, 0, none⟩) (Kd.V_mono HL237_1.out (fun k_ hk => (⟨hk, hk.2⟩ : _ ∧ k_ ≠ gb238))) (fun _ hk => hk.2) (.int .i64 ((rd_T24 l0_1 x9_1).f0))) (fun _ hk => hk.2) (.slice A237_1 ((rd_T24 l0_1 x9_1).f1).length c237_1)) (fun _ hk => ⟨hk.1.1.1, ⟨hk.1.1.2.1, ⟨hk.1.1.2.2.1, ⟨hk.1.1.2.2.2.1, ⟨hk.1.1.2.2.2.2.1, ⟨hk.1.1.2.2.2.2.2, hk.1.2⟩⟩⟩⟩⟩⟩)⟩
                  have n4_ : Aside0 (((w42.setCell ⟨gb238, 0, none⟩ (.int .i64 ((rd_T24 l0_1 x9_1).f0))).setCell ⟨gb238, 1, none⟩ (.slice A237_1 ((rd_T24 l0_1 x9_1).f1).length c237_1)).heap[gb233]? = some (.cells #[.int .i64 a0_0, .slice (some ad237) l0_1.length c0_1] 24 (0, 0))) := ⟨by (with_reducible repeat (first | refine blk_drewN ?_ _ | refine blk_drew ?_ | refine blk_alloc ?_ _)); refine blk_far ?_ NB233_238.out _; (with_reducible repeat (first | refine blk_drewN ?_ _ | refine blk_drew ?_ | refine blk_alloc ?_ _)); refine blk_far ?_ NB233_238.out _; (with_reducible repeat (first | refine blk_drewN ?_ _ | refine blk_drew ?_ | refine blk_alloc ?_ _)); exact BK233.out⟩
                  have n5_ : Aside0 (((w42.setCell ⟨gb238, 0, none⟩ (.int .i64 ((rd_T24 l0_1 x9_1).f0))).setCell ⟨gb238, 1, none⟩ (.slice A237_1 ((rd_T24 l0_1 x9_1).f1).length c237_1)).heap[gb234]? = some (.cells #[.int .i64 a2_0, .slice A2_1 l2_1.length c2_1] 24 (0, 0))) := ⟨by (with_reducible repeat (first | refine blk_drewN ?_ _ | refine blk_drew ?_ | refine blk_alloc ?_ _)); refine blk_far ?_ NB234_238.out _; (with_reducible repeat (first | refine blk_drewN ?_ _ | refine blk_drew ?_ | refine blk_alloc ?_ _)); refine blk_far ?_ NB234_238.out _; (with_reducible repeat (first | refine blk_drewN ?_ _ | refine blk_drew ?_ | refine blk_alloc ?_ _)); exact BK234.out⟩
                  have n6_ : Aside0 (((w42.setCell ⟨gb238, 0, none⟩ (.int .i64 ((rd_T24 l0_1 x9_1).f0))).setCell ⟨gb238, 1, none⟩ (.slice A237_1 ((rd_T24 l0_1 x9_1).f1).length c237_1)).heap[gb235]? = some (.cells #[.int .i64 0, .slice none 0 0] 24 (0, 0))) := ⟨by (with_reducible repeat (first | refine blk_drewN ?_ _ | refine blk_drew ?_ | refine blk_alloc ?_ _)); refine blk_far ?_ NB235_238.out _; (with_reducible repeat (first | refine blk_drewN ?_ _ | refine blk_drew ?_ | refine blk_alloc ?_ _)); refine blk_far ?_ NB235_238.out _; (with_reducible repeat (first | refine blk_drewN ?_ _ | refine blk_drew ?_ | refine blk_alloc ?_ _)); exact BK235.out⟩
                  have n7_ : Aside0 (((w42.setCell ⟨gb238, 0, none⟩ (.int .i64 ((rd_T24 l0_1 x9_1).f0))).setCell ⟨gb238, 1, none⟩ (.slice A237_1 ((rd_T24 l0_1 x9_1).f1).length c237_1)).heap[gb236]? = some (.cells #[.int .i64 a0_0, u237001] 24 (0, 0))) := ⟨by (with_reducible repeat (first | refine blk_drewN ?_ _ | refine blk_drew ?_ | refine blk_alloc ?_ _)); refine blk_far ?_ NB236_238.out _; (with_reducible repeat (first | refine blk_drewN ?_ _ | refine blk_drew ?_ | refine blk_alloc ?_ _)); refine blk_far ?_ NB236_238.out _; (with_reducible repeat (first | refine blk_drewN ?_ _ | refine blk_drew ?_ | refine blk_alloc ?_ _)); exact BK236.out⟩
                  have n8_ : Aside0 (((w42.setCell ⟨gb238, 0, none⟩ (.int .i64 ((rd_T24 l0_1 x9_1).f0))).setCell ⟨gb238, 1, none⟩ (.slice A237_1 ((rd_T24 l0_1 x9_1).f1).length c237_1)).heap[gb238]? = some (.cells #[.int .i64 ((rd_T24 l0_1 x9_1).f0), .slice A237_1 ((rd_T24 l0_1 x9_1).f1).length c237_1] 24 (0, 0))) := ⟨by (with_reducible repeat (first | refine blk_drewN ?_ _ | refine blk_drew ?_ | refine blk_alloc ?_ _)); refine blk_put (cs := #[.int .i64 ((rd_T24 l0_1 x9_1).f0), .slice none 0 0]) ?_ 1 _ rfl; (with_reducible repeat (first | refine blk_drewN ?_ _ | refine blk_drew ?_ | refine blk_alloc ?_ _)); refine blk_put (cs := #[.int .i64 0, .slice none 0 0]) ?_ 0 _ rfl; (with_reducible repeat (first | refine blk_drewN ?_ _ | refine blk_drew ?_ | refine blk_alloc ?_ _)); exact BK238.out⟩
                  have n9_ : Aside0 (Below w.heap.size w ((w42.setCell ⟨gb238, 0, none⟩ (.int .i64 ((rd_T24 l0_1 x9_1).f0))).setCell ⟨gb238, 1, none⟩ (.slice A237_1 ((rd_T24 l0_1 x9_1).f1).length c237_1))) := ⟨by repeat (first | (with_reducible first | exact HB.out | apply below_alloc | apply pw_below_drewN | apply below_drew1 | refine below_set ?_ GE233.out | refine below_set ?_ GE234.out | refine below_set ?_ GE235.out | refine below_set ?_ GE236.out | refine below_set ?_ GE238.out) | exact HB.out)⟩
                  (try clear HO_234001)
                  (try clear HO_235001)
                  (try clear HO_237001)
                  (try clear HL237_1)
                  (try clear BK233)
                  (try clear BK234)
                  (try clear BK235)
                  (try clear BK236)
                  (try clear BK238)
                  (try clear HB)
                  generalize ((w42.setCell ⟨gb238, 0, none⟩ (.int .i64 ((rd_T24 l0_1 x9_1).f0))).setCell ⟨gb238, 1, none⟩ (.slice A237_1 ((rd_T24 l0_1 x9_1).f1).length c237_1)) = w48 at n0_ n1_ n2_ n3_ n4_ n5_ n6_ n7_ n8_ n9_ ⊢
                  have HO_234001 := n0_
                  have HO_235001 := n1_
                  have HO_237001 := n2_
                  have HL237_1 := n3_
                  have BK233 := n4_
                  have BK234 := n5_
                  have BK235 := n6_
                  have BK236 := n7_
                  have BK238 := n8_
                  have HB := n9_
                  clear n0_ n1_ n2_ n3_ n4_ n5_ n6_ n7_ n8_ n9_
                  have n0_ := Aside0.mk (Kd.V_drew HO_234001.out)
                  have n1_ := Aside0.mk (Kd.V_drew HO_235001.out)
                  have n2_ := Aside0.mk (Kd.N_drew HO_237001.out)
                  have n3_ := Aside0.mk (Kd.V_drew HL237_1.out)
                  have n4_ := Aside0.mk (blk_drew BK233.out)
                  have n5_ := Aside0.mk (blk_drew BK234.out)
                  have n6_ := Aside0.mk (blk_drew BK235.out)
                  have n7_ := Aside0.mk (blk_drew BK236.out)
                  have n8_ := Aside0.mk (blk_drew BK238.out)
                  have n9_ := Aside0.mk (below_drew1 HB.out)
                  clear HO_234001
                  clear HO_235001
                  clear HO_237001
                  clear HL237_1
                  clear BK233
                  clear BK234
                  clear BK235
                  clear BK236
                  clear BK238
                  clear HB
                  have HO_234001 := n0_
                  have HO_235001 := n1_
                  have HO_237001 := n2_
                  have HL237_1 := n3_
                  have BK233 := n4_
                  have BK234 := n5_
                  have BK235 := n6_
                  have BK236 := n7_
                  have BK238 := n8_
                  have HB := n9_
                  clear n0_ n1_ n2_ n3_ n4_ n5_ n6_ n7_ n8_ n9_
                  have p239 : 0 ≤ (x9_1 : Int) := of_decide_eq_true (by first | (with_reducible assumption) | assumption)
                  have q239 : x9_1 < (l0_1.length : Int) := of_decide_eq_true (by first | (with_reducible assumption) | assumption)
                  obtain ⟨ad239, A239_1, c239_1, e239, hx239_0, hx239_1, hl239_1, hi239_1⟩ := at_T24 (Kd.V_reads' HO_234001.out).2.2 x9_1 p239 q239
                  obtain rfl : ad237 = ad239 := (by injection e239)
                  obtain ⟨ce239, hce239, hMe239, hcc239⟩ := Kd.V_get HO_234001.out z24 x9_1 p239 (by first | exact q239 | exact of_decide_eq_true (by first | (with_reducible assumption) | assumption) | (have e_ := (Kd.V_reads' HO_234001.out).1; omega))
                  obtain ⟨ua239_1, uc239_1, rfl, ul239_1, ge239_1⟩ := k24_openF hMe239
                  have hv239_1 := hcc239 1 _ rfl
                  rw [add_field _ _ 1 (by omega)] at hv239_1
                  replace hv239_1 := Option.some.inj (hv239_1.symm.trans hx239_1)
                  injection hv239_1 with hva_ hvn_ hvc_
                  rw [hva_] at ge239_1
                  rw [hvc_] at ul239_1
                  have HL239_1 := Aside0.mk (show Kd.V k24 24 _ w.heap.size _ _ ((rd_T24 l0_1 x9_1).f1) from Kd.V_mk ul239_1 ge239_1)
                  clear hva_ hvn_ hvc_ ge239_1 ul239_1
                  clear hcc239 hce239
                  have HR239_1 := Aside0.mk hi239_1
                  have HC239_1 := Aside0.mk hl239_1
                  clear hi239_1 hl239_1
                  replace p239 := eq_true p239
                  replace q239 := eq_true q239
                  refine start_ (n := 13) (S := fun w' => w'.cell? ⟨gb233, 0, none⟩ = some (.int .i64 a0_0) ∧ w'.cell? ⟨gb233, 1, none⟩ = some (.slice (some ad237) l0_1.length c0_1) ∧ w'.cell? ⟨gb234, 0, none⟩ = some (.int .i64 a2_0) ∧ w'.cell? ⟨gb234, 1, none⟩ = some (.slice A2_1 l2_1.length c2_1) ∧ w'.cell? (ad237.add ((x9_1).toNat * 2)) = some (.int .i64 ((rd_T24 l0_1 x9_1).f0)) ∧ w'.cell? ⟨(ad237.add ((x9_1).toNat * 2)).block, (ad237.add ((x9_1).toNat * 2)).off + 1, none⟩ = some (.slice A239_1 ((rd_T24 l0_1 x9_1).f1).length c239_1)) (ds := []) #[false, false, false, false, false, false, false, false, false, false, false, false, false] (by kernel_rfl) rfl rfl ⟨(blk_cell BK233.out 0).trans rfl, (blk_cell BK233.out 1).trans rfl, (blk_cell BK234.out 0).trans rfl, (blk_cell BK234.out 1).trans rfl, hx239_0, hx239_1⟩ (fun hHeld => ?_); refine with_tabW soritesref06_Put.tab12 soritesref06_Put.bits12 (fun HT_ HW_ => ?_)
                  generalize w48.drew = w49 at HO_234001 HO_235001 HO_237001 HL237_1 BK233 BK234 BK235 BK236 BK238 HB HL239_1 HR239_1 hx239_0 hx239_1 hHeld ⊢
                  refine pure_ (i := 0) (N := some 41) (v := ?_) (a' := ?_) #[true, false, false, false, false, false, false, false, false, false, false, false, false] rfl rfl (any_of HT_.out (by kernel_rfl)) (fun _ _ _ h => h) (Or.inl ⟨by rfl, ?_⟩) ?_ ?_
                  rotate_left
                  · intro w'
                    go_simp
                    with_reducible rfl
                  rotate_left
                  · simp only [Act.put, List.setIfInBounds_toArray, List.set_cons_zero, List.set_cons_succ, i64_w, i32_w]
                    rfl
                  refine pure_ (i := 2) (N := some 43) (v := ?_) (a' := ?_) #[true, false, true, false, false, false, false, false, false, false, false, false, false] rfl rfl (any_of HT_.out (by kernel_rfl)) (fun _ _ _ h => h) (Or.inl ⟨by rfl, ?_⟩) ?_ ?_
                  rotate_left
                  · intro w'
                    go_simp
                    with_reducible rfl
                  rotate_left
                  · simp only [Act.put, List.setIfInBounds_toArray, List.set_cons_zero, List.set_cons_succ, i64_w, i32_w]
                    rfl
                  refine pure_ (i := 5) (N := some 46) (v := ?_) (a' := ?_) #[true, false, true, false, false, true, false, false, false, false, false, false, false] rfl rfl (any_of HT_.out (by kernel_rfl)) (fun _ _ _ h => h) (Or.inl ⟨by rfl, ?_⟩) ?_ ?_
                  rotate_left
                  · intro w'
                    go_simp
                    with_reducible rfl
                  rotate_left
                  · simp only [Act.put, List.setIfInBounds_toArray, List.set_cons_zero, List.set_cons_succ, i64_w, i32_w]
                    rfl
                  refine take_ (i := 1) (N := some 42) (v := ?_) (a' := ?_) #[true, true, true, false, false, true, false, false, false, false, false, false, false] rfl rfl (take_ofW HT_.out HW_.out (by kernel_rfl)) (fun _ _ _ h => h) (Or.inl ⟨by rfl, ?_⟩) hHeld ?_ ?_
                  rotate_left
                  · rintro w' ⟨s0, s1, s2, s3, s4, s5⟩
                    go_simp
                    with_reducible rfl
                  rotate_left
                  · simp only [Act.put, List.setIfInBounds_toArray, List.set_cons_zero, List.set_cons_succ, i64_w, i32_w]
                    rfl
                  refine pure_ (i := 3) (N := some 44) (v := ?_) (a' := ?_) #[true, true, true, true, false, true, false, false, false, false, false, false, false] rfl rfl (any_of HT_.out (by kernel_rfl)) (fun _ _ _ h => h) (Or.inl ⟨by rfl, ?_⟩) ?_ ?_
                  rotate_left
                  · intro w'
                    go_simp
                    with_reducible rfl
                  rotate_left
                  · simp only [Act.put, List.setIfInBounds_toArray, List.set_cons_zero, List.set_cons_succ, i64_w, i32_w]
                    rfl
                  refine take_ (i := 4) (N := some 45) (v := ?_) (a' := ?_) #[true, true, true, true, true, true, false, false, false, false, false, false, false] rfl rfl (take_ofW HT_.out HW_.out (by kernel_rfl)) (fun _ _ _ h => h) (Or.inl ⟨by rfl, ?_⟩) hHeld ?_ ?_
                  rotate_left
                  · rintro w' ⟨s0, s1, s2, s3, s4, s5⟩
                    go_simp
                    with_reducible rfl
                  rotate_left
                  · simp only [Act.put, List.setIfInBounds_toArray, List.set_cons_zero, List.set_cons_succ, i64_w, i32_w]
                    rfl
                  refine take_ (i := 6) (N := some 47) (v := ?_) (a' := ?_) #[true, true, true, true, true, true, true, false, false, false, false, false, false] rfl rfl (take_ofW HT_.out HW_.out (by kernel_rfl)) (fun _ _ _ h => h) (Or.inl ⟨by rfl, ?_⟩) hHeld ?_ ?_
                  rotate_left
                  · rintro w' ⟨s0, s1, s2, s3, s4, s5⟩
                    go_simp
                    with_reducible rfl
                  rotate_left
                  · simp only [Act.put, List.setIfInBounds_toArray, List.set_cons_zero, List.set_cons_succ, i64_w, i32_w]
                    rfl
                  refine one_ (i := 7) (N := some 48) #[true, true, true, true, true, true, true, true, false, false, false, false, false] rfl rfl (one_of HT_.out (by kernel_rfl)) (by decide) (fun K hK => ?_)
                  refine goes_ Try.func31 (by kernel_rfl) rfl #[.agg #[.int .i64 ((rd_T24 l0_1 x9_1).f0), .slice A239_1 ((rd_T24 l0_1 x9_1).f1).length c239_1], .int .i64 x1_1, .agg #[.int .i64 a2_0, .slice A2_1 l2_1.length c2_1]] (by rfl) rfl rfl (by (try simp only [List.map_toArray, List.map_cons, List.map_nil]); first | done | rfl | (simp only [List.length_drop, List.length_take]; rfl)) ?_
                  with_reducible refine (ih k1 (by have := HK1.out; omega) ((rd_T24 l0_1 x9_1).f0) (fun k_ => (((P0_1_ k_ ∨ P2_1_ k_) ∨ w.heap.size ≤ k_) ∧ (some k_ ≠ (u237001 : Value).ownBlock ∧ (k_ ≠ gb233 ∧ (k_ ≠ gb234 ∧ (k_ ≠ gb235 ∧ (k_ ≠ gb236 ∧ k_ ≠ gb238))))))) _ _ ((rd_T24 l0_1 x9_1).f1) x1_1 a2_0 (fun k_ => (((P0_1_ k_ ∨ P2_1_ k_) ∨ w.heap.size ≤ k_) ∧ (some k_ ≠ (u237001 : Value).ownBlock ∧ (k_ ≠ gb233 ∧ (k_ ≠ gb234 ∧ (k_ ≠ gb235 ∧ (k_ ≠ gb236 ∧ k_ ≠ gb238))))))) _ _ l2_1 t240 t241 t244 _ ?side1 ?side2 A36.out).mono ?_
                  (case side1 => exact HL239_1.out)
                  (case side2 => exact HO_235001.out)
                  rintro e w50 ⟨v242, rfl, ho0, hb⟩
                  have HS4_ := (hb.cell (World.block_lt_of_cell? _ _ (hHeld.2.2.2.2.1))).trans (hHeld.2.2.2.2.1)
                  have HS5_ := (hb.cell (World.block_lt_of_cell? _ _ (hHeld.2.2.2.2.2))).trans (hHeld.2.2.2.2.2)
                  refine ⟨_, rfl, ?_⟩
                  have n0_ := Aside0.mk (Kd.V_below (by (with_reducible repeat (first | apply Kd.V_alloc | apply Kd.V_drewN | apply Kd.V_drew)); exact HO_234001.out) hb)
                  have n1_ := Aside0.mk (Kd.V_below (by (with_reducible repeat (first | apply Kd.V_alloc | apply Kd.V_drewN | apply Kd.V_drew)); exact HO_235001.out) hb)
                  have n2_ := Aside0.mk (Kd.N_below (by (with_reducible repeat (first | apply Kd.N_alloc | apply Kd.N_drewN | apply Kd.N_drew)); exact HO_237001.out) hb)
                  have n3_ := Aside0.mk (Kd.V_below (by (with_reducible repeat (first | apply Kd.V_alloc | apply Kd.V_drewN | apply Kd.V_drew)); exact HL237_1.out) hb)
                  have n4_ := Aside0.mk (Kd.V_below (by (with_reducible repeat (first | apply Kd.V_alloc | apply Kd.V_drewN | apply Kd.V_drew)); exact HL239_1.out) hb)
                  have n5_ := Aside0.mk (Kd.V_lower (Kd.V_mono (ok' := fun k_ => ((P0_1_ k_ ∨ P2_1_ k_) ∨ w.heap.size ≤ k_) ∧ some k_ ≠ (u237001 : Value).ownBlock ∧ k_ ≠ gb233 ∧ k_ ≠ gb234 ∧ k_ ≠ gb235 ∧ k_ ≠ gb236 ∧ k_ ≠ gb238) ho0 (fun k_ hk_ => ⟨Or.elim hk_ (fun hs_ => Or.elim hs_ (fun hs_ => hs_.1) (fun hs_ => hs_.1)) (fun hn_ => (.inr (Nat.le_trans (below_size (by repeat (first | (with_reducible first | exact HB.out | apply below_alloc | apply pw_below_drewN | apply below_drew1 | refine below_set ?_ GE233.out | refine below_set ?_ GE234.out | refine below_set ?_ GE235.out | refine below_set ?_ GE236.out | refine below_set ?_ GE238.out) | exact HB.out))) hn_))), Or.elim hk_ (fun hs_ => Or.elim hs_ (fun hs_ => hs_.2.1) (fun hs_ => hs_.2.1)) (fun hn_ => (Kd.fresh' (Kd.N_lt (by (with_reducible repeat (first | apply Kd.N_alloc | apply Kd.N_drewN | apply Kd.N_drew)); exact HO_237001.out)) k_ hn_)), Or.elim hk_ (fun hs_ => Or.elim hs_ (fun hs_ => hs_.2.2.1) (fun hs_ => hs_.2.2.1)) (fun hn_ => (Kd.freshB (g := gb233) (o := .cells #[.int .i64 a0_0, .slice (some ad237) l0_1.length c0_1] 24 (0, 0)) (by (with_reducible repeat (first | refine blk_drewN ?_ _ | refine blk_drew ?_ | refine blk_alloc ?_ _)); exact BK233.out) k_ hn_)), Or.elim hk_ (fun hs_ => Or.elim hs_ (fun hs_ => hs_.2.2.2.1) (fun hs_ => hs_.2.2.2.1)) (fun hn_ => (Kd.freshB (g := gb234) (o := .cells #[.int .i64 a2_0, .slice A2_1 l2_1.length c2_1] 24 (0, 0)) (by (with_reducible repeat (first | refine blk_drewN ?_ _ | refine blk_drew ?_ | refine blk_alloc ?_ _)); exact BK234.out) k_ hn_)), Or.elim hk_ (fun hs_ => Or.elim hs_ (fun hs_ => hs_.2.2.2.2.1) (fun hs_ => hs_.2.2.2.2.1)) (fun hn_ => (Kd.freshB (g := gb235) (o := .cells #[.int .i64 0, .slice none 0 0] 24 (0, 0)) (by (with_reducible repeat (first | refine blk_drewN ?_ _ | refine blk_drew ?_ | refine blk_alloc ?_ _)); exact BK235.out) k_ hn_)), Or.elim hk_ (fun hs_ => Or.elim hs_ (fun hs_ => hs_.2.2.2.2.2.1) (fun hs_ => hs_.2.2.2.2.2.1)) (fun hn_ => (Kd.freshB (g := gb236) (o := .cells #[.int .i64 a0_0, u237001] 24 (0, 0)) (by (with_reducible repeat (first | refine blk_drewN ?_ _ | refine blk_drew ?_ | refine blk_alloc ?_ _)); exact BK236.out) k_ hn_)), Or.elim hk_ (fun hs_ => Or.elim hs_ (fun hs_ => hs_.2.2.2.2.2.2) (fun hs_ => hs_.2.2.2.2.2.2)) (fun hn_ => (Kd.freshB (g := gb238) (o := .cells #[.int .i64 ((rd_T24 l0_1 x9_1).f0), .slice A237_1 ((rd_T24 l0_1 x9_1).f1).length c237_1] 24 (0, 0)) (by (with_reducible repeat (first | refine blk_drewN ?_ _ | refine blk_drew ?_ | refine blk_alloc ?_ _)); exact BK238.out) k_ hn_))⟩)) (below_size (by repeat (first | (with_reducible first | exact HB.out | apply below_alloc | apply pw_below_drewN | apply below_drew1 | refine below_set ?_ GE233.out | refine below_set ?_ GE234.out | refine below_set ?_ GE235.out | refine below_set ?_ GE236.out | refine below_set ?_ GE238.out) | exact HB.out))))
                  have n6_ := Aside0.mk (blk_below (g := gb233) (o := .cells #[.int .i64 a0_0, .slice (some ad237) l0_1.length c0_1] 24 (0, 0)) (by (with_reducible repeat (first | refine blk_drewN ?_ _ | refine blk_drew ?_ | refine blk_alloc ?_ _)); exact BK233.out) hb)
                  have n7_ := Aside0.mk (blk_below (g := gb234) (o := .cells #[.int .i64 a2_0, .slice A2_1 l2_1.length c2_1] 24 (0, 0)) (by (with_reducible repeat (first | refine blk_drewN ?_ _ | refine blk_drew ?_ | refine blk_alloc ?_ _)); exact BK234.out) hb)
                  have n8_ := Aside0.mk (blk_below (g := gb235) (o := .cells #[.int .i64 0, .slice none 0 0] 24 (0, 0)) (by (with_reducible repeat (first | refine blk_drewN ?_ _ | refine blk_drew ?_ | refine blk_alloc ?_ _)); exact BK235.out) hb)
                  have n9_ := Aside0.mk (blk_below (g := gb236) (o := .cells #[.int .i64 a0_0, u237001] 24 (0, 0)) (by (with_reducible repeat (first | refine blk_drewN ?_ _ | refine blk_drew ?_ | refine blk_alloc ?_ _)); exact BK236.out) hb)
                  have n10_ := Aside0.mk (blk_below (g := gb238) (o := .cells #[.int .i64 ((rd_T24 l0_1 x9_1).f0), .slice A237_1 ((rd_T24 l0_1 x9_1).f1).length c237_1] 24 (0, 0)) (by (with_reducible repeat (first | refine blk_drewN ?_ _ | refine blk_drew ?_ | refine blk_alloc ?_ _)); exact BK238.out) hb)
                  have n11_ := Aside0.mk (Kd.C_below (by repeat (first | (with_reducible exact HR239_1.out) | (with_reducible refine Kd.C_alloc ?_ _) | (with_reducible refine Kd.C_drewN ?_ _) | (with_reducible refine Kd.C_drew ?_) | exact HR239_1.out)) hb)
                  have n12_ := Aside0.mk (below_step (by repeat (first | (with_reducible first | exact HB.out | apply below_alloc | apply pw_below_drewN | apply below_drew1 | refine below_set ?_ GE233.out | refine below_set ?_ GE234.out | refine below_set ?_ GE235.out | refine below_set ?_ GE236.out | refine below_set ?_ GE238.out) | exact HB.out)) hb)
                  clear HO_234001
                  clear HO_235001
                  clear HO_237001
                  clear HL237_1
                  clear HL239_1
                  clear BK233
                  clear BK234
                  clear BK235
                  clear BK236
                  clear BK238
                  clear HR239_1
                  clear HB
                  have HO_234001 := n0_
                  have HO_235001 := n1_
                  have HO_237001 := n2_
                  have HL237_1 := n3_
                  have HL239_1 := n4_
                  have HO243 := n5_
                  have BK233 := n6_
                  have BK234 := n7_
                  have BK235 := n8_
                  have BK236 := n9_
                  have BK238 := n10_
                  have HR239_1 := n11_
                  have HB := n12_
                  clear n0_ n1_ n2_ n3_ n4_ n5_ n6_ n7_ n8_ n9_ n10_ n11_ n12_
                  (try clear hb)
                  (try clear hb2)
                  (try clear hk)
                  (try clear hi)
                  (try clear ho0)
                  obtain ⟨Ao52, co52, eo52⟩ := Kd.V_slice HO243.out
                  (first | subst eo52 | (injection eo52 with f1_ f2_ f3_; have f4_ := f1_.symm; have f5_ := f3_.symm; clear f1_ f2_ f3_; subst f4_; subst f5_))
                  refine hK.out _ _ ⟨(blk_cell BK233.out 0).trans rfl, (blk_cell BK233.out 1).trans rfl, (blk_cell BK234.out 0).trans rfl, (blk_cell BK234.out 1).trans rfl, HS4_, HS5_⟩ (fun hHeld => ?_)
                  clear hK K
                  refine norm_ (a' := ?_) ?_ ?_
                  rotate_left
                  · show Act.put _ (some 48) _ = _
                    simp only [Act.put, List.setIfInBounds_toArray, List.set_cons_zero, List.set_cons_succ, i64_w, i32_w]
                    rfl
                  refine pure_ (i := 8) (N := some 40) (v := ?_) (a' := ?_) #[true, true, true, true, true, true, true, true, true, false, false, false, false] rfl rfl (any_of HT_.out (by kernel_rfl)) (fun _ _ _ h => h) (Or.inl ⟨by rfl, ?_⟩) ?_ ?_
                  rotate_left
                  · intro w'
                    go_simp
                    with_reducible rfl
                  rotate_left
                  · simp only [Act.put, List.setIfInBounds_toArray, List.set_cons_zero, List.set_cons_succ, i64_w, i32_w]
                    rfl
                  refine pure_ (i := 9) (N := some 49) (v := ?_) (a' := ?_) #[true, true, true, true, true, true, true, true, true, true, false, false, false] rfl rfl (any_of HT_.out (by kernel_rfl)) (fun _ _ _ h => h) (Or.inl ⟨by rfl, ?_⟩) ?_ ?_
                  rotate_left
                  · intro w'
                    go_simp
                    with_reducible rfl
                  rotate_left
                  · simp only [Act.put, List.setIfInBounds_toArray, List.set_cons_zero, List.set_cons_succ, i64_w, i32_w]
                    rfl
                  refine pure_ (i := 10) (N := some 50) (v := ?_) (a' := ?_) #[true, true, true, true, true, true, true, true, true, true, true, false, false] rfl rfl (any_of HT_.out (by kernel_rfl)) (fun _ _ _ h => h) (Or.inl ⟨by rfl, ?_⟩) ?_ ?_
                  rotate_left
                  · intro w'
                    go_simp
                    with_reducible rfl
                  rotate_left
                  · simp only [Act.put, List.setIfInBounds_toArray, List.set_cons_zero, List.set_cons_succ, i64_w, i32_w]
                    rfl
                  refine one_ (i := 11) (N := none) #[true, true, true, true, true, true, true, true, true, true, true, true, false] rfl rfl (one_of HT_.out (by kernel_rfl)) (by decide) (fun K hK => ?_)
                  have hs51 : w50.cell? ⟨gb238, 0, none⟩ = some (.int .i64 ((rd_T24 l0_1 x9_1).f0)) := (blk_cell BK238.out 0).trans rfl
                  have hfs51 := blk_frozen BK238.out 0
                  have hns51_0 := NB233_238.out
                  have hns51_1 := NB234_238.out
                  have hns51_2 := NB235_238.out
                  have hns51_3 := NB236_238.out
                  have hms51_0 := NB238_233.out
                  have hms51_1 := NB238_234.out
                  have hms51_2 := NB238_235.out
                  have hms51_3 := NB238_236.out
                  have hs53 : w50.cell? ⟨gb238, 1, none⟩ = some (.slice A237_1 ((rd_T24 l0_1 x9_1).f1).length c237_1) := (blk_cell BK238.out 1).trans rfl
                  have hfs53 := blk_frozen BK238.out 1
                  have hns53_0 := NB233_238.out
                  have hns53_1 := NB234_238.out
                  have hns53_2 := NB235_238.out
                  have hns53_3 := NB236_238.out
                  have hms53_0 := NB238_233.out
                  have hms53_1 := NB238_234.out
                  have hms53_2 := NB238_235.out
                  have hms53_3 := NB238_236.out
                  refine skip_ (w1 := ?_) (by rfl) rfl ?_ ?_
                  rotate_left
                  · go_simp
                    rfl
                  refine hK.out _ _ ⟨((cell_far (p := ⟨gb238, _, none⟩) NB233_238.out _).trans (((cell_far (p := ⟨gb238, _, none⟩) NB233_238.out _).trans (hHeld.1)))), ((cell_far (p := ⟨gb238, _, none⟩) NB233_238.out _).trans (((cell_far (p := ⟨gb238, _, none⟩) NB233_238.out _).trans (hHeld.2.1)))), ((cell_far (p := ⟨gb238, _, none⟩) NB234_238.out _).trans (((cell_far (p := ⟨gb238, _, none⟩) NB234_238.out _).trans (hHeld.2.2.1)))), ((cell_far (p := ⟨gb238, _, none⟩) NB234_238.out _).trans (((cell_far (p := ⟨gb238, _, none⟩) NB234_238.out _).trans (hHeld.2.2.2.1)))), ((cell_far (p := ⟨gb238, _, none⟩) (by first | exact Kd.own_blk (V_away2 (g := gb238) HO_234001.out (fun _ hk => hk.2.2.2.2.2.2) (by have h1 := of_eq_true q239; have h2 := of_eq_true p239; omega)) | (rw [add_block]; exact Kd.own_blk (V_away2 (g := gb238) HO_234001.out (fun _ hk => hk.2.2.2.2.2.2) (by have h1 := of_eq_true q239; have h2 := of_eq_true p239; omega))) | (show (Addr.add _ _).block ≠ _; rw [add_block]; exact Kd.own_blk (V_away2 (g := gb238) HO_234001.out (fun _ hk => hk.2.2.2.2.2.2) (by have h1 := of_eq_true q239; have h2 := of_eq_true p239; omega))) | (dsimp only; exact Kd.own_blk (V_away2 (g := gb238) HO_234001.out (fun _ hk => hk.2.2.2.2.2.2) (by have h1 := of_eq_true q239; have h2 := of_eq_true p239; omega)))) _).trans (((cell_far (p := ⟨gb238, _, none⟩) (by first | exact Kd.own_blk (V_away2 (g := gb238) HO_234001.out (fun _ hk => hk.2.2.2.2.2.2) (by have h1 := of_eq_true q239; have h2 := of_eq_true p239; omega)) | (rw [add_block]; exact Kd.own_blk (V_away2 (g := gb238) HO_234001.out (fun _ hk => hk.2.2.2.2.2.2) (by have h1 := of_eq_true q239; have h2 := of_eq_true p239; omega))) | (show (Addr.add _ _).block ≠ _; rw [add_block]; exact Kd.own_blk (V_away2 (g := gb238) HO_234001.out (fun _ hk => hk.2.2.2.2.2.2) (by have h1 := of_eq_true q239; have h2 := of_eq_true p239; omega))) | (dsimp only; exact Kd.own_blk (V_away2 (g := gb238) HO_234001.out (fun _ hk => hk.2.2.2.2.2.2) (by have h1 := of_eq_true q239; have h2 := of_eq_true p239; omega)))) _).trans (hHeld.2.2.2.2.1)))), ((cell_far (p := ⟨gb238, _, none⟩) (by first | exact Kd.own_blk (V_away2 (g := gb238) HO_234001.out (fun _ hk => hk.2.2.2.2.2.2) (by have h1 := of_eq_true q239; have h2 := of_eq_true p239; omega)) | (rw [add_block]; exact Kd.own_blk (V_away2 (g := gb238) HO_234001.out (fun _ hk => hk.2.2.2.2.2.2) (by have h1 := of_eq_true q239; have h2 := of_eq_true p239; omega))) | (show (Addr.add _ _).block ≠ _; rw [add_block]; exact Kd.own_blk (V_away2 (g := gb238) HO_234001.out (fun _ hk => hk.2.2.2.2.2.2) (by have h1 := of_eq_true q239; have h2 := of_eq_true p239; omega))) | (dsimp only; exact Kd.own_blk (V_away2 (g := gb238) HO_234001.out (fun _ hk => hk.2.2.2.2.2.2) (by have h1 := of_eq_true q239; have h2 := of_eq_true p239; omega)))) _).trans (((cell_far (p := ⟨gb238, _, none⟩) (by first | exact Kd.own_blk (V_away2 (g := gb238) HO_234001.out (fun _ hk => hk.2.2.2.2.2.2) (by have h1 := of_eq_true q239; have h2 := of_eq_true p239; omega)) | (rw [add_block]; exact Kd.own_blk (V_away2 (g := gb238) HO_234001.out (fun _ hk => hk.2.2.2.2.2.2) (by have h1 := of_eq_true q239; have h2 := of_eq_true p239; omega))) | (show (Addr.add _ _).block ≠ _; rw [add_block]; exact Kd.own_blk (V_away2 (g := gb238) HO_234001.out (fun _ hk => hk.2.2.2.2.2.2) (by have h1 := of_eq_true q239; have h2 := of_eq_true p239; omega))) | (dsimp only; exact Kd.own_blk (V_away2 (g := gb238) HO_234001.out (fun _ hk => hk.2.2.2.2.2.2) (by have h1 := of_eq_true q239; have h2 := of_eq_true p239; omega)))) _).trans (hHeld.2.2.2.2.2))))⟩ (fun hHeld => ?_)
                  clear hK K
                  refine pure_ (i := 12) (N := some 1) (v := ?_) (a' := ?_) #[true, true, true, true, true, true, true, true, true, true, true, true, true] rfl rfl (any_of HT_.out (by kernel_rfl)) (fun _ _ _ h => h) (Or.inl ⟨by rfl, ?_⟩) ?_ ?_
                  rotate_left
                  · intro w'
                    go_simp
                    with_reducible rfl
                  rotate_left
                  · simp only [Act.put, List.setIfInBounds_toArray, List.set_cons_zero, List.set_cons_succ, i64_w, i32_w]
                    rfl
                  refine done_ (done_of HT_.out (by kernel_rfl)) ?_
                  have n0_ : Aside0 (Kd.V k24 24 ((w50.setCell ⟨gb238, 0, none⟩ (.int .i64 t240)).setCell ⟨gb238, 1, none⟩ (.slice Ao52 t241.length co52)) w.heap.size (fun k_ => ((P0_1_ k_ ∨ P2_1_ k_) ∨ w.heap.size ≤ k_) ∧ some k_ ≠ (u237001 : Value).ownBlock ∧ k_ ≠ gb233 ∧ k_ ≠ gb234 ∧ k_ ≠ gb235 ∧ k_ ≠ gb236 ∧ k_ ≠ gb238) (.slice (some ad237) l0_1.length c0_1) l0_1) := ⟨by (with_reducible repeat (first | apply Kd.V_alloc | apply Kd.V_drewN | apply Kd.V_drew)); exact Kd.V_mono (Kd.V_far (p := ⟨gb238, 1, none⟩) (Kd.V_far (p := ⟨gb238, 0, none⟩) (Kd.V_mono HO_234001.out (fun k_ hk => (⟨hk, hk.2.2.2.2.2.2⟩ : _ ∧ k_ ≠ gb238))) (fun _ hk => hk.2) (.int .i64 t240)) (fun _ hk => hk.2) (.slice Ao52 t241.length co52)) (fun _ hk => ⟨hk.1.1, ⟨hk.1.2.1, ⟨hk.1.2.2.1, ⟨hk.1.2.2.2.1, ⟨hk.1.2.2.2.2.1, ⟨hk.1.2.2.2.2.2.1, hk.1.2.2.2.2.2.2⟩⟩⟩⟩⟩⟩)⟩
                  have n1_ : Aside0 (Kd.V k24 24 ((w50.setCell ⟨gb238, 0, none⟩ (.int .i64 t240)).setCell ⟨gb238, 1, none⟩ (.slice Ao52 t241.length co52)) w.heap.size (fun k_ => ((P0_1_ k_ ∨ P2_1_ k_) ∨ w.heap.size ≤ k_) ∧ some k_ ≠ (u237001 : Value).ownBlock ∧ k_ ≠ gb233 ∧ k_ ≠ gb234 ∧ k_ ≠ gb235 ∧ k_ ≠ gb236 ∧ k_ ≠ gb238) (.slice A2_1 l2_1.length c2_1) l2_1) := ⟨by (with_reducible repeat (first | apply Kd.V_alloc | apply Kd.V_drewN | apply Kd.V_drew)); exact Kd.V_mono (Kd.V_far (p := ⟨gb238, 1, none⟩) (Kd.V_far (p := ⟨gb238, 0, none⟩) (Kd.V_mono HO_235001.out (fun k_ hk => (⟨hk, hk.2.2.2.2.2.2⟩ : _ ∧ k_ ≠ gb238))) (fun _ hk => hk.2) (.int .i64 t240)) (fun _ hk => hk.2) (.slice Ao52 t241.length co52)) (fun _ hk => ⟨hk.1.1, ⟨hk.1.2.1, ⟨hk.1.2.2.1, ⟨hk.1.2.2.2.1, ⟨hk.1.2.2.2.2.1, ⟨hk.1.2.2.2.2.2.1, hk.1.2.2.2.2.2.2⟩⟩⟩⟩⟩⟩)⟩
                  have n2_ : Aside0 (Kd.N k24 24 ((w50.setCell ⟨gb238, 0, none⟩ (.int .i64 t240)).setCell ⟨gb238, 1, none⟩ (.slice Ao52 t241.length co52)) w.heap.size (fun k_ => ((P0_1_ k_ ∨ P2_1_ k_) ∨ w.heap.size ≤ k_) ∧ k_ ≠ gb233 ∧ k_ ≠ gb234 ∧ k_ ≠ gb235 ∧ k_ ≠ gb236 ∧ k_ ≠ gb238) u237001 x237001_1) := ⟨by (with_reducible repeat (first | apply Kd.N_alloc | apply Kd.N_drewN | apply Kd.N_drew)); exact Kd.N_mono (Kd.N_far (p := ⟨gb238, 1, none⟩) (Kd.N_far (p := ⟨gb238, 0, none⟩) (Kd.N_mono HO_237001.out (fun k_ hk => (⟨hk, hk.2.2.2.2.2⟩ : _ ∧ k_ ≠ gb238))) (fun _ hk => hk.2) (.int .i64 t240)) (fun _ hk => hk.2) (.slice Ao52 t241.length co52)) (fun _ hk => ⟨hk.1.1, ⟨hk.1.2.1, ⟨hk.1.2.2.1, ⟨hk.1.2.2.2.1, ⟨hk.1.2.2.2.2.1, hk.1.2.2.2.2.2⟩⟩⟩⟩⟩)⟩
                  have n3_ : Aside0 (Kd.V k24 24 ((w50.setCell ⟨gb238, 0, none⟩ (.int .i64 t240)).setCell ⟨gb238, 1, none⟩ (.slice Ao52 t241.length co52)) w.heap.size (fun k_ => ((P0_1_ k_ ∨ P2_1_ k_) ∨ w.heap.size ≤ k_) ∧ some k_ ≠ (u237001 : Value).ownBlock ∧ k_ ≠ gb233 ∧ k_ ≠ gb234 ∧ k_ ≠ gb235 ∧ k_ ≠ gb236 ∧ k_ ≠ gb238) (.slice A237_1 ((rd_T24 l0_1 x9_1).f1).length c237_1) ((rd_T24 l0_1 x9_1).f1)) := ⟨by (with_reducible repeat (first | apply Kd.V_alloc | apply Kd.V_drewN | apply Kd.V_drew)); exact Kd.V_mono (Kd.V_far (p := ⟨gb238, 1, none⟩) (Kd.V_far (p := ⟨gb238, 0, none⟩) (Kd.V_mono HL237_1.out (fun k_ hk => (⟨hk, hk.2.2.2.2.2.2⟩ : _ ∧ k_ ≠ gb238))) (fun _ hk => hk.2) (.int .i64 t240)) (fun _ hk => hk.2) (.slice Ao52 t241.length co52)) (fun _ hk => ⟨hk.1.1, ⟨hk.1.2.1, ⟨hk.1.2.2.1, ⟨hk.1.2.2.2.1, ⟨hk.1.2.2.2.2.1, ⟨hk.1.2.2.2.2.2.1, hk.1.2.2.2.2.2.2⟩⟩⟩⟩⟩⟩)⟩
                  have n4_ : Aside0 (Kd.V k24 24 ((w50.setCell ⟨gb238, 0, none⟩ (.int .i64 t240)).setCell ⟨gb238, 1, none⟩ (.slice Ao52 t241.length co52)) w.heap.size (fun k_ => ((P0_1_ k_ ∨ P2_1_ k_) ∨ w.heap.size ≤ k_) ∧ some k_ ≠ (u237001 : Value).ownBlock ∧ k_ ≠ gb233 ∧ k_ ≠ gb234 ∧ k_ ≠ gb235 ∧ k_ ≠ gb236 ∧ k_ ≠ gb238) (.slice A239_1 ((rd_T24 l0_1 x9_1).f1).length c239_1) ((rd_T24 l0_1 x9_1).f1)) := ⟨by (with_reducible repeat (first | apply Kd.V_alloc | apply Kd.V_drewN | apply Kd.V_drew)); exact Kd.V_mono (Kd.V_far (p := ⟨gb238, 1, none⟩) (Kd.V_far (p := ⟨gb238, 0, none⟩) (Kd.V_mono HL239_1.out (fun k_ hk => (⟨hk, hk.2.2.2.2.2.2⟩ : _ ∧ k_ ≠ gb238))) (fun _ hk => hk.2) (.int .i64 t240)) (fun _ hk => hk.2) (.slice Ao52 t241.length co52)) (fun _ hk => ⟨hk.1.1, ⟨hk.1.2.1, ⟨hk.1.2.2.1, ⟨hk.1.2.2.2.1, ⟨hk.1.2.2.2.2.1, ⟨hk.1.2.2.2.2.2.1, hk.1.2.2.2.2.2.2⟩⟩⟩⟩⟩⟩)⟩
                  have n5_ : Aside0 (Kd.V k24 24 ((w50.setCell ⟨gb238, 0, none⟩ (.int .i64 t240)).setCell ⟨gb238, 1, none⟩ (.slice Ao52 t241.length co52)) w.heap.size (fun k_ => ((P0_1_ k_ ∨ P2_1_ k_) ∨ w.heap.size ≤ k_) ∧ some k_ ≠ (u237001 : Value).ownBlock ∧ k_ ≠ gb233 ∧ k_ ≠ gb234 ∧ k_ ≠ gb235 ∧ k_ ≠ gb236 ∧ k_ ≠ gb238) (.slice Ao52 t241.length co52) t241) := ⟨by (with_reducible repeat (first | apply Kd.V_alloc | apply Kd.V_drewN | apply Kd.V_drew)); exact Kd.V_mono (Kd.V_far (p := ⟨gb238, 1, none⟩) (Kd.V_far (p := ⟨gb238, 0, none⟩) (Kd.V_mono HO243.out (fun k_ hk => (⟨hk, hk.2.2.2.2.2.2⟩ : _ ∧ k_ ≠ gb238))) (fun _ hk => hk.2) (.int .i64 t240)) (fun _ hk => hk.2) (.slice Ao52 t241.length co52)) (fun _ hk => ⟨hk.1.1, ⟨hk.1.2.1, ⟨hk.1.2.2.1, ⟨hk.1.2.2.2.1, ⟨hk.1.2.2.2.2.1, ⟨hk.1.2.2.2.2.2.1, hk.1.2.2.2.2.2.2⟩⟩⟩⟩⟩⟩)⟩
                  have n6_ : Aside0 (((w50.setCell ⟨gb238, 0, none⟩ (.int .i64 t240)).setCell ⟨gb238, 1, none⟩ (.slice Ao52 t241.length co52)).heap[gb233]? = some (.cells #[.int .i64 a0_0, .slice (some ad237) l0_1.length c0_1] 24 (0, 0))) := ⟨by (with_reducible repeat (first | refine blk_drewN ?_ _ | refine blk_drew ?_ | refine blk_alloc ?_ _)); refine blk_far ?_ NB233_238.out _; (with_reducible repeat (first | refine blk_drewN ?_ _ | refine blk_drew ?_ | refine blk_alloc ?_ _)); refine blk_far ?_ NB233_238.out _; (with_reducible repeat (first | refine blk_drewN ?_ _ | refine blk_drew ?_ | refine blk_alloc ?_ _)); exact BK233.out⟩
                  have n7_ : Aside0 (((w50.setCell ⟨gb238, 0, none⟩ (.int .i64 t240)).setCell ⟨gb238, 1, none⟩ (.slice Ao52 t241.length co52)).heap[gb234]? = some (.cells #[.int .i64 a2_0, .slice A2_1 l2_1.length c2_1] 24 (0, 0))) := ⟨by (with_reducible repeat (first | refine blk_drewN ?_ _ | refine blk_drew ?_ | refine blk_alloc ?_ _)); refine blk_far ?_ NB234_238.out _; (with_reducible repeat (first | refine blk_drewN ?_ _ | refine blk_drew ?_ | refine blk_alloc ?_ _)); refine blk_far ?_ NB234_238.out _; (with_reducible repeat (first | refine blk_drewN ?_ _ | refine blk_drew ?_ | refine blk_alloc ?_ _)); exact BK234.out⟩
                  have n8_ : Aside0 (((w50.setCell ⟨gb238, 0, none⟩ (.int .i64 t240)).setCell ⟨gb238, 1, none⟩ (.slice Ao52 t241.length co52)).heap[gb235]? = some (.cells #[.int .i64 0, .slice none 0 0] 24 (0, 0))) := ⟨by (with_reducible repeat (first | refine blk_drewN ?_ _ | refine blk_drew ?_ | refine blk_alloc ?_ _)); refine blk_far ?_ NB235_238.out _; (with_reducible repeat (first | refine blk_drewN ?_ _ | refine blk_drew ?_ | refine blk_alloc ?_ _)); refine blk_far ?_ NB235_238.out _; (with_reducible repeat (first | refine blk_drewN ?_ _ | refine blk_drew ?_ | refine blk_alloc ?_ _)); exact BK235.out⟩
                  have n9_ : Aside0 (((w50.setCell ⟨gb238, 0, none⟩ (.int .i64 t240)).setCell ⟨gb238, 1, none⟩ (.slice Ao52 t241.length co52)).heap[gb236]? = some (.cells #[.int .i64 a0_0, u237001] 24 (0, 0))) := ⟨by (with_reducible repeat (first | refine blk_drewN ?_ _ | refine blk_drew ?_ | refine blk_alloc ?_ _)); refine blk_far ?_ NB236_238.out _; (with_reducible repeat (first | refine blk_drewN ?_ _ | refine blk_drew ?_ | refine blk_alloc ?_ _)); refine blk_far ?_ NB236_238.out _; (with_reducible repeat (first | refine blk_drewN ?_ _ | refine blk_drew ?_ | refine blk_alloc ?_ _)); exact BK236.out⟩
                  have n10_ : Aside0 (((w50.setCell ⟨gb238, 0, none⟩ (.int .i64 t240)).setCell ⟨gb238, 1, none⟩ (.slice Ao52 t241.length co52)).heap[gb238]? = some (.cells #[.int .i64 t240, .slice Ao52 t241.length co52] 24 (0, 0))) := ⟨by (with_reducible repeat (first | refine blk_drewN ?_ _ | refine blk_drew ?_ | refine blk_alloc ?_ _)); refine blk_put (cs := #[.int .i64 t240, .slice A237_1 ((rd_T24 l0_1 x9_1).f1).length c237_1]) ?_ 1 _ rfl; (with_reducible repeat (first | refine blk_drewN ?_ _ | refine blk_drew ?_ | refine blk_alloc ?_ _)); refine blk_put (cs := #[.int .i64 ((rd_T24 l0_1 x9_1).f0), .slice A237_1 ((rd_T24 l0_1 x9_1).f1).length c237_1]) ?_ 0 _ rfl; (with_reducible repeat (first | refine blk_drewN ?_ _ | refine blk_drew ?_ | refine blk_alloc ?_ _)); exact BK238.out⟩
                  have n11_ : Aside0 (Below w.heap.size w ((w50.setCell ⟨gb238, 0, none⟩ (.int .i64 t240)).setCell ⟨gb238, 1, none⟩ (.slice Ao52 t241.length co52))) := ⟨by repeat (first | (with_reducible first | exact HB.out | apply below_alloc | apply pw_below_drewN | apply below_drew1 | refine below_set ?_ GE233.out | refine below_set ?_ GE234.out | refine below_set ?_ GE235.out | refine below_set ?_ GE236.out | refine below_set ?_ GE238.out) | exact HB.out)⟩
                  (try clear HO_234001)
                  (try clear HO_235001)
                  (try clear HO_237001)
                  (try clear HL237_1)
                  (try clear HL239_1)
                  (try clear HO243)
                  (try clear BK233)
                  (try clear BK234)
                  (try clear BK235)
                  (try clear BK236)
                  (try clear BK238)
                  (try clear HB)
                  generalize ((w50.setCell ⟨gb238, 0, none⟩ (.int .i64 t240)).setCell ⟨gb238, 1, none⟩ (.slice Ao52 t241.length co52)) = w54 at n0_ n1_ n2_ n3_ n4_ n5_ n6_ n7_ n8_ n9_ n10_ n11_ ⊢
                  have HO_234001 := n0_
                  have HO_235001 := n1_
                  have HO_237001 := n2_
                  have HL237_1 := n3_
                  have HL239_1 := n4_
                  have HO243 := n5_
                  have BK233 := n6_
                  have BK234 := n7_
                  have BK235 := n8_
                  have BK236 := n9_
                  have BK238 := n10_
                  have HB := n11_
                  clear n0_ n1_ n2_ n3_ n4_ n5_ n6_ n7_ n8_ n9_ n10_ n11_
                  have hnb55 := NB236_234.out
                  have hnc55 := NB234_236.out
                  have hnb56 := NB236_235.out
                  have hnc56 := NB235_236.out
                  have hcz57_0 : w54.cell? ⟨gb236, 0, none⟩ = some (.int .i64 a0_0) := (blk_cell BK236.out 0).trans rfl
                  have hcz57_1 : w54.cell? ⟨gb236, 1, none⟩ = some (u237001) := (blk_cell BK236.out 1).trans rfl
                  have hfz57_0 := blk_frozen BK236.out 0
                  have hfz57_1 := blk_frozen BK236.out 1
                  have hcz58_0 : w54.cell? ⟨gb238, 0, none⟩ = some (.int .i64 t240) := (blk_cell BK238.out 0).trans rfl
                  have hcz58_1 : w54.cell? ⟨gb238, 1, none⟩ = some (.slice Ao52 t241.length co52) := (blk_cell BK238.out 1).trans rfl
                  have hfz58_0 := blk_frozen BK238.out 0
                  have hfz58_1 := blk_frozen BK238.out 1
                  try go_wp2_with (first | ((with_reducible refine gate_builtin (b := .append) (xs := #[.tmp 52, .tmp 54]) rfl ?_); at_builtin; refine Kd.N_append k24 (w0 := w) w.heap.size rfl (.tmp 52) (.tmp 54) 22 24 (.agg #[(.int .i64 0), (.slice none 0 0)]) 32 rfl Try.underlying22 info24 rfl (by decide) (by omega) u237001 x237001_1 (⟨t240, t241⟩ : S24) [.int .i64 t240, .slice Ao52 t241.length co52] (fun k_ => ((P0_1_ k_ ∨ P2_1_ k_) ∨ w.heap.size ≤ k_) ∧ k_ ≠ gb233 ∧ k_ ≠ gb234 ∧ k_ ≠ gb235 ∧ k_ ≠ gb236 ∧ k_ ≠ gb238) (fun k_ => ((fun k_ => ((P0_1_ k_ ∨ P2_1_ k_) ∨ w.heap.size ≤ k_) ∧ k_ ≠ gb233 ∧ k_ ≠ gb234 ∧ k_ ≠ gb235 ∧ k_ ≠ gb236 ∧ k_ ≠ gb238)) k_ ∧ some k_ ≠ (u237001 : Value).ownBlock) rfl rfl ?aP (fun _ hk => hk) ?aF ?aO ?aB ?aS ?aL ?_; (case aP => exact (k24_mkF _ _ (⟨t240, t241⟩ : S24) (Kd.V_reads' (Kd.V_mono (ok' := (fun k_ => ((fun k_ => ((P0_1_ k_ ∨ P2_1_ k_) ∨ w.heap.size ≤ k_) ∧ k_ ≠ gb233 ∧ k_ ≠ gb234 ∧ k_ ≠ gb235 ∧ k_ ≠ gb236 ∧ k_ ≠ gb238)) k_ ∧ some k_ ≠ (u237001 : Value).ownBlock)) (HO243.out) (fun k_ hk => ⟨⟨hk.1, ⟨hk.2.2.1, ⟨hk.2.2.2.1, ⟨hk.2.2.2.2.1, ⟨hk.2.2.2.2.2.1, hk.2.2.2.2.2.2⟩⟩⟩⟩⟩, hk.2.1⟩))).2.1 (Kd.V_F (Kd.V_mono (ok' := (fun k_ => ((fun k_ => ((P0_1_ k_ ∨ P2_1_ k_) ∨ w.heap.size ≤ k_) ∧ k_ ≠ gb233 ∧ k_ ≠ gb234 ∧ k_ ≠ gb235 ∧ k_ ≠ gb236 ∧ k_ ≠ gb238)) k_ ∧ some k_ ≠ (u237001 : Value).ownBlock)) (HO243.out) (fun k_ hk => ⟨⟨hk.1, ⟨hk.2.2.1, ⟨hk.2.2.2.1, ⟨hk.2.2.2.2.1, ⟨hk.2.2.2.2.2.1, hk.2.2.2.2.2.2⟩⟩⟩⟩⟩, hk.2.1⟩))))); (case aB => exact (by repeat (first | (with_reducible first | exact HB.out | apply below_alloc | apply pw_below_drewN | apply below_drew1 | refine below_set ?_ GE233.out | refine below_set ?_ GE234.out | refine below_set ?_ GE235.out | refine below_set ?_ GE236.out | refine below_set ?_ GE238.out) | exact HB.out))); (case aF => exact (fun k_ hk => ⟨(.inr (Nat.le_trans (below_size (by repeat (first | (with_reducible first | exact HB.out | apply below_alloc | apply pw_below_drewN | apply below_drew1 | refine below_set ?_ GE233.out | refine below_set ?_ GE234.out | refine below_set ?_ GE235.out | refine below_set ?_ GE236.out | refine below_set ?_ GE238.out) | exact HB.out))) hk)), Kd.freshB (g := gb233) (o := .cells #[.int .i64 a0_0, .slice (some ad237) l0_1.length c0_1] 24 (0, 0)) (by (with_reducible repeat (first | refine blk_drewN ?_ _ | refine blk_drew ?_ | refine blk_alloc ?_ _)); exact BK233.out) k_ hk, Kd.freshB (g := gb234) (o := .cells #[.int .i64 a2_0, .slice A2_1 l2_1.length c2_1] 24 (0, 0)) (by (with_reducible repeat (first | refine blk_drewN ?_ _ | refine blk_drew ?_ | refine blk_alloc ?_ _)); exact BK234.out) k_ hk, Kd.freshB (g := gb235) (o := .cells #[.int .i64 0, .slice none 0 0] 24 (0, 0)) (by (with_reducible repeat (first | refine blk_drewN ?_ _ | refine blk_drew ?_ | refine blk_alloc ?_ _)); exact BK235.out) k_ hk, Kd.freshB (g := gb236) (o := .cells #[.int .i64 a0_0, u237001] 24 (0, 0)) (by (with_reducible repeat (first | refine blk_drewN ?_ _ | refine blk_drew ?_ | refine blk_alloc ?_ _)); exact BK236.out) k_ hk, Kd.freshB (g := gb238) (o := .cells #[.int .i64 t240, .slice Ao52 t241.length co52] 24 (0, 0)) (by (with_reducible repeat (first | refine blk_drewN ?_ _ | refine blk_drew ?_ | refine blk_alloc ?_ _)); exact BK238.out) k_ hk⟩)); (case aO => exact (by (with_reducible repeat (first | apply Kd.N_alloc | apply Kd.N_drewN | apply Kd.N_drew)); exact HO_237001.out)); (case aS => exact (below_size (by repeat (first | (with_reducible first | exact HB.out | apply below_alloc | apply pw_below_drewN | apply below_drew1 | refine below_set ?_ GE233.out | refine below_set ?_ GE234.out | refine below_set ?_ GE235.out | refine below_set ?_ GE236.out | refine below_set ?_ GE238.out) | exact HB.out)))); (case aL => have := LMc37.out; omega); intro v246 w59 ho hb hg hat; rw [← Ny245.out] at ho; have n0_ := Aside0.mk (Kd.V_afterv (ok := (fun k_ => ((P0_1_ k_ ∨ P2_1_ k_) ∨ w.heap.size ≤ k_) ∧ k_ ≠ gb233 ∧ k_ ≠ gb234 ∧ k_ ≠ gb235 ∧ k_ ≠ gb236 ∧ k_ ≠ gb238)) (by (with_reducible repeat (first | apply Kd.V_alloc | apply Kd.V_drewN | apply Kd.V_drew)); exact Kd.V_mono HO_234001.out (fun _ hk => ⟨⟨hk.1, ⟨hk.2.2.1, ⟨hk.2.2.2.1, ⟨hk.2.2.2.2.1, ⟨hk.2.2.2.2.2.1, hk.2.2.2.2.2.2⟩⟩⟩⟩⟩, hk.2.1⟩)) hg hat); have n1_ := Aside0.mk (Kd.V_afterv (ok := (fun k_ => ((P0_1_ k_ ∨ P2_1_ k_) ∨ w.heap.size ≤ k_) ∧ k_ ≠ gb233 ∧ k_ ≠ gb234 ∧ k_ ≠ gb235 ∧ k_ ≠ gb236 ∧ k_ ≠ gb238)) (by (with_reducible repeat (first | apply Kd.V_alloc | apply Kd.V_drewN | apply Kd.V_drew)); exact Kd.V_mono HO_235001.out (fun _ hk => ⟨⟨hk.1, ⟨hk.2.2.1, ⟨hk.2.2.2.1, ⟨hk.2.2.2.2.1, ⟨hk.2.2.2.2.2.1, hk.2.2.2.2.2.2⟩⟩⟩⟩⟩, hk.2.1⟩)) hg hat); have n2_ := Aside0.mk (blk_grown (g := gb233) (o := .cells #[.int .i64 a0_0, .slice (some ad237) l0_1.length c0_1] 24 (0, 0)) (by (with_reducible repeat (first | refine blk_drewN ?_ _ | refine blk_drew ?_ | refine blk_alloc ?_ _)); exact BK233.out) hg (Kd.N_away HO_237001.out (fun _ hk => hk.2.1))); have n3_ := Aside0.mk (blk_grown (g := gb234) (o := .cells #[.int .i64 a2_0, .slice A2_1 l2_1.length c2_1] 24 (0, 0)) (by (with_reducible repeat (first | refine blk_drewN ?_ _ | refine blk_drew ?_ | refine blk_alloc ?_ _)); exact BK234.out) hg (Kd.N_away HO_237001.out (fun _ hk => hk.2.2.1))); have n4_ := Aside0.mk (blk_grown (g := gb235) (o := .cells #[.int .i64 0, .slice none 0 0] 24 (0, 0)) (by (with_reducible repeat (first | refine blk_drewN ?_ _ | refine blk_drew ?_ | refine blk_alloc ?_ _)); exact BK235.out) hg (Kd.N_away HO_237001.out (fun _ hk => hk.2.2.2.1))); have n5_ := Aside0.mk (blk_grown (g := gb236) (o := .cells #[.int .i64 a0_0, u237001] 24 (0, 0)) (by (with_reducible repeat (first | refine blk_drewN ?_ _ | refine blk_drew ?_ | refine blk_alloc ?_ _)); exact BK236.out) hg (Kd.N_away HO_237001.out (fun _ hk => hk.2.2.2.2.1))); have n6_ := Aside0.mk (Kd.V_afterv (ok := (fun k_ => ((P0_1_ k_ ∨ P2_1_ k_) ∨ w.heap.size ≤ k_) ∧ k_ ≠ gb233 ∧ k_ ≠ gb234 ∧ k_ ≠ gb235 ∧ k_ ≠ gb236 ∧ k_ ≠ gb238)) (by (with_reducible repeat (first | apply Kd.V_alloc | apply Kd.V_drewN | apply Kd.V_drew)); exact Kd.V_mono HL237_1.out (fun _ hk => ⟨⟨hk.1, ⟨hk.2.2.1, ⟨hk.2.2.2.1, ⟨hk.2.2.2.2.1, ⟨hk.2.2.2.2.2.1, hk.2.2.2.2.2.2⟩⟩⟩⟩⟩, hk.2.1⟩)) hg hat); have n7_ := Aside0.mk (blk_grown (g := gb238) (o := .cells #[.int .i64 t240, .slice Ao52 t241.length co52] 24 (0, 0)) (by (with_reducible repeat (first | refine blk_drewN ?_ _ | refine blk_drew ?_ | refine blk_alloc ?_ _)); exact BK238.out) hg (Kd.N_away HO_237001.out (fun _ hk => hk.2.2.2.2.2))); have n8_ := Aside0.mk (Kd.V_afterv (ok := (fun k_ => ((P0_1_ k_ ∨ P2_1_ k_) ∨ w.heap.size ≤ k_) ∧ k_ ≠ gb233 ∧ k_ ≠ gb234 ∧ k_ ≠ gb235 ∧ k_ ≠ gb236 ∧ k_ ≠ gb238)) (by (with_reducible repeat (first | apply Kd.V_alloc | apply Kd.V_drewN | apply Kd.V_drew)); exact Kd.V_mono HL239_1.out (fun _ hk => ⟨⟨hk.1, ⟨hk.2.2.1, ⟨hk.2.2.2.1, ⟨hk.2.2.2.2.1, ⟨hk.2.2.2.2.2.1, hk.2.2.2.2.2.2⟩⟩⟩⟩⟩, hk.2.1⟩)) hg hat); have n9_ := Aside0.mk (Kd.V_afterv (ok := (fun k_ => ((P0_1_ k_ ∨ P2_1_ k_) ∨ w.heap.size ≤ k_) ∧ k_ ≠ gb233 ∧ k_ ≠ gb234 ∧ k_ ≠ gb235 ∧ k_ ≠ gb236 ∧ k_ ≠ gb238)) (by (with_reducible repeat (first | apply Kd.V_alloc | apply Kd.V_drewN | apply Kd.V_drew)); exact Kd.V_mono HO243.out (fun _ hk => ⟨⟨hk.1, ⟨hk.2.2.1, ⟨hk.2.2.2.1, ⟨hk.2.2.2.2.1, ⟨hk.2.2.2.2.2.1, hk.2.2.2.2.2.2⟩⟩⟩⟩⟩, hk.2.1⟩)) hg hat); have n10_ := Aside0.mk (hb); have n11_ := Aside0.mk (ho); clear HO_234001; clear HO_235001; clear BK233; clear BK234; clear BK235; clear BK236; clear HL237_1; clear BK238; clear HL239_1; clear HO243; clear HB; clear HO_237001; have HO_234001 := n0_; have HO_235001 := n1_; have BK233 := n2_; have BK234 := n3_; have BK235 := n4_; have BK236 := n5_; have HL237_1 := n6_; have BK238 := n7_; have HL239_1 := n8_; have HO243 := n9_; have HB := n10_; have HO247 := n11_; clear n0_ n1_ n2_ n3_ n4_ n5_ n6_ n7_ n8_ n9_ n10_ n11_; clear ho hb hg hat; obtain ⟨Ao60, co60, eo60⟩ := Kd.N_slice HO247.out; subst eo60; have hcz61_0 : w59.cell? ⟨gb236, 0, none⟩ = some (.int .i64 a0_0) := (blk_cell BK236.out 0).trans rfl; have hcz61_1 : w59.cell? ⟨gb236, 1, none⟩ = some (u237001) := (blk_cell BK236.out 1).trans rfl; have hfz61_0 := blk_frozen BK236.out 0; have hfz61_1 := blk_frozen BK236.out 1))
                  go_roundg k1
                  case measure => have := HK1.out; omega
                  case rel => exact ⟨(t244), (wrap64 (x9_1 + 1)), (y245), (.slice Ao60 y245.length co60), (by first | rfl | (simp; done) | (simp [*]; done)), (by first | rfl | (simp; done) | (simp [*]; done)), H', ⟨by have := HK1.out; omega⟩, ⟨by (with_reducible repeat (first | apply Kd.V_alloc | apply Kd.V_drewN | apply Kd.V_drew)); exact Kd.V_mono (Kd.V_far (p := ⟨gb236, 1, none⟩) (Kd.V_mono HO_234001.out (fun k_ hk => (⟨hk, hk.1.2.2.2.2.1⟩ : _ ∧ k_ ≠ gb236))) (fun _ hk => hk.2) (.slice Ao60 y245.length co60)) (fun _ hk => ⟨hk.1.1.1, ⟨hk.1.2, ⟨hk.1.1.2.1, ⟨hk.1.1.2.2.1, ⟨hk.1.1.2.2.2.1, hk.1.1.2.2.2.2.1⟩⟩⟩⟩⟩)⟩, ⟨by (with_reducible repeat (first | apply Kd.V_alloc | apply Kd.V_drewN | apply Kd.V_drew)); exact Kd.V_mono (Kd.V_far (p := ⟨gb236, 1, none⟩) (Kd.V_mono HO_235001.out (fun k_ hk => (⟨hk, hk.1.2.2.2.2.1⟩ : _ ∧ k_ ≠ gb236))) (fun _ hk => hk.2) (.slice Ao60 y245.length co60)) (fun _ hk => ⟨hk.1.1.1, ⟨hk.1.2, ⟨hk.1.1.2.1, ⟨hk.1.1.2.2.1, ⟨hk.1.1.2.2.2.1, hk.1.1.2.2.2.2.1⟩⟩⟩⟩⟩)⟩, ⟨by (with_reducible repeat (first | apply Kd.N_alloc | apply Kd.N_drewN | apply Kd.N_drew)); exact Kd.N_mono (Kd.N_far (p := ⟨gb236, 1, none⟩) (Kd.N_mono HO247.out (fun k_ hk => (⟨hk, hk.2.2.2.2.1⟩ : _ ∧ k_ ≠ gb236))) (fun _ hk => hk.2) (.slice Ao60 y245.length co60)) (fun _ hk => ⟨hk.1.1, ⟨hk.1.2.1, ⟨hk.1.2.2.1, ⟨hk.1.2.2.2.1, hk.1.2.2.2.2.1⟩⟩⟩⟩)⟩, ⟨by (with_reducible repeat (first | refine blk_drewN ?_ _ | refine blk_drew ?_ | refine blk_alloc ?_ _)); refine blk_far ?_ NB233_236.out _; (with_reducible repeat (first | refine blk_drewN ?_ _ | refine blk_drew ?_ | refine blk_alloc ?_ _)); exact BK233.out⟩, ⟨by (with_reducible repeat (first | refine blk_drewN ?_ _ | refine blk_drew ?_ | refine blk_alloc ?_ _)); refine blk_far ?_ NB234_236.out _; (with_reducible repeat (first | refine blk_drewN ?_ _ | refine blk_drew ?_ | refine blk_alloc ?_ _)); exact BK234.out⟩, ⟨by (with_reducible repeat (first | refine blk_drewN ?_ _ | refine blk_drew ?_ | refine blk_alloc ?_ _)); refine blk_far ?_ NB235_236.out _; (with_reducible repeat (first | refine blk_drewN ?_ _ | refine blk_drew ?_ | refine blk_alloc ?_ _)); exact BK235.out⟩, ⟨by (with_reducible repeat (first | refine blk_drewN ?_ _ | refine blk_drew ?_ | refine blk_alloc ?_ _)); refine blk_put (cs := #[.int .i64 a0_0, u237001]) ?_ 1 _ rfl; (with_reducible repeat (first | refine blk_drewN ?_ _ | refine blk_drew ?_ | refine blk_alloc ?_ _)); exact BK236.out⟩, ⟨by repeat (first | (with_reducible first | exact HB.out | apply below_alloc | apply pw_below_drewN | apply below_drew1 | refine below_set ?_ GE233.out | refine below_set ?_ GE234.out | refine below_set ?_ GE235.out | refine below_set ?_ GE236.out | refine below_set ?_ GE238.out) | exact HB.out)⟩⟩
                · rw [if_neg c37] at H
                  exact absurd H (by simp)
              · rw [if_neg c35] at H
                have c35b0 : decide (0 ≤ x1_1) = false := decide_eq_false c35
                clear c35
                by_cases c62 : x237001_1.length < 4398046511104
                · rw [if_pos c62] at H
                  have LMc62 := Aside0.mk c62
                  clear c62
                  obtain ⟨y248, hy248⟩ : ∃ y_ : List (S24), y_ = (x237001_1 ++ [(⟨(rd_T24 l0_1 x9_1).f0, (rd_T24 l0_1 x9_1).f1⟩ : S24)]) := ⟨_, rfl⟩
                  replace H : (soritesref06_Put.l0 k1 x1_1 (wrap64 (x9_1 + 1)) a0_0 l0_1 a2_0 l2_1 a0_0 y248) = some (r1, r2, r3) := by first | (rw [hy248]; with_reducible exact H) | (have H2_ := (Option.bind_some _ _).symm.trans H; rw [hy248]; with_reducible exact H2_) | (have H2_ := (Option.bind_some _ _).symm.trans H; with_reducible exact H2_) | with_reducible exact H | (rw [hy248]; exact H) | exact H
                  have Ny248 := Aside0.mk hy248
                  clear hy248
                  have H' := Aside0.mk H
                  clear H
                  have hnb63 := NB233_234.out
                  have hnc63 := NB234_233.out
                  have hnb64 := NB233_235.out
                  have hnc64 := NB235_233.out
                  have hnb65 := NB233_236.out
                  have hnc65 := NB236_233.out
                  have hcz66_0 : wr.cell? ⟨gb233, 0, none⟩ = some (.int .i64 a0_0) := (blk_cell BK233.out 0).trans rfl
                  have hcz66_1 : wr.cell? ⟨gb233, 1, none⟩ = some (.slice A0_1 l0_1.length c0_1) := (blk_cell BK233.out 1).trans rfl
                  have hfz66_0 := blk_frozen BK233.out 0
                  have hfz66_1 := blk_frozen BK233.out 1
                  have p237 : 0 ≤ (x9_1 : Int) := of_decide_eq_true (by first | (with_reducible assumption) | assumption)
                  have q237 : x9_1 < (l0_1.length : Int) := of_decide_eq_true (by first | (with_reducible assumption) | assumption)
                  obtain ⟨ad237, A237_1, c237_1, e237, hx237_0, hx237_1, hl237_1, hi237_1⟩ := at_T24 (Kd.V_reads' HO_234001.out).2.2 x9_1 p237 q237
                  cases e237
                  obtain ⟨ce237, hce237, hMe237, hcc237⟩ := Kd.V_get HO_234001.out z24 x9_1 p237 (by first | exact q237 | exact of_decide_eq_true (by first | (with_reducible assumption) | assumption) | (have e_ := (Kd.V_reads' HO_234001.out).1; omega))
                  obtain ⟨ua237_1, uc237_1, rfl, ul237_1, ge237_1⟩ := k24_openF hMe237
                  have hv237_1 := hcc237 1 _ rfl
                  rw [add_field _ _ 1 (by omega)] at hv237_1
                  replace hv237_1 := Option.some.inj (hv237_1.symm.trans hx237_1)
                  injection hv237_1 with hva_ hvn_ hvc_
                  rw [hva_] at ge237_1
                  rw [hvc_] at ul237_1
                  have HL237_1 := Aside0.mk (show Kd.V k24 24 _ w.heap.size _ _ ((rd_T24 l0_1 x9_1).f1) from Kd.V_mk ul237_1 ge237_1)
                  clear hva_ hvn_ hvc_ ge237_1 ul237_1
                  clear hcc237 hce237
                  have HR237_1 := Aside0.mk hi237_1
                  have HC237_1 := Aside0.mk hl237_1
                  clear hi237_1 hl237_1
                  replace p237 := eq_true p237
                  replace q237 := eq_true q237
                  go_wp2_with (first | ((with_reducible refine gate_dst (N := 10) rfl ?_); refine box_event ?hg (N := 10) ?hd (cs := #[.int .i64 0, .slice none 0 0]) (t := 24) ?hr ?_; (case hd => rfl); (case hg => rfl); (case hr => first | (go_simp; done) | (go_simp; rfl)); intro gb238 hg w67 hbox hb; have n0_ := Aside0.mk (Kd.V_below (Kd.V_elderB (by (with_reducible repeat (first | apply Kd.V_alloc | apply Kd.V_drewN | apply Kd.V_drew)); exact HO_234001.out) gb238 (Nat.le_of_eq hg.symm)) hb); have n1_ := Aside0.mk (Kd.V_below (Kd.V_elderB (by (with_reducible repeat (first | apply Kd.V_alloc | apply Kd.V_drewN | apply Kd.V_drew)); exact HO_235001.out) gb238 (Nat.le_of_eq hg.symm)) hb); have n2_ := Aside0.mk (Kd.N_below (Kd.N_elderB (by (with_reducible repeat (first | apply Kd.N_alloc | apply Kd.N_drewN | apply Kd.N_drew)); exact HO_237001.out) gb238 (Nat.le_of_eq hg.symm)) hb); have n3_ := Aside0.mk (Kd.V_below (Kd.V_elderB (by (with_reducible repeat (first | apply Kd.V_alloc | apply Kd.V_drewN | apply Kd.V_drew)); exact HL237_1.out) gb238 (Nat.le_of_eq hg.symm)) hb); have n4_ := Aside0.mk (blk_below (g := gb233) (o := .cells #[.int .i64 a0_0, .slice (some ad237) l0_1.length c0_1] 24 (0, 0)) (by (with_reducible repeat (first | refine blk_drewN ?_ _ | refine blk_drew ?_ | refine blk_alloc ?_ _)); exact BK233.out) hb); have n5_ := Aside0.mk (blk_below (g := gb234) (o := .cells #[.int .i64 a2_0, .slice A2_1 l2_1.length c2_1] 24 (0, 0)) (by (with_reducible repeat (first | refine blk_drewN ?_ _ | refine blk_drew ?_ | refine blk_alloc ?_ _)); exact BK234.out) hb); have n6_ := Aside0.mk (blk_below (g := gb235) (o := .cells #[.int .i64 0, .slice none 0 0] 24 (0, 0)) (by (with_reducible repeat (first | refine blk_drewN ?_ _ | refine blk_drew ?_ | refine blk_alloc ?_ _)); exact BK235.out) hb); have n7_ := Aside0.mk (blk_below (g := gb236) (o := .cells #[.int .i64 a0_0, u237001] 24 (0, 0)) (by (with_reducible repeat (first | refine blk_drewN ?_ _ | refine blk_drew ?_ | refine blk_alloc ?_ _)); exact BK236.out) hb); have n8_ := Aside0.mk (Kd.C_below (by repeat (first | (with_reducible exact HR237_1.out) | (with_reducible refine Kd.C_alloc ?_ _) | (with_reducible refine Kd.C_drewN ?_ _) | (with_reducible refine Kd.C_drew ?_) | exact HR237_1.out)) hb); have n9_ := Aside0.mk (below_step (by repeat (first | (with_reducible first | exact HB.out | apply below_alloc | apply pw_below_drewN | apply below_drew1 | refine below_set ?_ GE233.out | refine below_set ?_ GE234.out | refine below_set ?_ GE235.out | refine below_set ?_ GE236.out) | exact HB.out)) hb); have n10_ := Aside0.mk (hbox); have n11_ := Aside0.mk ((by rw [hg]; exact (below_size (by repeat (first | (with_reducible first | exact HB.out | apply below_alloc | apply pw_below_drewN | apply below_drew1 | refine below_set ?_ GE233.out | refine below_set ?_ GE234.out | refine below_set ?_ GE235.out | refine below_set ?_ GE236.out) | exact HB.out))) : w.heap.size ≤ gb238)); have n12_ := Aside0.mk ((by rw [hg]; exact (below_size (by repeat (first | (with_reducible first | exact HB.out | apply below_alloc | apply pw_below_drewN | apply below_drew1 | refine below_set ?_ GE233.out | refine below_set ?_ GE234.out | refine below_set ?_ GE235.out | refine below_set ?_ GE236.out) | exact HB.out))) : w.heap.size ≤ gb238)); have n13_ := Aside0.mk ((by rw [hg]; exact Nat.ne_of_lt (blk_lt (g := gb233) (o := .cells #[.int .i64 a0_0, .slice (some ad237) l0_1.length c0_1] 24 (0, 0)) (by (with_reducible repeat (first | refine blk_drewN ?_ _ | refine blk_drew ?_ | refine blk_alloc ?_ _)); exact BK233.out)) : gb233 ≠ gb238)); have n14_ := Aside0.mk ((by rw [hg]; exact Nat.ne_of_gt (blk_lt (g := gb233) (o := .cells #[.int .i64 a0_0, .slice (some ad237) l0_1.length c0_1] 24 (0, 0)) (by (with_reducible repeat (first | refine blk_drewN ?_ _ | refine blk_drew ?_ | refine blk_alloc ?_ _)); exact BK233.out)) : gb238 ≠ gb233)); have n15_ := Aside0.mk ((by rw [hg]; exact Nat.ne_of_lt (blk_lt (g := gb234) (o := .cells #[.int .i64 a2_0, .slice A2_1 l2_1.length c2_1] 24 (0, 0)) (by (with_reducible repeat (first | refine blk_drewN ?_ _ | refine blk_drew ?_ | refine blk_alloc ?_ _)); exact BK234.out)) : gb234 ≠ gb238)); have n16_ := Aside0.mk ((by rw [hg]; exact Nat.ne_of_gt (blk_lt (g := gb234) (o := .cells #[.int .i64 a2_0, .slice A2_1 l2_1.length c2_1] 24 (0, 0)) (by (with_reducible repeat (first | refine blk_drewN ?_ _ | refine blk_drew ?_ | refine blk_alloc ?_ _)); exact BK234.out)) : gb238 ≠ gb234)); have n17_ := Aside0.mk ((by rw [hg]; exact Nat.ne_of_lt (blk_lt (g := gb235) (o := .cells #[.int .i64 0, .slice none 0 0] 24 (0, 0)) (by (with_reducible repeat (first | refine blk_drewN ?_ _ | refine blk_drew ?_ | refine blk_alloc ?_ _)); exact BK235.out)) : gb235 ≠ gb238)); have n18_ := Aside0.mk ((by rw [hg]; exact Nat.ne_of_gt (blk_lt (g := gb235) (o := .cells #[.int .i64 0, .slice none 0 0] 24 (0, 0)) (by (with_reducible repeat (first | refine blk_drewN ?_ _ | refine blk_drew ?_ | refine blk_alloc ?_ _)); exact BK235.out)) : gb238 ≠ gb235)); have n19_ := Aside0.mk ((by rw [hg]; exact Nat.ne_of_lt (blk_lt (g := gb236) (o := .cells #[.int .i64 a0_0, u237001] 24 (0, 0)) (by (with_reducible repeat (first | refine blk_drewN ?_ _ | refine blk_drew ?_ | refine blk_alloc ?_ _)); exact BK236.out)) : gb236 ≠ gb238)); have n20_ := Aside0.mk ((by rw [hg]; exact Nat.ne_of_gt (blk_lt (g := gb236) (o := .cells #[.int .i64 a0_0, u237001] 24 (0, 0)) (by (with_reducible repeat (first | refine blk_drewN ?_ _ | refine blk_drew ?_ | refine blk_alloc ?_ _)); exact BK236.out)) : gb238 ≠ gb236)); clear HO_234001; clear HO_235001; clear HO_237001; clear HL237_1; clear BK233; clear BK234; clear BK235; clear BK236; clear HR237_1; clear HB; have HO_234001 := n0_; have HO_235001 := n1_; have HO_237001 := n2_; have HL237_1 := n3_; have BK233 := n4_; have BK234 := n5_; have BK235 := n6_; have BK236 := n7_; have HR237_1 := n8_; have HB := n9_; have BK238 := n10_; have GW238 := n11_; have GE238 := n12_; have NB233_238 := n13_; have NB238_233 := n14_; have NB234_238 := n15_; have NB238_234 := n16_; have NB235_238 := n17_; have NB238_235 := n18_; have NB236_238 := n19_; have NB238_236 := n20_; clear n0_ n1_ n2_ n3_ n4_ n5_ n6_ n7_ n8_ n9_ n10_ n11_ n12_ n13_ n14_ n15_ n16_ n17_ n18_ n19_ n20_; clear hb hbox hg; have hnb68 := NB238_233.out; have hnc68 := NB233_238.out; have hnb69 := NB238_234.out; have hnc69 := NB234_238.out; have hnb70 := NB238_235.out; have hnc70 := NB235_238.out; have hnb71 := NB238_236.out; have hnc71 := NB236_238.out; have hcz72_0 : w67.cell? ⟨gb238, 0, none⟩ = some (.int .i64 0) := (blk_cell BK238.out 0).trans rfl; have hcz72_1 : w67.cell? ⟨gb238, 1, none⟩ = some (.slice none 0 0) := (blk_cell BK238.out 1).trans rfl; have hfz72_0 := blk_frozen BK238.out 0; have hfz72_1 := blk_frozen BK238.out 1) | ((with_reducible refine gate_store (t := 24) (p := 10) rfl ?_); refine store_event (t := 24) (p := 10) (v := ?vo_w73) (w1 := ((w67.setCell ⟨gb238, 0, none⟩ (.int .i64 ((rd_T24 l0_1 x9_1).f0))).setCell ⟨gb238, 1, none⟩ (.slice A237_1 ((rd_T24 l0_1 x9_1).f1).length c237_1))) ?hg ?ho ?hn ?hr ?_; (case ho => rfl); (case hg => rfl); (case hn => rfl); (case hr => first | (go_simp; done) | (go_simp; rfl)); intro w73 hw; have n0_ : Aside0 (Kd.V k24 24 w73 w.heap.size (fun k_ => ((P0_1_ k_ ∨ P2_1_ k_) ∨ w.heap.size ≤ k_) ∧ some k_ ≠ (u237001 : Value).ownBlock ∧ k_ ≠ gb233 ∧ k_ ≠ gb234 ∧ k_ ≠ gb235 ∧ k_ ≠ gb236 ∧ k_ ≠ gb238) (.slice (some ad237) l0_1.length c0_1) l0_1) := ⟨(by rw [hw]; exact (by (with_reducible repeat (first | apply Kd.V_alloc | apply Kd.V_drewN | apply Kd.V_drew)); exact Kd.V_mono (Kd.V_far (p := ⟨gb238, 1, none⟩) (Kd.V_far (p := ⟨gb238, 0, none⟩) (Kd.V_mono HO_234001.out (fun k_ hk => (⟨hk, hk.2⟩ : _ ∧ k_ ≠ gb238))) (fun _ hk => hk.2) (.int .i64 ((rd_T24 l0_1 x9_1).f0))) (fun _ hk => hk.2) (.slice A237_1 ((rd_T24 l0_1 x9_1).f1).length c237_1)) (fun _ hk => ⟨hk.1.1.1, ⟨hk.1.1.2.1, ⟨hk.1.1.2.2.1, ⟨hk.1.1.2.2.2.1, ⟨hk.1.1.2.2.2.2.1, ⟨hk.1.1.2.2.2.2.2, hk.1.2⟩⟩⟩⟩⟩⟩)))⟩; have n1_ : Aside0 (Kd.V k24 24 w73 w.heap.size (fun k_ => ((P0_1_ k_ ∨ P2_1_ k_) ∨ w.heap.size ≤ k_) ∧ some k_ ≠ (u237001 : Value).ownBlock ∧ k_ ≠ gb233 ∧ k_ ≠ gb234 ∧ k_ ≠ gb235 ∧ k_ ≠ gb236 ∧ k_ ≠ gb238) (.slice A2_1 l2_1.length c2_1) l2_1) := ⟨(by rw [hw]; exact (by (with_reducible repeat (first | apply Kd.V_alloc | apply Kd.V_drewN | apply Kd.V_drew)); exact Kd.V_mono (Kd.V_far (p := ⟨gb238, 1, none⟩) (Kd.V_far (p := ⟨gb238, 0, none⟩) (Kd.V_mono HO_235001.out (fun k_ hk => (⟨hk, hk.2⟩ : _ ∧ k_ ≠ gb238))) (fun _ hk => hk.2) (.int .i64 ((rd_T24 l0_1 x9_1).f0))) (fun _ hk => hk.2) (.slice A237_1 ((rd_T24 l0_1 x9_1).f1).length c237_1)) (fun _ hk => ⟨hk.1.1.1, ⟨hk.1.1.2.1, ⟨hk.1.1.2.2.1, ⟨hk.1.1.2.2.2.1, ⟨hk.1.1.2.2.2.2.1, ⟨hk.1.1.2.2.2.2.2, hk.1.2⟩⟩⟩⟩⟩⟩)))⟩; have n2_ : Aside0 (Kd.N k24 24 w73 w.heap.size (fun k_ => ((P0_1_ k_ ∨ P2_1_ k_) ∨ w.heap.size ≤ k_) ∧ k_ ≠ gb233 ∧ k_ ≠ gb234 ∧ k_ ≠ gb235 ∧ k_ ≠ gb236 ∧ k_ ≠ gb238) u237001 x237001_1) := ⟨(by rw [hw]; exact (by (with_reducible repeat (first | apply Kd.N_alloc | apply Kd.N_drewN | apply Kd.N_drew)); exact Kd.N_mono (Kd.N_far (p := ⟨gb238, 1, none⟩) (Kd.N_far (p := ⟨gb238, 0, none⟩) (Kd.N_mono HO_237001.out (fun k_ hk => (⟨hk, hk.2⟩ : _ ∧ k_ ≠ gb238))) (fun _ hk => hk.2) (.int .i64 ((rd_T24 l0_1 x9_1).f0))) (fun _ hk => hk.2) (.slice A237_1 ((rd_T24 l0_1 x9_1).f1).length c237_1)) (fun _ hk => ⟨hk.1.1.1, ⟨hk.1.1.2.1, ⟨hk.1.1.2.2.1, ⟨hk.1.1.2.2.2.1, ⟨hk.1.1.2.2.2.2, hk.1.2⟩⟩⟩⟩⟩)))⟩; have n3_ : Aside0 (Kd.V k24 24 w73 w.heap.size (fun k_ => ((P0_1_ k_ ∨ P2_1_ k_) ∨ w.heap.size ≤ k_) ∧ some k_ ≠ (u237001 : Value).ownBlock ∧ k_ ≠ gb233 ∧ k_ ≠ gb234 ∧ k_ ≠ gb235 ∧ k_ ≠ gb236 ∧ k_ ≠ gb238) (.slice A237_1 ((rd_T24 l0_1 x9_1).f1).length c237_1) ((rd_T24 l0_1 x9_1).f1)) := ⟨(by rw [hw]; exact (by (with_reducible repeat (first | apply Kd.V_alloc | apply Kd.V_drewN | apply Kd.V_drew)); exact Kd.V_mono (Kd.V_far (p := ⟨gb238, 1, none⟩) (Kd.V_far (p := ⟨gb238, 0, none⟩) (Kd.V_mono HL237_1.out (fun k_ hk => (⟨hk, hk.2⟩ : _ ∧ k_ ≠ gb238))) (fun _ hk => hk.2) (.int .i64 ((rd_T24 l0_1 x9_1).f0))) (fun _ hk => hk.2) (.slice A237_1 ((rd_T24 l0_1 x9_1).f1).length c237_1)) (fun _ hk => ⟨hk.1.1.1, ⟨hk.1.1.2.1, ⟨hk.1.1.2.2.1, ⟨hk.1.1.2.2.2.1, ⟨hk.1.1.2.2.2.2.1, ⟨hk.1.1.2.2.2.2.2, hk.1.2⟩⟩⟩⟩⟩⟩)))⟩; have n4_ : Aside0 (w73.heap[gb233]? = some (.cells #[.int .i64 a0_0, .slice (some ad237) l0_1.length c0_1] 24 (0, 0))) := ⟨(by rw [hw]; exact (by (with_reducible repeat (first | refine blk_drewN ?_ _ | refine blk_drew ?_ | refine blk_alloc ?_ _)); refine blk_far ?_ NB233_238.out _; (with_reducible repeat (first | refine blk_drewN ?_ _ | refine blk_drew ?_ | refine blk_alloc ?_ _)); refine blk_far ?_ NB233_238.out _; (with_reducible repeat (first | refine blk_drewN ?_ _ | refine blk_drew ?_ | refine blk_alloc ?_ _)); exact BK233.out))⟩; have n5_ : Aside0 (w73.heap[gb234]? = some (.cells #[.int .i64 a2_0, .slice A2_1 l2_1.length c2_1] 24 (0, 0))) := ⟨(by rw [hw]; exact (by (with_reducible repeat (first | refine blk_drewN ?_ _ | refine blk_drew ?_ | refine blk_alloc ?_ _)); refine blk_far ?_ NB234_238.out _; (with_reducible repeat (first | refine blk_drewN ?_ _ | refine blk_drew ?_ | refine blk_alloc ?_ _)); refine blk_far ?_ NB234_238.out _; (with_reducible repeat (first | refine blk_drewN ?_ _ | refine blk_drew ?_ | refine blk_alloc ?_ _)); exact BK234.out))⟩; have n6_ : Aside0 (w73.heap[gb235]? = some (.cells #[.int .i64 0, .slice none 0 0] 24 (0, 0))) := ⟨(by rw [hw]; exact (by (with_reducible repeat (first | refine blk_drewN ?_ _ | refine blk_drew ?_ | refine blk_alloc ?_ _)); refine blk_far ?_ NB235_238.out _; (with_reducible repeat (first | refine blk_drewN ?_ _ | refine blk_drew ?_ | refine blk_alloc ?_ _)); refine blk_far ?_ NB235_238.out _; (with_reducible repeat (first | refine blk_drewN ?_ _ | refine blk_drew ?_ | refine blk_alloc ?_ _)); exact BK235.out))⟩; have n7_ : Aside0 (w73.heap[gb236]? = some (.cells #[.int .i64 a0_0, u237001] 24 (0, 0))) := ⟨(by rw [hw]; exact (by (with_reducible repeat (first | refine blk_drewN ?_ _ | refine blk_drew ?_ | refine blk_alloc ?_ _)); refine blk_far ?_ NB236_238.out _; (with_reducible repeat (first | refine blk_drewN ?_ _ | refine blk_drew ?_ | refine blk_alloc ?_ _)); refine blk_far ?_ NB236_238.out _; (with_reducible repeat (first | refine blk_drewN ?_ _ | refine blk_drew ?_ | refine blk_alloc ?_ _)); exact BK236.out))⟩; have n8_ : Aside0 (w73.heap[gb238]? = some (.cells #[.int .i64 ((rd_T24 l0_1 x9_1).f0), .slice A237_1 ((rd_T24 l0_1 x9_1).f1).length c237_1] 24 (0, 0))) := ⟨(by rw [hw]; exact (by (with_reducible repeat (first | refine blk_drewN ?_ _ | refine blk_drew ?_ | refine blk_alloc ?_ _)); refine blk_put (cs := #[.int .i64 ((rd_T24 l0_1 x9_1).f0), .slice none 0 0]) ?_ 1 _ rfl; (with_reducible repeat (first | refine blk_drewN ?_ _ | refine blk_drew ?_ | refine blk_alloc ?_ _)); refine blk_put (cs := #[.int .i64 0, .slice none 0 0]) ?_ 0 _ rfl; (with_reducible repeat (first | refine blk_drewN ?_ _ | refine blk_drew ?_ | refine blk_alloc ?_ _)); exact BK238.out))⟩; have n9_ : Aside0 (Below w.heap.size w w73) := ⟨(by rw [hw]; exact (by repeat (first | (with_reducible first | exact HB.out | apply below_alloc | apply pw_below_drewN | apply below_drew1 | refine below_set ?_ GE233.out | refine below_set ?_ GE234.out | refine below_set ?_ GE235.out | refine below_set ?_ GE236.out | refine below_set ?_ GE238.out) | exact HB.out)))⟩; clear hw; clear HO_234001; clear HO_235001; clear HO_237001; clear HL237_1; clear BK233; clear BK234; clear BK235; clear BK236; clear BK238; clear HB; have HO_234001 := n0_; have HO_235001 := n1_; have HO_237001 := n2_; have HL237_1 := n3_; have BK233 := n4_; have BK234 := n5_; have BK235 := n6_; have BK236 := n7_; have BK238 := n8_; have HB := n9_; clear n0_ n1_ n2_ n3_ n4_ n5_ n6_ n7_ n8_ n9_; have hnb74 := NB236_234.out; have hnc74 := NB234_236.out; have hnb75 := NB236_235.out; have hnc75 := NB235_236.out; have hcz76_0 : w73.cell? ⟨gb236, 0, none⟩ = some (.int .i64 a0_0) := (blk_cell BK236.out 0).trans rfl; have hcz76_1 : w73.cell? ⟨gb236, 1, none⟩ = some (u237001) := (blk_cell BK236.out 1).trans rfl; have hfz76_0 := blk_frozen BK236.out 0; have hfz76_1 := blk_frozen BK236.out 1; have hcz77_0 : w73.cell? ⟨gb238, 0, none⟩ = some (.int .i64 ((rd_T24 l0_1 x9_1).f0)) := (blk_cell BK238.out 0).trans rfl; have hcz77_1 : w73.cell? ⟨gb238, 1, none⟩ = some (.slice A237_1 ((rd_T24 l0_1 x9_1).f1).length c237_1) := (blk_cell BK238.out 1).trans rfl; have hfz77_0 := blk_frozen BK238.out 0; have hfz77_1 := blk_frozen BK238.out 1) | ((with_reducible refine gate_builtin (b := .append) (xs := #[.tmp 52, .tmp 54]) rfl ?_); at_builtin; refine Kd.N_append k24 (w0 := w) w.heap.size rfl (.tmp 52) (.tmp 54) 22 24 (.agg #[(.int .i64 0), (.slice none 0 0)]) 32 rfl Try.underlying22 info24 rfl (by decide) (by omega) u237001 x237001_1 (⟨(rd_T24 l0_1 x9_1).f0, (rd_T24 l0_1 x9_1).f1⟩ : S24) [.int .i64 ((rd_T24 l0_1 x9_1).f0), .slice A237_1 ((rd_T24 l0_1 x9_1).f1).length c237_1] (fun k_ => ((P0_1_ k_ ∨ P2_1_ k_) ∨ w.heap.size ≤ k_) ∧ k_ ≠ gb233 ∧ k_ ≠ gb234 ∧ k_ ≠ gb235 ∧ k_ ≠ gb236 ∧ k_ ≠ gb238) (fun k_ => ((fun k_ => ((P0_1_ k_ ∨ P2_1_ k_) ∨ w.heap.size ≤ k_) ∧ k_ ≠ gb233 ∧ k_ ≠ gb234 ∧ k_ ≠ gb235 ∧ k_ ≠ gb236 ∧ k_ ≠ gb238)) k_ ∧ some k_ ≠ (u237001 : Value).ownBlock) rfl rfl ?aP (fun _ hk => hk) ?aF ?aO ?aB ?aS ?aL ?_; (case aP => exact (k24_mkF _ _ (⟨(rd_T24 l0_1 x9_1).f0, (rd_T24 l0_1 x9_1).f1⟩ : S24) (Kd.V_reads' (Kd.V_mono (ok' := (fun k_ => ((fun k_ => ((P0_1_ k_ ∨ P2_1_ k_) ∨ w.heap.size ≤ k_) ∧ k_ ≠ gb233 ∧ k_ ≠ gb234 ∧ k_ ≠ gb235 ∧ k_ ≠ gb236 ∧ k_ ≠ gb238)) k_ ∧ some k_ ≠ (u237001 : Value).ownBlock)) (HL237_1.out) (fun k_ hk => ⟨⟨hk.1, ⟨hk.2.2.1, ⟨hk.2.2.2.1, ⟨hk.2.2.2.2.1, ⟨hk.2.2.2.2.2.1, hk.2.2.2.2.2.2⟩⟩⟩⟩⟩, hk.2.1⟩))).2.1 (Kd.V_F (Kd.V_mono (ok' := (fun k_ => ((fun k_ => ((P0_1_ k_ ∨ P2_1_ k_) ∨ w.heap.size ≤ k_) ∧ k_ ≠ gb233 ∧ k_ ≠ gb234 ∧ k_ ≠ gb235 ∧ k_ ≠ gb236 ∧ k_ ≠ gb238)) k_ ∧ some k_ ≠ (u237001 : Value).ownBlock)) (HL237_1.out) (fun k_ hk => ⟨⟨hk.1, ⟨hk.2.2.1, ⟨hk.2.2.2.1, ⟨hk.2.2.2.2.1, ⟨hk.2.2.2.2.2.1, hk.2.2.2.2.2.2⟩⟩⟩⟩⟩, hk.2.1⟩))))); (case aB => exact (by repeat (first | (with_reducible first | exact HB.out | apply below_alloc | apply pw_below_drewN | apply below_drew1 | refine below_set ?_ GE233.out | refine below_set ?_ GE234.out | refine below_set ?_ GE235.out | refine below_set ?_ GE236.out | refine below_set ?_ GE238.out) | exact HB.out))); (case aF => exact (fun k_ hk => ⟨(.inr (Nat.le_trans (below_size (by repeat (first | (with_reducible first | exact HB.out | apply below_alloc | apply pw_below_drewN | apply below_drew1 | refine below_set ?_ GE233.out | refine below_set ?_ GE234.out | refine below_set ?_ GE235.out | refine below_set ?_ GE236.out | refine below_set ?_ GE238.out) | exact HB.out))) hk)), Kd.freshB (g := gb233) (o := .cells #[.int .i64 a0_0, .slice (some ad237) l0_1.length c0_1] 24 (0, 0)) (by (with_reducible repeat (first | refine blk_drewN ?_ _ | refine blk_drew ?_ | refine blk_alloc ?_ _)); exact BK233.out) k_ hk, Kd.freshB (g := gb234) (o := .cells #[.int .i64 a2_0, .slice A2_1 l2_1.length c2_1] 24 (0, 0)) (by (with_reducible repeat (first | refine blk_drewN ?_ _ | refine blk_drew ?_ | refine blk_alloc ?_ _)); exact BK234.out) k_ hk, Kd.freshB (g := gb235) (o := .cells #[.int .i64 0, .slice none 0 0] 24 (0, 0)) (by (with_reducible repeat (first | refine blk_drewN ?_ _ | refine blk_drew ?_ | refine blk_alloc ?_ _)); exact BK235.out) k_ hk, Kd.freshB (g := gb236) (o := .cells #[.int .i64 a0_0, u237001] 24 (0, 0)) (by (with_reducible repeat (first | refine blk_drewN ?_ _ | refine blk_drew ?_ | refine blk_alloc ?_ _)); exact BK236.out) k_ hk, Kd.freshB (g := gb238) (o := .cells #[.int .i64 ((rd_T24 l0_1 x9_1).f0), .slice A237_1 ((rd_T24 l0_1 x9_1).f1).length c237_1] 24 (0, 0)) (by (with_reducible repeat (first | refine blk_drewN ?_ _ | refine blk_drew ?_ | refine blk_alloc ?_ _)); exact BK238.out) k_ hk⟩)); (case aO => exact (by (with_reducible repeat (first | apply Kd.N_alloc | apply Kd.N_drewN | apply Kd.N_drew)); exact HO_237001.out)); (case aS => exact (below_size (by repeat (first | (with_reducible first | exact HB.out | apply below_alloc | apply pw_below_drewN | apply below_drew1 | refine below_set ?_ GE233.out | refine below_set ?_ GE234.out | refine below_set ?_ GE235.out | refine below_set ?_ GE236.out | refine below_set ?_ GE238.out) | exact HB.out)))); (case aL => have := LMc62.out; omega); intro v249 w78 ho hb hg hat; rw [← Ny248.out] at ho; have n0_ := Aside0.mk (Kd.V_afterv (ok := (fun k_ => ((P0_1_ k_ ∨ P2_1_ k_) ∨ w.heap.size ≤ k_) ∧ k_ ≠ gb233 ∧ k_ ≠ gb234 ∧ k_ ≠ gb235 ∧ k_ ≠ gb236 ∧ k_ ≠ gb238)) (by (with_reducible repeat (first | apply Kd.V_alloc | apply Kd.V_drewN | apply Kd.V_drew)); exact Kd.V_mono HO_234001.out (fun _ hk => ⟨⟨hk.1, ⟨hk.2.2.1, ⟨hk.2.2.2.1, ⟨hk.2.2.2.2.1, ⟨hk.2.2.2.2.2.1, hk.2.2.2.2.2.2⟩⟩⟩⟩⟩, hk.2.1⟩)) hg hat); have n1_ := Aside0.mk (Kd.V_afterv (ok := (fun k_ => ((P0_1_ k_ ∨ P2_1_ k_) ∨ w.heap.size ≤ k_) ∧ k_ ≠ gb233 ∧ k_ ≠ gb234 ∧ k_ ≠ gb235 ∧ k_ ≠ gb236 ∧ k_ ≠ gb238)) (by (with_reducible repeat (first | apply Kd.V_alloc | apply Kd.V_drewN | apply Kd.V_drew)); exact Kd.V_mono HO_235001.out (fun _ hk => ⟨⟨hk.1, ⟨hk.2.2.1, ⟨hk.2.2.2.1, ⟨hk.2.2.2.2.1, ⟨hk.2.2.2.2.2.1, hk.2.2.2.2.2.2⟩⟩⟩⟩⟩, hk.2.1⟩)) hg hat); have n2_ := Aside0.mk (blk_grown (g := gb233) (o := .cells #[.int .i64 a0_0, .slice (some ad237) l0_1.length c0_1] 24 (0, 0)) (by (with_reducible repeat (first | refine blk_drewN ?_ _ | refine blk_drew ?_ | refine blk_alloc ?_ _)); exact BK233.out) hg (Kd.N_away HO_237001.out (fun _ hk => hk.2.1))); have n3_ := Aside0.mk (blk_grown (g := gb234) (o := .cells #[.int .i64 a2_0, .slice A2_1 l2_1.length c2_1] 24 (0, 0)) (by (with_reducible repeat (first | refine blk_drewN ?_ _ | refine blk_drew ?_ | refine blk_alloc ?_ _)); exact BK234.out) hg (Kd.N_away HO_237001.out (fun _ hk => hk.2.2.1))); have n4_ := Aside0.mk (blk_grown (g := gb235) (o := .cells #[.int .i64 0, .slice none 0 0] 24 (0, 0)) (by (with_reducible repeat (first | refine blk_drewN ?_ _ | refine blk_drew ?_ | refine blk_alloc ?_ _)); exact BK235.out) hg (Kd.N_away HO_237001.out (fun _ hk => hk.2.2.2.1))); have n5_ := Aside0.mk (blk_grown (g := gb236) (o := .cells #[.int .i64 a0_0, u237001] 24 (0, 0)) (by (with_reducible repeat (first | refine blk_drewN ?_ _ | refine blk_drew ?_ | refine blk_alloc ?_ _)); exact BK236.out) hg (Kd.N_away HO_237001.out (fun _ hk => hk.2.2.2.2.1))); have n6_ := Aside0.mk (Kd.V_afterv (ok := (fun k_ => ((P0_1_ k_ ∨ P2_1_ k_) ∨ w.heap.size ≤ k_) ∧ k_ ≠ gb233 ∧ k_ ≠ gb234 ∧ k_ ≠ gb235 ∧ k_ ≠ gb236 ∧ k_ ≠ gb238)) (by (with_reducible repeat (first | apply Kd.V_alloc | apply Kd.V_drewN | apply Kd.V_drew)); exact Kd.V_mono HL237_1.out (fun _ hk => ⟨⟨hk.1, ⟨hk.2.2.1, ⟨hk.2.2.2.1, ⟨hk.2.2.2.2.1, ⟨hk.2.2.2.2.2.1, hk.2.2.2.2.2.2⟩⟩⟩⟩⟩, hk.2.1⟩)) hg hat); have n7_ := Aside0.mk (blk_grown (g := gb238) (o := .cells #[.int .i64 ((rd_T24 l0_1 x9_1).f0), .slice A237_1 ((rd_T24 l0_1 x9_1).f1).length c237_1] 24 (0, 0)) (by (with_reducible repeat (first | refine blk_drewN ?_ _ | refine blk_drew ?_ | refine blk_alloc ?_ _)); exact BK238.out) hg (Kd.N_away HO_237001.out (fun _ hk => hk.2.2.2.2.2))); have n8_ := Aside0.mk (hb); have n9_ := Aside0.mk (ho); clear HO_234001; clear HO_235001; clear BK233; clear BK234; clear BK235; clear BK236; clear HL237_1; clear BK238; clear HB; clear HO_237001; have HO_234001 := n0_; have HO_235001 := n1_; have BK233 := n2_; have BK234 := n3_; have BK235 := n4_; have BK236 := n5_; have HL237_1 := n6_; have BK238 := n7_; have HB := n8_; have HO250 := n9_; clear n0_ n1_ n2_ n3_ n4_ n5_ n6_ n7_ n8_ n9_; clear ho hb hg hat; obtain ⟨Ao79, co79, eo79⟩ := Kd.N_slice HO250.out; subst eo79; have hcz80_0 : w78.cell? ⟨gb236, 0, none⟩ = some (.int .i64 a0_0) := (blk_cell BK236.out 0).trans rfl; have hcz80_1 : w78.cell? ⟨gb236, 1, none⟩ = some (u237001) := (blk_cell BK236.out 1).trans rfl; have hfz80_0 := blk_frozen BK236.out 0; have hfz80_1 := blk_frozen BK236.out 1))
                  go_roundg k1
                  case measure => have := HK1.out; omega
                  case rel => exact ⟨(x1_1), (wrap64 (x9_1 + 1)), (y248), (.slice Ao79 y248.length co79), (by first | rfl | (simp; done) | (simp [*]; done)), (by first | rfl | (simp; done) | (simp [*]; done)), H', ⟨by have := HK1.out; omega⟩, ⟨by (with_reducible repeat (first | apply Kd.V_alloc | apply Kd.V_drewN | apply Kd.V_drew)); exact Kd.V_mono (Kd.V_far (p := ⟨gb236, 1, none⟩) (Kd.V_mono HO_234001.out (fun k_ hk => (⟨hk, hk.1.2.2.2.2.1⟩ : _ ∧ k_ ≠ gb236))) (fun _ hk => hk.2) (.slice Ao79 y248.length co79)) (fun _ hk => ⟨hk.1.1.1, ⟨hk.1.2, ⟨hk.1.1.2.1, ⟨hk.1.1.2.2.1, ⟨hk.1.1.2.2.2.1, hk.1.1.2.2.2.2.1⟩⟩⟩⟩⟩)⟩, ⟨by (with_reducible repeat (first | apply Kd.V_alloc | apply Kd.V_drewN | apply Kd.V_drew)); exact Kd.V_mono (Kd.V_far (p := ⟨gb236, 1, none⟩) (Kd.V_mono HO_235001.out (fun k_ hk => (⟨hk, hk.1.2.2.2.2.1⟩ : _ ∧ k_ ≠ gb236))) (fun _ hk => hk.2) (.slice Ao79 y248.length co79)) (fun _ hk => ⟨hk.1.1.1, ⟨hk.1.2, ⟨hk.1.1.2.1, ⟨hk.1.1.2.2.1, ⟨hk.1.1.2.2.2.1, hk.1.1.2.2.2.2.1⟩⟩⟩⟩⟩)⟩, ⟨by (with_reducible repeat (first | apply Kd.N_alloc | apply Kd.N_drewN | apply Kd.N_drew)); exact Kd.N_mono (Kd.N_far (p := ⟨gb236, 1, none⟩) (Kd.N_mono HO250.out (fun k_ hk => (⟨hk, hk.2.2.2.2.1⟩ : _ ∧ k_ ≠ gb236))) (fun _ hk => hk.2) (.slice Ao79 y248.length co79)) (fun _ hk => ⟨hk.1.1, ⟨hk.1.2.1, ⟨hk.1.2.2.1, ⟨hk.1.2.2.2.1, hk.1.2.2.2.2.1⟩⟩⟩⟩)⟩, ⟨by (with_reducible repeat (first | refine blk_drewN ?_ _ | refine blk_drew ?_ | refine blk_alloc ?_ _)); refine blk_far ?_ NB233_236.out _; (with_reducible repeat (first | refine blk_drewN ?_ _ | refine blk_drew ?_ | refine blk_alloc ?_ _)); exact BK233.out⟩, ⟨by (with_reducible repeat (first | refine blk_drewN ?_ _ | refine blk_drew ?_ | refine blk_alloc ?_ _)); refine blk_far ?_ NB234_236.out _; (with_reducible repeat (first | refine blk_drewN ?_ _ | refine blk_drew ?_ | refine blk_alloc ?_ _)); exact BK234.out⟩, ⟨by (with_reducible repeat (first | refine blk_drewN ?_ _ | refine blk_drew ?_ | refine blk_alloc ?_ _)); refine blk_far ?_ NB235_236.out _; (with_reducible repeat (first | refine blk_drewN ?_ _ | refine blk_drew ?_ | refine blk_alloc ?_ _)); exact BK235.out⟩, ⟨by (with_reducible repeat (first | refine blk_drewN ?_ _ | refine blk_drew ?_ | refine blk_alloc ?_ _)); refine blk_put (cs := #[.int .i64 a0_0, u237001]) ?_ 1 _ rfl; (with_reducible repeat (first | refine blk_drewN ?_ _ | refine blk_drew ?_ | refine blk_alloc ?_ _)); exact BK236.out⟩, ⟨by repeat (first | (with_reducible first | exact HB.out | apply below_alloc | apply pw_below_drewN | apply below_drew1 | refine below_set ?_ GE233.out | refine below_set ?_ GE234.out | refine below_set ?_ GE235.out | refine below_set ?_ GE236.out | refine below_set ?_ GE238.out) | exact HB.out)⟩⟩
                · rw [if_neg c62] at H
                  exact absurd H (by simp)
            · rw [if_neg c34] at H
              exact absurd H (by simp)
          · rw [if_neg c33] at H
            have c33b0 : decide (x9_1 < (l0_1.length : Int)) = false := decide_eq_false c33
            clear c33
            simp only [Option.some.injEq, Prod.mk.injEq] at H
            obtain ⟨rfl, rfl, rfl⟩ := H
            have hnb81 := NB233_234.out
            have hnc81 := NB234_233.out
            have hnb82 := NB233_235.out
            have hnc82 := NB235_233.out
            have hnb83 := NB233_236.out
            have hnc83 := NB236_233.out
            have hcz84_0 : wr.cell? ⟨gb233, 0, none⟩ = some (.int .i64 a0_0) := (blk_cell BK233.out 0).trans rfl
            have hcz84_1 : wr.cell? ⟨gb233, 1, none⟩ = some (.slice A0_1 l0_1.length c0_1) := (blk_cell BK233.out 1).trans rfl
            have hfz84_0 := blk_frozen BK233.out 0
            have hfz84_1 := blk_frozen BK233.out 1
            have hnb85 := NB236_234.out
            have hnc85 := NB234_236.out
            have hnb86 := NB236_235.out
            have hnc86 := NB235_236.out
            have hcz87_0 : wr.cell? ⟨gb236, 0, none⟩ = some (.int .i64 a0_0) := (blk_cell BK236.out 0).trans rfl
            have hcz87_1 : wr.cell? ⟨gb236, 1, none⟩ = some (u237001) := (blk_cell BK236.out 1).trans rfl
            have hfz87_0 := blk_frozen BK236.out 0
            have hfz87_1 := blk_frozen BK236.out 1
            have hnb88 := NB235_234.out
            have hnc88 := NB234_235.out
            have hcz89_0 : wr.cell? ⟨gb235, 0, none⟩ = some (.int .i64 0) := (blk_cell BK235.out 0).trans rfl
            have hcz89_1 : wr.cell? ⟨gb235, 1, none⟩ = some (.slice none 0 0) := (blk_cell BK235.out 1).trans rfl
            have hfz89_0 := blk_frozen BK235.out 0
            have hfz89_1 := blk_frozen BK235.out 1
            obtain ⟨Ao90, co90, eo90⟩ := Kd.N_slice HO_237001.out
            subst eo90
            go_wp2
            refine bodyPost_ret (results_ct rfl _ _ gb235 24 #[.int .i64 a0_0, .slice Ao90 x237001_1.length co90] (0, 0) _ rfl (by (with_reducible repeat (first | refine blk_drewN ?_ _ | refine blk_drew ?_ | refine blk_alloc ?_ _)); refine blk_put (cs := #[.int .i64 a0_0, .slice none 0 0]) ?_ 1 _ rfl; (with_reducible repeat (first | refine blk_drewN ?_ _ | refine blk_drew ?_ | refine blk_alloc ?_ _)); refine blk_put (cs := #[.int .i64 0, .slice none 0 0]) ?_ 0 _ rfl; (with_reducible repeat (first | refine blk_drewN ?_ _ | refine blk_drew ?_ | refine blk_alloc ?_ _)); exact BK235.out) Try.underlying24 rfl (by kernel_rfl)) rfl ?_
            exact ⟨_, by first | rfl | (simp [errW_none, errW_some] <;> rfl) | (simp [*, errW_none, errW_some] <;> rfl), Kd.N_V (by (with_reducible repeat (first | apply Kd.N_alloc | apply Kd.N_drewN | apply Kd.N_drew)); exact Kd.N_mono (Kd.N_far (p := ⟨gb235, 1, none⟩) (Kd.N_far (p := ⟨gb235, 0, none⟩) (Kd.N_mono HO_237001.out (fun k_ hk => (⟨hk, hk.2.2.2.1⟩ : _ ∧ k_ ≠ gb235))) (fun _ hk => hk.2) (.int .i64 a0_0)) (fun _ hk => hk.2) (.slice Ao90 x237001_1.length co90)) (fun _ hk => hk.1.1)), by repeat (first | (with_reducible first | exact HB.out | apply below_alloc | apply pw_below_drewN | apply below_drew1 | refine below_set ?_ GE233.out | refine below_set ?_ GE234.out | refine below_set ?_ GE235.out | refine below_set ?_ GE236.out) | exact HB.out)⟩
end Go.Proofs.Ytpfddihcikiofaa.P
end
