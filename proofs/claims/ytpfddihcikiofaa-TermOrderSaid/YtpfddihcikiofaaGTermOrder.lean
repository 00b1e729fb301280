/- TermOrder: its regions, its walk. PRINTED by gen/gtermorder.py. -/
import Derived.Test.YtpfddihcikiofaaGTold
import Derived.Test.YtpfddihcikiofaaGCmp
namespace Go.Proofs.Ytpfddihcikiofaa.P
open Go.RowKit Go.Proofs.YtpfddihcikiofaaW.PrintWords Go.Proofs.YtpfddihcikiofaaW.PrintLast Go.Proofs.YtpfddihcikiofaaW.PrintMore
set_option linter.unusedVariables false
set_option linter.unusedSimpArgs false
attribute [local go_sem] max2_int min2_int max_two min_two

set_option maxHeartbeats 4000000 in
set_option maxRecDepth 100000 in
theorem TermOrder_r6 {id : Nat} {a : Act} {w : World} {Q : Exit → Act → World → Prop} {ga gb gc : Nat} {xf xl yf yl zf zl : Value} {p q r : Int}
    (hr : regionOk #[{ dst := some 28, op := Op.load 30 (Operand.tmp 7), type := 30, pos := "law.go:179", after := #[], guard := none }, { dst := some 29, op := Op.load 30 (Operand.tmp 8), type := 30, pos := "law.go:179", after := #[], guard := none }, { dst := some 30, op := Op.call { callee := Callee.value (Operand.func 36), args := #[Operand.tmp 28, Operand.tmp 29], argTypes := #[30, 30] }, type := 3, pos := "law.go:179", after := #[{ on := 0, ground := Ground.data }, { on := 1, ground := Ground.data }], guard := none }, { dst := some 31, op := Op.load 30 (Operand.tmp 8), type := 30, pos := "law.go:179", after := #[], guard := none }, { dst := some 32, op := Op.load 30 (Operand.tmp 9), type := 30, pos := "law.go:179", after := #[], guard := none }, { dst := some 33, op := Op.call { callee := Callee.value (Operand.func 36), args := #[Operand.tmp 31, Operand.tmp 32], argTypes := #[30, 30] }, type := 3, pos := "law.go:179", after := #[{ on := 3, ground := Ground.data }, { on := 4, ground := Ground.data }, { on := 2, ground := Ground.chain }], guard := none }, { dst := some 34, op := Op.load 30 (Operand.tmp 7), type := 30, pos := "law.go:179", after := #[], guard := none }, { dst := some 35, op := Op.load 30 (Operand.tmp 9), type := 30, pos := "law.go:179", after := #[], guard := none }, { dst := some 36, op := Op.call { callee := Callee.value (Operand.func 36), args := #[Operand.tmp 34, Operand.tmp 35], argTypes := #[30, 30] }, type := 3, pos := "law.go:179", after := #[{ on := 6, ground := Ground.data }, { on := 7, ground := Ground.data }, { on := 5, ground := Ground.chain }], guard := none }, { dst := some 10, op := Op.assign (Operand.tmp 30), type := 3, pos := "law.go:179", after := #[{ on := 2, ground := Ground.data }, { on := 8, ground := Ground.chain }, { on := 0, ground := Ground.phase }, { on := 1, ground := Ground.phase }, { on := 2, ground := Ground.phase }, { on := 3, ground := Ground.textOnly Departure.lateStores }, { on := 4, ground := Ground.textOnly Departure.lateStores }, { on := 5, ground := Ground.textOnly Departure.lateStoresUnsure }, { on := 6, ground := Ground.textOnly Departure.lateStores }, { on := 7, ground := Ground.textOnly Departure.lateStores }, { on := 8, ground := Ground.textOnly Departure.lateStoresUnsure }], guard := none }, { dst := some 11, op := Op.assign (Operand.tmp 33), type := 3, pos := "law.go:179", after := #[{ on := 5, ground := Ground.data }, { on := 9, ground := Ground.chain }, { on := 0, ground := Ground.phase }, { on := 1, ground := Ground.phase }, { on := 2, ground := Ground.phase }, { on := 3, ground := Ground.phase }, { on := 4, ground := Ground.phase }, { on := 5, ground := Ground.phase }, { on := 6, ground := Ground.textOnly Departure.lateStores }, { on := 7, ground := Ground.textOnly Departure.lateStores }, { on := 8, ground := Ground.textOnly Departure.lateStoresUnsure }, { on := 9, ground := Ground.phase }], guard := none }, { dst := some 12, op := Op.assign (Operand.tmp 36), type := 3, pos := "law.go:179", after := #[{ on := 8, ground := Ground.data }, { on := 10, ground := Ground.chain }, { on := 0, ground := Ground.phase }, { on := 1, ground := Ground.phase }, { on := 2, ground := Ground.phase }, { on := 3, ground := Ground.phase }, { on := 4, ground := Ground.phase }, { on := 5, ground := Ground.phase }, { on := 6, ground := Ground.phase }, { on := 7, ground := Ground.phase }, { on := 8, ground := Ground.phase }, { on := 9, ground := Ground.phase }, { on := 10, ground := Ground.phase }], guard := none }] a.tmps.size = true)
    (hT7 : a.tmps.getD 7 undef = .pointer (some ⟨ga, 0, none⟩)) (hX7 : w.heap[ga]? = some (.cells #[xf, xl] 30 (0, 0)))
    (hT8 : a.tmps.getD 8 undef = .pointer (some ⟨gb, 0, none⟩)) (hX8 : w.heap[gb]? = some (.cells #[yf, yl] 30 (0, 0)))
    (hT9 : a.tmps.getD 9 undef = .pointer (some ⟨gc, 0, none⟩)) (hX9 : w.heap[gc]? = some (.cells #[zf, zl] 30 (0, 0)))
    (hF2 : ∀ w1, Below w.heap.size w w1 → Calls Try.prog 36 #[.agg #[xf, xl], .agg #[yf, yl]] w1 fun e w2 => e = .returned (.int .i64 p) ∧ Below w1.heap.size w1 w2)
    (hF5 : ∀ w1, Below w.heap.size w w1 → Calls Try.prog 36 #[.agg #[yf, yl], .agg #[zf, zl]] w1 fun e w2 => e = .returned (.int .i64 q) ∧ Below w1.heap.size w1 w2)
    (hF8 : ∀ w1, Below w.heap.size w w1 → Calls Try.prog 36 #[.agg #[xf, xl], .agg #[zf, zl]] w1 fun e w2 => e = .returned (.int .i64 r) ∧ Below w1.heap.size w1 w2)
    (hK : ∀ v w', Below w.heap.size w w' → v 9 = .int .i64 p → v 10 = .int .i64 q → v 11 = .int .i64 r → Q .normal { tmps := layL [some 28, some 29, some 30, some 31, some 32, some 33, some 34, some 35, some 36, some 10, some 11, some 12] 0 v a.tmps, defers := a.defers } w') :
    (Code.region id #[{ dst := some 28, op := Op.load 30 (Operand.tmp 7), type := 30, pos := "law.go:179", after := #[], guard := none }, { dst := some 29, op := Op.load 30 (Operand.tmp 8), type := 30, pos := "law.go:179", after := #[], guard := none }, { dst := some 30, op := Op.call { callee := Callee.value (Operand.func 36), args := #[Operand.tmp 28, Operand.tmp 29], argTypes := #[30, 30] }, type := 3, pos := "law.go:179", after := #[{ on := 0, ground := Ground.data }, { on := 1, ground := Ground.data }], guard := none }, { dst := some 31, op := Op.load 30 (Operand.tmp 8), type := 30, pos := "law.go:179", after := #[], guard := none }, { dst := some 32, op := Op.load 30 (Operand.tmp 9), type := 30, pos := "law.go:179", after := #[], guard := none }, { dst := some 33, op := Op.call { callee := Callee.value (Operand.func 36), args := #[Operand.tmp 31, Operand.tmp 32], argTypes := #[30, 30] }, type := 3, pos := "law.go:179", after := #[{ on := 3, ground := Ground.data }, { on := 4, ground := Ground.data }, { on := 2, ground := Ground.chain }], guard := none }, { dst := some 34, op := Op.load 30 (Operand.tmp 7), type := 30, pos := "law.go:179", after := #[], guard := none }, { dst := some 35, op := Op.load 30 (Operand.tmp 9), type := 30, pos := "law.go:179", after := #[], guard := none }, { dst := some 36, op := Op.call { callee := Callee.value (Operand.func 36), args := #[Operand.tmp 34, Operand.tmp 35], argTypes := #[30, 30] }, type := 3, pos := "law.go:179", after := #[{ on := 6, ground := Ground.data }, { on := 7, ground := Ground.data }, { on := 5, ground := Ground.chain }], guard := none }, { dst := some 10, op := Op.assign (Operand.tmp 30), type := 3, pos := "law.go:179", after := #[{ on := 2, ground := Ground.data }, { on := 8, ground := Ground.chain }, { on := 0, ground := Ground.phase }, { on := 1, ground := Ground.phase }, { on := 2, ground := Ground.phase }, { on := 3, ground := Ground.textOnly Departure.lateStores }, { on := 4, ground := Ground.textOnly Departure.lateStores }, { on := 5, ground := Ground.textOnly Departure.lateStoresUnsure }, { on := 6, ground := Ground.textOnly Departure.lateStores }, { on := 7, ground := Ground.textOnly Departure.lateStores }, { on := 8, ground := Ground.textOnly Departure.lateStoresUnsure }], guard := none }, { dst := some 11, op := Op.assign (Operand.tmp 33), type := 3, pos := "law.go:179", after := #[{ on := 5, ground := Ground.data }, { on := 9, ground := Ground.chain }, { on := 0, ground := Ground.phase }, { on := 1, ground := Ground.phase }, { on := 2, ground := Ground.phase }, { on := 3, ground := Ground.phase }, { on := 4, ground := Ground.phase }, { on := 5, ground := Ground.phase }, { on := 6, ground := Ground.textOnly Departure.lateStores }, { on := 7, ground := Ground.textOnly Departure.lateStores }, { on := 8, ground := Ground.textOnly Departure.lateStoresUnsure }, { on := 9, ground := Ground.phase }], guard := none }, { dst := some 12, op := Op.assign (Operand.tmp 36), type := 3, pos := "law.go:179", after := #[{ on := 8, ground := Ground.data }, { on := 10, ground := Ground.chain }, { on := 0, ground := Ground.phase }, { on := 1, ground := Ground.phase }, { on := 2, ground := Ground.phase }, { on := 3, ground := Ground.phase }, { on := 4, ground := Ground.phase }, { on := 5, ground := Ground.phase }, { on := 6, ground := Ground.phase }, { on := 7, ground := Ground.phase }, { on := 8, ground := Ground.phase }, { on := 9, ground := Ground.phase }, { on := 10, ground := Ground.phase }], guard := none }] true).wp Try.prog Q a w := by
  have hmx : Try.prog.follows .mixedOrders = true := by kernel_rfl
  refine region_detR 12 hmx hr (by kernel_rfl) ?_
  refine DetR.is (o := { dst := some 28, op := Op.load 30 (Operand.tmp 7), type := 30, pos := "law.go:179", after := #[], guard := none }) (u := ?ux1) rfl (by decide) (fun T w' hb hd hB K hK => ?sx1) ?rx1
  case sx1 =>
    have e7 := (hB 7 (by kernel_rfl)).trans hT7
    have q7_0 : w'.cell? ⟨ga, 0, none⟩ = some (xf) := (blk_cell (blk_below hX7 hb) 0).trans rfl
    have q7_1 : w'.cell? ⟨ga, 1, none⟩ = some (xl) := (blk_cell (blk_below hX7 hb) 1).trans rfl
    rw [if_pos (wanted_none _ rfl)]
    clear hd hB
    go_simp
    exact hK _ (Below.refl _ _)
  refine DetR.is (o := { dst := some 29, op := Op.load 30 (Operand.tmp 8), type := 30, pos := "law.go:179", after := #[], guard := none }) (u := ?ux2) rfl (by decide) (fun T w' hb hd hB K hK => ?sx2) ?rx2
  case sx2 =>
    have e8 := (hB 8 (by kernel_rfl)).trans hT8
    have q8_0 : w'.cell? ⟨gb, 0, none⟩ = some (yf) := (blk_cell (blk_below hX8 hb) 0).trans rfl
    have q8_1 : w'.cell? ⟨gb, 1, none⟩ = some (yl) := (blk_cell (blk_below hX8 hb) 1).trans rfl
    rw [if_pos (wanted_none _ rfl)]
    clear hd hB
    go_simp
    exact hK _ (Below.refl _ _)
  refine DetR.is (o := { dst := some 30, op := Op.call { callee := Callee.value (Operand.func 36), args := #[Operand.tmp 28, Operand.tmp 29], argTypes := #[30, 30] }, type := 3, pos := "law.go:179", after := #[{ on := 0, ground := Ground.data }, { on := 1, ground := Ground.data }], guard := none }) (u := ?ux3) rfl (by decide) (fun T w' hb hd hB K hK => ?sx3) ?rx3
  case sx3 =>
    have e28 := hd 0 28 _ (by decide) (by kernel_rfl) rfl rfl
    replace e28 : T.getD 28 undef = _ := e28
    have e29 := hd 1 29 _ (by decide) (by kernel_rfl) rfl rfl
    replace e29 : T.getD 29 undef = _ := e29
    rw [if_pos (wanted_none _ rfl)]
    have hcl := hF2 w' hb
    clear hd hB
    go_simp
    go_at_call 36
    refine hcl.mono ?_
    rintro e w2 ⟨rfl, h2⟩
    exact hK _ h2
  refine DetR.is (o := { dst := some 31, op := Op.load 30 (Operand.tmp 8), type := 30, pos := "law.go:179", after := #[], guard := none }) (u := ?ux4) rfl (by decide) (fun T w' hb hd hB K hK => ?sx4) ?rx4
  case sx4 =>
    have e8 := (hB 8 (by kernel_rfl)).trans hT8
    have q8_0 : w'.cell? ⟨gb, 0, none⟩ = some (yf) := (blk_cell (blk_below hX8 hb) 0).trans rfl
    have q8_1 : w'.cell? ⟨gb, 1, none⟩ = some (yl) := (blk_cell (blk_below hX8 hb) 1).trans rfl
    rw [if_pos (wanted_none _ rfl)]
    clear hd hB
    go_simp
    exact hK _ (Below.refl _ _)
  refine DetR.is (o := { dst := some 32, op := Op.load 30 (Operand.tmp 9), type := 30, pos := "law.go:179", after := #[], guard := none }) (u := ?ux5) rfl (by decide) (fun T w' hb hd hB K hK => ?sx5) ?rx5
  case sx5 =>
    have e9 := (hB 9 (by kernel_rfl)).trans hT9
    have q9_0 : w'.cell? ⟨gc, 0, none⟩ = some (zf) := (blk_cell (blk_below hX9 hb) 0).trans rfl
    have q9_1 : w'.cell? ⟨gc, 1, none⟩ = some (zl) := (blk_cell (blk_below hX9 hb) 1).trans rfl
    rw [if_pos (wanted_none _ rfl)]
    clear hd hB
    go_simp
    exact hK _ (Below.refl _ _)
  refine DetR.is (o := { dst := some 33, op := Op.call { callee := Callee.value (Operand.func 36), args := #[Operand.tmp 31, Operand.tmp 32], argTypes := #[30, 30] }, type := 3, pos := "law.go:179", after := #[{ on := 3, ground := Ground.data }, { on := 4, ground := Ground.data }, { on := 2, ground := Ground.chain }], guard := none }) (u := ?ux6) rfl (by decide) (fun T w' hb hd hB K hK => ?sx6) ?rx6
  case sx6 =>
    have e31 := hd 3 31 _ (by decide) (by kernel_rfl) rfl rfl
    replace e31 : T.getD 31 undef = _ := e31
    have e32 := hd 4 32 _ (by decide) (by kernel_rfl) rfl rfl
    replace e32 : T.getD 32 undef = _ := e32
    rw [if_pos (wanted_none _ rfl)]
    have hcl := hF5 w' hb
    clear hd hB
    go_simp
    go_at_call 36
    refine hcl.mono ?_
    rintro e w2 ⟨rfl, h2⟩
    exact hK _ h2
  refine DetR.is (o := { dst := some 34, op := Op.load 30 (Operand.tmp 7), type := 30, pos := "law.go:179", after := #[], guard := none }) (u := ?ux7) rfl (by decide) (fun T w' hb hd hB K hK => ?sx7) ?rx7
  case sx7 =>
    have e7 := (hB 7 (by kernel_rfl)).trans hT7
    have q7_0 : w'.cell? ⟨ga, 0, none⟩ = some (xf) := (blk_cell (blk_below hX7 hb) 0).trans rfl
    have q7_1 : w'.cell? ⟨ga, 1, none⟩ = some (xl) := (blk_cell (blk_below hX7 hb) 1).trans rfl
    rw [if_pos (wanted_none _ rfl)]
    clear hd hB
    go_simp
    exact hK _ (Below.refl _ _)
  refine DetR.is (o := { dst := some 35, op := Op.load 30 (Operand.tmp 9), type := 30, pos := "law.go:179", after := #[], guard := none }) (u := ?ux8) rfl (by decide) (fun T w' hb hd hB K hK => ?sx8) ?rx8
  case sx8 =>
    have e9 := (hB 9 (by kernel_rfl)).trans hT9
    have q9_0 : w'.cell? ⟨gc, 0, none⟩ = some (zf) := (blk_cell (blk_below hX9 hb) 0).trans rfl
    have q9_1 : w'.cell? ⟨gc, 1, none⟩ = some (zl) := (blk_cell (blk_below hX9 hb) 1).trans rfl
    rw [if_pos (wanted_none _ rfl)]
    clear hd hB
    go_simp
    exact hK _ (Below.refl _ _)
  refine DetR.is (o := { dst := some 36, op := Op.call { callee := Callee.value (Operand.func 36), args := #[Operand.tmp 34, Operand.tmp 35], argTypes := #[30, 30] }, type := 3, pos := "law.go:179", after := #[{ on := 6, ground := Ground.data }, { on := 7, ground := Ground.data }, { on := 5, ground := Ground.chain }], guard := none }) (u := ?ux9) rfl (by decide) (fun T w' hb hd hB K hK => ?sx9) ?rx9
  case sx9 =>
    have e34 := hd 6 34 _ (by decide) (by kernel_rfl) rfl rfl
    replace e34 : T.getD 34 undef = _ := e34
    have e35 := hd 7 35 _ (by decide) (by kernel_rfl) rfl rfl
    replace e35 : T.getD 35 undef = _ := e35
    rw [if_pos (wanted_none _ rfl)]
    have hcl := hF8 w' hb
    clear hd hB
    go_simp
    go_at_call 36
    refine hcl.mono ?_
    rintro e w2 ⟨rfl, h2⟩
    exact hK _ h2
  refine DetR.is (o := { dst := some 10, op := Op.assign (Operand.tmp 30), type := 3, pos := "law.go:179", after := #[{ on := 2, ground := Ground.data }, { on := 8, ground := Ground.chain }, { on := 0, ground := Ground.phase }, { on := 1, ground := Ground.phase }, { on := 2, ground := Ground.phase }, { on := 3, ground := Ground.textOnly Departure.lateStores }, { on := 4, ground := Ground.textOnly Departure.lateStores }, { on := 5, ground := Ground.textOnly Departure.lateStoresUnsure }, { on := 6, ground := Ground.textOnly Departure.lateStores }, { on := 7, ground := Ground.textOnly Departure.lateStores }, { on := 8, ground := Ground.textOnly Departure.lateStoresUnsure }], guard := none }) (u := ?ux10) rfl (by decide) (fun T w' hb hd hB K hK => ?sx10) ?rx10
  case sx10 =>
    have e30 := hd 2 30 _ (by decide) (by kernel_rfl) rfl rfl
    replace e30 : T.getD 30 undef = _ := e30
    rw [if_pos (wanted_none _ rfl)]
    clear hd hB
    go_simp
    exact hK _ (Below.refl _ _)
  refine DetR.is (o := { dst := some 11, op := Op.assign (Operand.tmp 33), type := 3, pos := "law.go:179", after := #[{ on := 5, ground := Ground.data }, { on := 9, ground := Ground.chain }, { on := 0, ground := Ground.phase }, { on := 1, ground := Ground.phase }, { on := 2, ground := Ground.phase }, { on := 3, ground := Ground.phase }, { on := 4, ground := Ground.phase }, { on := 5, ground := Ground.phase }, { on := 6, ground := Ground.textOnly Departure.lateStores }, { on := 7, ground := Ground.textOnly Departure.lateStores }, { on := 8, ground := Ground.textOnly Departure.lateStoresUnsure }, { on := 9, ground := Ground.phase }], guard := none }) (u := ?ux11) rfl (by decide) (fun T w' hb hd hB K hK => ?sx11) ?rx11
  case sx11 =>
    have e33 := hd 5 33 _ (by decide) (by kernel_rfl) rfl rfl
    replace e33 : T.getD 33 undef = _ := e33
    rw [if_pos (wanted_none _ rfl)]
    clear hd hB
    go_simp
    exact hK _ (Below.refl _ _)
  refine DetR.is (o := { dst := some 12, op := Op.assign (Operand.tmp 36), type := 3, pos := "law.go:179", after := #[{ on := 8, ground := Ground.data }, { on := 10, ground := Ground.chain }, { on := 0, ground := Ground.phase }, { on := 1, ground := Ground.phase }, { on := 2, ground := Ground.phase }, { on := 3, ground := Ground.phase }, { on := 4, ground := Ground.phase }, { on := 5, ground := Ground.phase }, { on := 6, ground := Ground.phase }, { on := 7, ground := Ground.phase }, { on := 8, ground := Ground.phase }, { on := 9, ground := Ground.phase }, { on := 10, ground := Ground.phase }], guard := none }) (u := ?ux12) rfl (by decide) (fun T w' hb hd hB K hK => ?sx12) ?rx12
  case sx12 =>
    have e36 := hd 8 36 _ (by decide) (by kernel_rfl) rfl rfl
    replace e36 : T.getD 36 undef = _ := e36
    rw [if_pos (wanted_none _ rfl)]
    clear hd hB
    go_simp
    exact hK _ (Below.refl _ _)
  refine DetR.done [some 28, some 29, some 30, some 31, some 32, some 33, some 34, some 35, some 36, some 10, some 11, some 12] (by kernel_rfl) rfl (by kernel_rfl) ?_
  intro v w' hb hv
  exact hK v w' hb (hv 9 _ (by decide) rfl) (hv 10 _ (by decide) rfl) (hv 11 _ (by decide) rfl)

set_option maxHeartbeats 4000000 in
set_option maxRecDepth 100000 in
theorem TermOrder_r7 {id : Nat} {a : Act} {w : World} {Q : Exit → Act → World → Prop} {ga gb : Nat} {xf xl yf yl : Value} {p pn cf : Int} {cl : List S30}
    (hr : regionOk #[{ dst := some 37, op := Op.load 30 (Operand.tmp 8), type := 30, pos := "law.go:180", after := #[], guard := none }, { dst := some 38, op := Op.load 30 (Operand.tmp 7), type := 30, pos := "law.go:180", after := #[], guard := none }, { dst := some 39, op := Op.call { callee := Callee.value (Operand.func 36), args := #[Operand.tmp 37, Operand.tmp 38], argTypes := #[30, 30] }, type := 3, pos := "law.go:180", after := #[{ on := 0, ground := Ground.data }, { on := 1, ground := Ground.data }], guard := none }, { dst := some 40, op := Op.move (Operand.tmp 10), type := 3, pos := "law.go:180", after := #[], guard := none }, { dst := some 41, op := Op.unOp UnOp.neg 3 (Operand.tmp 40), type := 3, pos := "law.go:180", after := #[{ on := 3, ground := Ground.data }], guard := none }, { dst := some 42, op := Op.binOp BinOp.neq 3 (Operand.tmp 39) (Operand.tmp 41) 3, type := 4, pos := "law.go:180", after := #[{ on := 2, ground := Ground.data }, { on := 4, ground := Ground.data }], guard := none }, { dst := some 43, op := Op.move (Operand.tmp 42), type := 4, pos := "law.go:180", after := #[{ on := 5, ground := Ground.data }, { on := 2, ground := Ground.chain }], guard := none }, { dst := some 44, op := Op.load 30 (Operand.tmp 7), type := 30, pos := "law.go:180", after := #[{ on := 6, ground := Ground.guard }], guard := some (6, false) }, { dst := some 45, op := Op.load 30 (Operand.tmp 7), type := 30, pos := "law.go:180", after := #[{ on := 6, ground := Ground.guard }], guard := some (6, false) }, { dst := some 46, op := Op.call { callee := Callee.value (Operand.func 36), args := #[Operand.tmp 44, Operand.tmp 45], argTypes := #[30, 30] }, type := 3, pos := "law.go:180", after := #[{ on := 7, ground := Ground.data }, { on := 8, ground := Ground.data }, { on := 6, ground := Ground.chain }, { on := 6, ground := Ground.guard }], guard := some (6, false) }, { dst := some 47, op := Op.binOp BinOp.neq 3 (Operand.tmp 46) (Operand.const (Value.int IntKind.i64 0)) 3, type := 4, pos := "law.go:180", after := #[{ on := 9, ground := Ground.data }, { on := 6, ground := Ground.guard }], guard := some (6, false) }, { dst := some 48, op := Op.pick (Operand.tmp 43) (Operand.const (Value.bool true)) (Operand.tmp 47), type := 4, pos := "law.go:180", after := #[{ on := 6, ground := Ground.data }, { on := 10, ground := Ground.data }], guard := none }, { dst := some 49, op := Op.move (Operand.tmp 48), type := 4, pos := "law.go:180", after := #[{ on := 11, ground := Ground.data }, { on := 9, ground := Ground.chain }], guard := none }, { dst := some 50, op := Op.load 30 (Operand.tmp 7), type := 30, pos := "law.go:180", after := #[{ on := 12, ground := Ground.guard }], guard := some (12, false) }, { dst := some 51, op := Op.call { callee := Callee.value (Operand.func 38), args := #[Operand.tmp 50], argTypes := #[30] }, type := 30, pos := "law.go:180", after := #[{ on := 13, ground := Ground.data }, { on := 12, ground := Ground.chain }, { on := 12, ground := Ground.guard }], guard := some (12, false) }, { dst := some 52, op := Op.load 30 (Operand.tmp 7), type := 30, pos := "law.go:180", after := #[{ on := 12, ground := Ground.guard }], guard := some (12, false) }, { dst := some 53, op := Op.call { callee := Callee.value (Operand.func 37), args := #[Operand.tmp 51, Operand.tmp 52], argTypes := #[30, 30] }, type := 4, pos := "law.go:180", after := #[{ on := 14, ground := Ground.data }, { on := 15, ground := Ground.data }, { on := 14, ground := Ground.chain }, { on := 12, ground := Ground.guard }], guard := some (12, false) }, { dst := some 54, op := Op.unOp UnOp.not 4 (Operand.tmp 53), type := 4, pos := "law.go:180", after := #[{ on := 16, ground := Ground.data }, { on := 12, ground := Ground.guard }], guard := some (12, false) }, { dst := some 55, op := Op.pick (Operand.tmp 49) (Operand.const (Value.bool true)) (Operand.tmp 54), type := 4, pos := "law.go:180", after := #[{ on := 12, ground := Ground.data }, { on := 17, ground := Ground.data }], guard := none }] a.tmps.size = true)
    (hT10 : a.tmps.getD 10 undef = .int .i64 p)
    (hT7 : a.tmps.getD 7 undef = .pointer (some ⟨ga, 0, none⟩)) (hX7 : w.heap[ga]? = some (.cells #[xf, xl] 30 (0, 0)))
    (hT8 : a.tmps.getD 8 undef = .pointer (some ⟨gb, 0, none⟩)) (hX8 : w.heap[gb]? = some (.cells #[yf, yl] 30 (0, 0)))
    (hF2 : ∀ w1, Below w.heap.size w w1 → Calls Try.prog 36 #[.agg #[yf, yl], .agg #[xf, xl]] w1 fun e w2 => e = .returned (.int .i64 pn) ∧ Below w1.heap.size w1 w2)
    (hF9 : ∀ w1, Below w.heap.size w w1 → Calls Try.prog 36 #[.agg #[xf, xl], .agg #[xf, xl]] w1 fun e w2 => e = .returned (.int .i64 0) ∧ Below w1.heap.size w1 w2)
    (hF14 : ∀ w1, Below w.heap.size w w1 → Calls Try.prog 38 #[.agg #[xf, xl]] w1 fun e w2 => ∃ u, e = .returned u ∧ TermTold k30 cf cl u w2 ∧ Below w1.heap.size w1 w2)
    (hpn : pn = -p) (hpr : p = -1 ∨ p = 0 ∨ p = 1) (hS : ∀ (w1 : World) (A : Option Addr) (c : Nat), Below w.heap.size w w1 → cl.length ≤ c → k30.C w1 A cl.length cl → Calls Try.prog 37 #[.agg #[.int .i64 cf, .slice A cl.length c], .agg #[xf, xl]] w1 fun e w2 => e = .returned (.bool true) ∧ Below w1.heap.size w1 w2)
    (hK : ∀ v w', Below w.heap.size w w' → v 18 = .bool false → Q .normal { tmps := layL [some 37, some 38, some 39, some 40, some 41, some 42, some 43, some 44, some 45, some 46, some 47, some 48, some 49, some 50, some 51, some 52, some 53, some 54, some 55] 0 v a.tmps, defers := a.defers } w') :
    (Code.region id #[{ dst := some 37, op := Op.load 30 (Operand.tmp 8), type := 30, pos := "law.go:180", after := #[], guard := none }, { dst := some 38, op := Op.load 30 (Operand.tmp 7), type := 30, pos := "law.go:180", after := #[], guard := none }, { dst := some 39, op := Op.call { callee := Callee.value (Operand.func 36), args := #[Operand.tmp 37, Operand.tmp 38], argTypes := #[30, 30] }, type := 3, pos := "law.go:180", after := #[{ on := 0, ground := Ground.data }, { on := 1, ground := Ground.data }], guard := none }, { dst := some 40, op := Op.move (Operand.tmp 10), type := 3, pos := "law.go:180", after := #[], guard := none }, { dst := some 41, op := Op.unOp UnOp.neg 3 (Operand.tmp 40), type := 3, pos := "law.go:180", after := #[{ on := 3, ground := Ground.data }], guard := none }, { dst := some 42, op := Op.binOp BinOp.neq 3 (Operand.tmp 39) (Operand.tmp 41) 3, type := 4, pos := "law.go:180", after := #[{ on := 2, ground := Ground.data }, { on := 4, ground := Ground.data }], guard := none }, { dst := some 43, op := Op.move (Operand.tmp 42), type := 4, pos := "law.go:180", after := #[{ on := 5, ground := Ground.data }, { on := 2, ground := Ground.chain }], guard := none }, { dst := some 44, op := Op.load 30 (Operand.tmp 7), type := 30, pos := "law.go:180", after := #[{ on := 6, ground := Ground.guard }], guard := some (6, false) }, { dst := some 45, op := Op.load 30 (Operand.tmp 7), type := 30, pos := "law.go:180", after := #[{ on := 6, ground := Ground.guard }], guard := some (6, false) }, { dst := some 46, op := Op.call { callee := Callee.value (Operand.func 36), args := #[Operand.tmp 44, Operand.tmp 45], argTypes := #[30, 30] }, type := 3, pos := "law.go:180", after := #[{ on := 7, ground := Ground.data }, { on := 8, ground := Ground.data }, { on := 6, ground := Ground.chain }, { on := 6, ground := Ground.guard }], guard := some (6, false) }, { dst := some 47, op := Op.binOp BinOp.neq 3 (Operand.tmp 46) (Operand.const (Value.int IntKind.i64 0)) 3, type := 4, pos := "law.go:180", after := #[{ on := 9, ground := Ground.data }, { on := 6, ground := Ground.guard }], guard := some (6, false) }, { dst := some 48, op := Op.pick (Operand.tmp 43) (Operand.const (Value.bool true)) (Operand.tmp 47), type := 4, pos := "law.go:180", after := #[{ on := 6, ground := Ground.data }, { on := 10, ground := Ground.data }], guard := none }, { dst := some 49, op := Op.move (Operand.tmp 48), type := 4, pos := "law.go:180", after := #[{ on := 11, ground := Ground.data }, { on := 9, ground := Ground.chain }], guard := none }, { dst := some 50, op := Op.load 30 (Operand.tmp 7), type := 30, pos := "law.go:180", after := #[{ on := 12, ground := Ground.guard }], guard := some (12, false) }, { dst := some 51, op := Op.call { callee := Callee.value (Operand.func 38), args := #[Operand.tmp 50], argTypes := #[30] }, type := 30, pos := "law.go:180", after := #[{ on := 13, ground := Ground.data }, { on := 12, ground := Ground.chain }, { on := 12, ground := Ground.guard }], guard := some (12, false) }, { dst := some 52, op := Op.load 30 (Operand.tmp 7), type := 30, pos := "law.go:180", after := #[{ on := 12, ground := Ground.guard }], guard := some (12, false) }, { dst := some 53, op := Op.call { callee := Callee.value (Operand.func 37), args := #[Operand.tmp 51, Operand.tmp 52], argTypes := #[30, 30] }, type := 4, pos := "law.go:180", after := #[{ on := 14, ground := Ground.data }, { on := 15, ground := Ground.data }, { on := 14, ground := Ground.chain }, { on := 12, ground := Ground.guard }], guard := some (12, false) }, { dst := some 54, op := Op.unOp UnOp.not 4 (Operand.tmp 53), type := 4, pos := "law.go:180", after := #[{ on := 16, ground := Ground.data }, { on := 12, ground := Ground.guard }], guard := some (12, false) }, { dst := some 55, op := Op.pick (Operand.tmp 49) (Operand.const (Value.bool true)) (Operand.tmp 54), type := 4, pos := "law.go:180", after := #[{ on := 12, ground := Ground.data }, { on := 17, ground := Ground.data }], guard := none }] true).wp Try.prog Q a w := by
  have hmx : Try.prog.follows .mixedOrders = true := by kernel_rfl
  refine region_detR 19 hmx hr (by kernel_rfl) ?_
  refine DetR.is (o := { dst := some 37, op := Op.load 30 (Operand.tmp 8), type := 30, pos := "law.go:180", after := #[], guard := none }) (u := ?ux13) rfl (by decide) (fun T w' hb hd hB K hK => ?sx13) ?rx13
  case sx13 =>
    have e8 := (hB 8 (by kernel_rfl)).trans hT8
    have q8_0 : w'.cell? ⟨gb, 0, none⟩ = some (yf) := (blk_cell (blk_below hX8 hb) 0).trans rfl
    have q8_1 : w'.cell? ⟨gb, 1, none⟩ = some (yl) := (blk_cell (blk_below hX8 hb) 1).trans rfl
    rw [if_pos (wanted_none _ rfl)]
    clear hd hB
    go_simp
    exact hK _ (Below.refl _ _)
  refine DetR.is (o := { dst := some 38, op := Op.load 30 (Operand.tmp 7), type := 30, pos := "law.go:180", after := #[], guard := none }) (u := ?ux14) rfl (by decide) (fun T w' hb hd hB K hK => ?sx14) ?rx14
  case sx14 =>
    have e7 := (hB 7 (by kernel_rfl)).trans hT7
    have q7_0 : w'.cell? ⟨ga, 0, none⟩ = some (xf) := (blk_cell (blk_below hX7 hb) 0).trans rfl
    have q7_1 : w'.cell? ⟨ga, 1, none⟩ = some (xl) := (blk_cell (blk_below hX7 hb) 1).trans rfl
    rw [if_pos (wanted_none _ rfl)]
    clear hd hB
    go_simp
    exact hK _ (Below.refl _ _)
  refine DetR.is (o := { dst := some 39, op := Op.call { callee := Callee.value (Operand.func 36), args := #[Operand.tmp 37, Operand.tmp 38], argTypes := #[30, 30] }, type := 3, pos := "law.go:180", after := #[{ on := 0, ground := Ground.data }, { on := 1, ground := Ground.data }], guard := none }) (u := ?ux15) rfl (by decide) (fun T w' hb hd hB K hK => ?sx15) ?rx15
  case sx15 =>
    have e37 := hd 0 37 _ (by decide) (by kernel_rfl) rfl rfl
    replace e37 : T.getD 37 undef = _ := e37
    have e38 := hd 1 38 _ (by decide) (by kernel_rfl) rfl rfl
    replace e38 : T.getD 38 undef = _ := e38
    rw [if_pos (wanted_none _ rfl)]
    have hcl := hF2 w' hb
    clear hd hB
    go_simp
    go_at_call 36
    refine hcl.mono ?_
    rintro e w2 ⟨rfl, h2⟩
    exact hK _ h2
  refine DetR.is (o := { dst := some 40, op := Op.move (Operand.tmp 10), type := 3, pos := "law.go:180", after := #[], guard := none }) (u := ?ux16) rfl (by decide) (fun T w' hb hd hB K hK => ?sx16) ?rx16
  case sx16 =>
    have e10 := (hB 10 (by kernel_rfl)).trans hT10
    rw [if_pos (wanted_none _ rfl)]
    clear hd hB
    go_simp
    exact hK _ (Below.refl _ _)
  refine DetR.is (o := { dst := some 41, op := Op.unOp UnOp.neg 3 (Operand.tmp 40), type := 3, pos := "law.go:180", after := #[{ on := 3, ground := Ground.data }], guard := none }) (u := ?ux17) rfl (by decide) (fun T w' hb hd hB K hK => ?sx17) ?rx17
  case sx17 =>
    have e40 := hd 3 40 _ (by decide) (by kernel_rfl) rfl rfl
    replace e40 : T.getD 40 undef = _ := e40
    rw [if_pos (wanted_none _ rfl)]
    clear hd hB
    go_simp
    exact hK _ (Below.refl _ _)
  refine DetR.is (o := { dst := some 42, op := Op.binOp BinOp.neq 3 (Operand.tmp 39) (Operand.tmp 41) 3, type := 4, pos := "law.go:180", after := #[{ on := 2, ground := Ground.data }, { on := 4, ground := Ground.data }], guard := none }) (u := .bool false) rfl (by decide) (fun T w' hb hd hB K hK => ?sx18) ?rx18
  case sx18 =>
    have e39 := hd 2 39 _ (by decide) (by kernel_rfl) rfl rfl
    replace e39 : T.getD 39 undef = _ := e39
    have e41 := hd 4 41 _ (by decide) (by kernel_rfl) rfl rfl
    replace e41 : T.getD 41 undef = _ := e41
    rw [if_pos (wanted_none _ rfl)]
    clear hd hB
    go_simp
    have hq : (pn != IntKind.i64.wrap (-p)) = false := by rw [bne_eq_false_iff_eq, i64_w]; unfold wrap64; omega
    first | rw [hq] | (subst hpn; rw [hq])
    exact hK _ (Below.refl _ _)
  refine DetR.is (o := { dst := some 43, op := Op.move (Operand.tmp 42), type := 4, pos := "law.go:180", after := #[{ on := 5, ground := Ground.data }, { on := 2, ground := Ground.chain }], guard := none }) (u := ?ux19) rfl (by decide) (fun T w' hb hd hB K hK => ?sx19) ?rx19
  case sx19 =>
    have e42 := hd 5 42 _ (by decide) (by kernel_rfl) rfl rfl
    replace e42 : T.getD 42 undef = _ := e42
    rw [if_pos (wanted_none _ rfl)]
    clear hd hB
    go_simp
    exact hK _ (Below.refl _ _)
  refine DetR.is (o := { dst := some 44, op := Op.load 30 (Operand.tmp 7), type := 30, pos := "law.go:180", after := #[{ on := 6, ground := Ground.guard }], guard := some (6, false) }) (u := ?ux20) rfl (by decide) (fun T w' hb hd hB K hK => ?sx20) ?rx20
  case sx20 =>
    have e7 := (hB 7 (by kernel_rfl)).trans hT7
    have q7_0 : w'.cell? ⟨ga, 0, none⟩ = some (xf) := (blk_cell (blk_below hX7 hb) 0).trans rfl
    have q7_1 : w'.cell? ⟨ga, 1, none⟩ = some (xl) := (blk_cell (blk_below hX7 hb) 1).trans rfl
    have eg := hd 6 43 _ (by decide) (by kernel_rfl) rfl rfl
    replace eg : T.getD 43 undef = .bool false := eg
    rw [if_pos (wanted_yes 6 43 false rfl rfl eg)]
    clear eg
    clear hd hB
    go_simp
    exact hK _ (Below.refl _ _)
  refine DetR.is (o := { dst := some 45, op := Op.load 30 (Operand.tmp 7), type := 30, pos := "law.go:180", after := #[{ on := 6, ground := Ground.guard }], guard := some (6, false) }) (u := ?ux21) rfl (by decide) (fun T w' hb hd hB K hK => ?sx21) ?rx21
  case sx21 =>
    have e7 := (hB 7 (by kernel_rfl)).trans hT7
    have q7_0 : w'.cell? ⟨ga, 0, none⟩ = some (xf) := (blk_cell (blk_below hX7 hb) 0).trans rfl
    have q7_1 : w'.cell? ⟨ga, 1, none⟩ = some (xl) := (blk_cell (blk_below hX7 hb) 1).trans rfl
    have eg := hd 6 43 _ (by decide) (by kernel_rfl) rfl rfl
    replace eg : T.getD 43 undef = .bool false := eg
    rw [if_pos (wanted_yes 6 43 false rfl rfl eg)]
    clear eg
    clear hd hB
    go_simp
    exact hK _ (Below.refl _ _)
  refine DetR.is (o := { dst := some 46, op := Op.call { callee := Callee.value (Operand.func 36), args := #[Operand.tmp 44, Operand.tmp 45], argTypes := #[30, 30] }, type := 3, pos := "law.go:180", after := #[{ on := 7, ground := Ground.data }, { on := 8, ground := Ground.data }, { on := 6, ground := Ground.chain }, { on := 6, ground := Ground.guard }], guard := some (6, false) }) (u := ?ux22) rfl (by decide) (fun T w' hb hd hB K hK => ?sx22) ?rx22
  case sx22 =>
    have e44 := hd 7 44 _ (by decide) (by kernel_rfl) rfl rfl
    replace e44 : T.getD 44 undef = _ := e44
    have e45 := hd 8 45 _ (by decide) (by kernel_rfl) rfl rfl
    replace e45 : T.getD 45 undef = _ := e45
    have eg := hd 6 43 _ (by decide) (by kernel_rfl) rfl rfl
    replace eg : T.getD 43 undef = .bool false := eg
    rw [if_pos (wanted_yes 6 43 false rfl rfl eg)]
    clear eg
    have hcl := hF9 w' hb
    clear hd hB
    go_simp
    go_at_call 36
    refine hcl.mono ?_
    rintro e w2 ⟨rfl, h2⟩
    exact hK _ h2
  refine DetR.is (o := { dst := some 47, op := Op.binOp BinOp.neq 3 (Operand.tmp 46) (Operand.const (Value.int IntKind.i64 0)) 3, type := 4, pos := "law.go:180", after := #[{ on := 9, ground := Ground.data }, { on := 6, ground := Ground.guard }], guard := some (6, false) }) (u := .bool false) rfl (by decide) (fun T w' hb hd hB K hK => ?sx23) ?rx23
  case sx23 =>
    have e46 := hd 9 46 _ (by decide) (by kernel_rfl) rfl rfl
    replace e46 : T.getD 46 undef = _ := e46
    have eg := hd 6 43 _ (by decide) (by kernel_rfl) rfl rfl
    replace eg : T.getD 43 undef = .bool false := eg
    rw [if_pos (wanted_yes 6 43 false rfl rfl eg)]
    clear eg
    clear hd hB
    go_simp
    exact hK _ (Below.refl _ _)
  refine DetR.is (o := { dst := some 48, op := Op.pick (Operand.tmp 43) (Operand.const (Value.bool true)) (Operand.tmp 47), type := 4, pos := "law.go:180", after := #[{ on := 6, ground := Ground.data }, { on := 10, ground := Ground.data }], guard := none }) (u := .bool false) rfl (by decide) (fun T w' hb hd hB K hK => ?sx24) ?rx24
  case sx24 =>
    have e43 := hd 6 43 _ (by decide) (by kernel_rfl) rfl rfl
    replace e43 : T.getD 43 undef = _ := e43
    have e47 := hd 10 47 _ (by decide) (by kernel_rfl) rfl rfl
    replace e47 : T.getD 47 undef = _ := e47
    rw [if_pos (wanted_none _ rfl)]
    clear hd hB
    go_simp
    exact hK _ (Below.refl _ _)
  refine DetR.is (o := { dst := some 49, op := Op.move (Operand.tmp 48), type := 4, pos := "law.go:180", after := #[{ on := 11, ground := Ground.data }, { on := 9, ground := Ground.chain }], guard := none }) (u := ?ux25) rfl (by decide) (fun T w' hb hd hB K hK => ?sx25) ?rx25
  case sx25 =>
    have e48 := hd 11 48 _ (by decide) (by kernel_rfl) rfl rfl
    replace e48 : T.getD 48 undef = _ := e48
    rw [if_pos (wanted_none _ rfl)]
    clear hd hB
    go_simp
    exact hK _ (Below.refl _ _)
  refine DetR.is (o := { dst := some 50, op := Op.load 30 (Operand.tmp 7), type := 30, pos := "law.go:180", after := #[{ on := 12, ground := Ground.guard }], guard := some (12, false) }) (u := ?ux26) rfl (by decide) (fun T w' hb hd hB K hK => ?sx26) ?rx26
  case sx26 =>
    have e7 := (hB 7 (by kernel_rfl)).trans hT7
    have q7_0 : w'.cell? ⟨ga, 0, none⟩ = some (xf) := (blk_cell (blk_below hX7 hb) 0).trans rfl
    have q7_1 : w'.cell? ⟨ga, 1, none⟩ = some (xl) := (blk_cell (blk_below hX7 hb) 1).trans rfl
    have eg := hd 12 49 _ (by decide) (by kernel_rfl) rfl rfl
    replace eg : T.getD 49 undef = .bool false := eg
    rw [if_pos (wanted_yes 12 49 false rfl rfl eg)]
    clear eg
    clear hd hB
    go_simp
    exact hK _ (Below.refl _ _)
  refine DetR.cons (o := { dst := some 51, op := Op.call { callee := Callee.value (Operand.func 38), args := #[Operand.tmp 50], argTypes := #[30] }, type := 30, pos := "law.go:180", after := #[{ on := 13, ground := Ground.data }, { on := 12, ground := Ground.chain }, { on := 12, ground := Ground.guard }], guard := some (12, false) }) (TermTold k30 cf cl) rfl (by decide) (TermTold.grows _ _ _) (fun T w' hb hd hB K hK => ?sx27) ?rx27
  case sx27 =>
    have e50 := hd 13 50 _ (by decide) (by kernel_rfl) rfl rfl
    replace e50 : T.getD 50 undef = _ := e50
    have eg := hd 12 49 _ (by decide) (by kernel_rfl) rfl rfl
    replace eg : T.getD 49 undef = .bool false := eg
    rw [if_pos (wanted_yes 12 49 false rfl rfl eg)]
    clear eg
    have hcl := hF14 w' hb
    clear hd hB
    go_simp
    go_at_call 38
    refine hcl.mono ?_
    rintro e w2 ⟨u, rfl, h1, h2⟩
    exact hK _ _ h2 h1
  refine DetR.is (o := { dst := some 52, op := Op.load 30 (Operand.tmp 7), type := 30, pos := "law.go:180", after := #[{ on := 12, ground := Ground.guard }], guard := some (12, false) }) (u := ?ux28) rfl (by decide) (fun T w' hb hd hB K hK => ?sx28) ?rx28
  case sx28 =>
    have e7 := (hB 7 (by kernel_rfl)).trans hT7
    have q7_0 : w'.cell? ⟨ga, 0, none⟩ = some (xf) := (blk_cell (blk_below hX7 hb) 0).trans rfl
    have q7_1 : w'.cell? ⟨ga, 1, none⟩ = some (xl) := (blk_cell (blk_below hX7 hb) 1).trans rfl
    have eg := hd 12 49 _ (by decide) (by kernel_rfl) rfl rfl
    replace eg : T.getD 49 undef = .bool false := eg
    rw [if_pos (wanted_yes 12 49 false rfl rfl eg)]
    clear eg
    clear hd hB
    go_simp
    exact hK _ (Below.refl _ _)
  refine DetR.is (o := { dst := some 53, op := Op.call { callee := Callee.value (Operand.func 37), args := #[Operand.tmp 51, Operand.tmp 52], argTypes := #[30, 30] }, type := 4, pos := "law.go:180", after := #[{ on := 14, ground := Ground.data }, { on := 15, ground := Ground.data }, { on := 14, ground := Ground.chain }, { on := 12, ground := Ground.guard }], guard := some (12, false) }) (u := ?ux29) rfl (by decide) (fun T w' hb hd hB K hK => ?sx29) ?rx29
  case sx29 =>
    obtain ⟨A51, c51, e51, hl51, hC51⟩ := (hd 14 51 _ (by decide) (by kernel_rfl) rfl rfl)
    have e52 := hd 15 52 _ (by decide) (by kernel_rfl) rfl rfl
    replace e52 : T.getD 52 undef = _ := e52
    have eg := hd 12 49 _ (by decide) (by kernel_rfl) rfl rfl
    replace eg : T.getD 49 undef = .bool false := eg
    rw [if_pos (wanted_yes 12 49 false rfl rfl eg)]
    clear eg
    have hcl := hS w' A51 c51 hb hl51 hC51
    clear hd hB
    go_simp
    go_at_call 37
    refine hcl.mono ?_
    rintro e w2 ⟨rfl, h2⟩
    exact hK _ h2
  refine DetR.is (o := { dst := some 54, op := Op.unOp UnOp.not 4 (Operand.tmp 53), type := 4, pos := "law.go:180", after := #[{ on := 16, ground := Ground.data }, { on := 12, ground := Ground.guard }], guard := some (12, false) }) (u := .bool false) rfl (by decide) (fun T w' hb hd hB K hK => ?sx30) ?rx30
  case sx30 =>
    have e53 := hd 16 53 _ (by decide) (by kernel_rfl) rfl rfl
    replace e53 : T.getD 53 undef = _ := e53
    have eg := hd 12 49 _ (by decide) (by kernel_rfl) rfl rfl
    replace eg : T.getD 49 undef = .bool false := eg
    rw [if_pos (wanted_yes 12 49 false rfl rfl eg)]
    clear eg
    clear hd hB
    go_simp
    exact hK _ (Below.refl _ _)
  refine DetR.is (o := { dst := some 55, op := Op.pick (Operand.tmp 49) (Operand.const (Value.bool true)) (Operand.tmp 54), type := 4, pos := "law.go:180", after := #[{ on := 12, ground := Ground.data }, { on := 17, ground := Ground.data }], guard := none }) (u := .bool false) rfl (by decide) (fun T w' hb hd hB K hK => ?sx31) ?rx31
  case sx31 =>
    have e49 := hd 12 49 _ (by decide) (by kernel_rfl) rfl rfl
    replace e49 : T.getD 49 undef = _ := e49
    have e54 := hd 17 54 _ (by decide) (by kernel_rfl) rfl rfl
    replace e54 : T.getD 54 undef = _ := e54
    rw [if_pos (wanted_none _ rfl)]
    clear hd hB
    go_simp
    exact hK _ (Below.refl _ _)
  refine DetR.done [some 37, some 38, some 39, some 40, some 41, some 42, some 43, some 44, some 45, some 46, some 47, some 48, some 49, some 50, some 51, some 52, some 53, some 54, some 55] (by kernel_rfl) rfl (by kernel_rfl) ?_
  intro v w' hb hv
  exact hK v w' hb (hv 18 _ (by decide) rfl)

set_option maxHeartbeats 8000000 in
set_option maxRecDepth 100000 in
theorem TermOrder_walk (a b d : S24) (A : Option Addr) (c : Nat) (A' : Option Addr) (c' : Nat) (A2 : Option Addr) (c2 : Nat) (w : World)
    (hA : k24.C w A a.f1.length a.f1) (hc : a.f1.length ≤ c) (hA' : k24.C w A' b.f1.length b.f1) (hc' : b.f1.length ≤ c') (hA2 : k24.C w A2 d.f1.length d.f1) (hc2 : d.f1.length ≤ c2) :
    Calls Try.prog 5 #[.agg #[.int .i64 a.f0, .slice A a.f1.length c], .agg #[.int .i64 b.f0, .slice A' b.f1.length c'], .agg #[.int .i64 d.f0, .slice A2 d.f1.length c2]] w fun e w' => e = .returned (.bool true) ∧ Below w.heap.size w w' := by
  have hmx : Try.prog.follows .mixedOrders = true := by kernel_rfl
  obtain ⟨ok, hFine, hok⟩ := Fine_spec [a, b, d] (by simp)
  obtain ⟨kF, hF⟩ := hFine.rounds
  have hbA : Aside0 (∀ w1, Below w.heap.size w w1 → k24.C w1 A a.f1.length a.f1) := ⟨fun w1 h => Kd.C_below hA h⟩
  have hbB : Aside0 (∀ w1, Below w.heap.size w w1 → k24.C w1 A' b.f1.length b.f1) := ⟨fun w1 h => Kd.C_below hA' h⟩
  have hbD : Aside0 (∀ w1, Below w.heap.size w w1 → k24.C w1 A2 d.f1.length d.f1) := ⟨fun w1 h => Kd.C_below hA2 h⟩
  clear hA hA' hA2 hFine
  go_enter Try.func5, Try.ntmps5
  cases ok with
  | false =>
    go_wp2_with (first | (go_at_call 20; refine (soriteslaw06_alive.calls true _ alive06).mono ?_; rintro e w1 ⟨rfl, hb1⟩; have hs1 := hb1.size; simp only [World.size_alloc] at hs1; have hB1 : Below w.heap.size w w1 := (below_alloc (below_alloc (below_alloc (Below.refl _ _) _) _) _).trans (hb1.mono (by simp; omega)); have hg0 : w1.heap[w.heap.size]? = some (.cells #[.int .i64 a.f0, .slice A a.f1.length c] 24 (0, 0)) := blk_below (blk_alloc (blk_alloc (heap_alloc_new _ _) _) _) hb1; have hg1 : w1.heap[w.heap.size + 1]? = some (.cells #[.int .i64 b.f0, .slice A' b.f1.length c'] 24 (0, 0)) := blk_below (blk_alloc (by have := heap_alloc_new (w.alloc (.cells #[.int .i64 a.f0, .slice A a.f1.length c] 24)) (.cells #[.int .i64 b.f0, .slice A' b.f1.length c'] 24); rw [World.size_alloc] at this; exact this) _) hb1; have hg2 : w1.heap[w.heap.size + 1 + 1]? = some (.cells #[.int .i64 d.f0, .slice A2 d.f1.length c2] 24 (0, 0)) := blk_below (by have := heap_alloc_new ((w.alloc (.cells #[.int .i64 a.f0, .slice A a.f1.length c] 24)).alloc (.cells #[.int .i64 b.f0, .slice A' b.f1.length c'] 24)) (.cells #[.int .i64 d.f0, .slice A2 d.f1.length c2] 24); rw [World.size_alloc, World.size_alloc] at this; exact this) hb1; have hx0 : w1.cell? ⟨w.heap.size, 0, none⟩ = some (.int .i64 a.f0) := (blk_cell hg0 0).trans rfl; have hx1 : w1.cell? ⟨w.heap.size, 1, none⟩ = some (.slice A a.f1.length c) := (blk_cell hg0 1).trans rfl; have hy0 : w1.cell? ⟨w.heap.size + 1, 0, none⟩ = some (.int .i64 b.f0) := (blk_cell hg1 0).trans rfl; have hy1 : w1.cell? ⟨w.heap.size + 1, 1, none⟩ = some (.slice A' b.f1.length c') := (blk_cell hg1 1).trans rfl; have hz0 : w1.cell? ⟨w.heap.size + 1 + 1, 0, none⟩ = some (.int .i64 d.f0) := (blk_cell hg2 0).trans rfl; have hz1 : w1.cell? ⟨w.heap.size + 1 + 1, 1, none⟩ = some (.slice A2 d.f1.length c2) := (blk_cell hg2 1).trans rfl) | (go_at_call 21; refine (soriteslaw06_Fine.calls kF _ 3 [a, b, d] _ _ (C3 k24 rfl (K24 (hbA.out _ (below_alloc hB1 _)) hc) (K24 (hbB.out _ (below_alloc hB1 _)) hc') (K24 (hbD.out _ (below_alloc hB1 _)) hc2) (heap_alloc_new _ _)) (by simp) hF).mono ?_; rintro e w2 ⟨rfl, hb2⟩; have hB2 : Below w.heap.size w w2 := (below_alloc hB1 _).trans (hb2.mono (by simp; omega)); have hh0 := blk_below (blk_alloc hg0 _) hb2; have hh1 := blk_below (blk_alloc hg1 _) hb2; have hh2 := blk_below (blk_alloc hg2 _) hb2))
    go_ret
    exact ⟨rfl, hB2⟩
  | true =>
    go_wp2_with (first | (go_at_call 20; refine (soriteslaw06_alive.calls true _ alive06).mono ?_; rintro e w1 ⟨rfl, hb1⟩; have hs1 := hb1.size; simp only [World.size_alloc] at hs1; have hB1 : Below w.heap.size w w1 := (below_alloc (below_alloc (below_alloc (Below.refl _ _) _) _) _).trans (hb1.mono (by simp; omega)); have hg0 : w1.heap[w.heap.size]? = some (.cells #[.int .i64 a.f0, .slice A a.f1.length c] 24 (0, 0)) := blk_below (blk_alloc (blk_alloc (heap_alloc_new _ _) _) _) hb1; have hg1 : w1.heap[w.heap.size + 1]? = some (.cells #[.int .i64 b.f0, .slice A' b.f1.length c'] 24 (0, 0)) := blk_below (blk_alloc (by have := heap_alloc_new (w.alloc (.cells #[.int .i64 a.f0, .slice A a.f1.length c] 24)) (.cells #[.int .i64 b.f0, .slice A' b.f1.length c'] 24); rw [World.size_alloc] at this; exact this) _) hb1; have hg2 : w1.heap[w.heap.size + 1 + 1]? = some (.cells #[.int .i64 d.f0, .slice A2 d.f1.length c2] 24 (0, 0)) := blk_below (by have := heap_alloc_new ((w.alloc (.cells #[.int .i64 a.f0, .slice A a.f1.length c] 24)).alloc (.cells #[.int .i64 b.f0, .slice A' b.f1.length c'] 24)) (.cells #[.int .i64 d.f0, .slice A2 d.f1.length c2] 24); rw [World.size_alloc, World.size_alloc] at this; exact this) hb1; have hx0 : w1.cell? ⟨w.heap.size, 0, none⟩ = some (.int .i64 a.f0) := (blk_cell hg0 0).trans rfl; have hx1 : w1.cell? ⟨w.heap.size, 1, none⟩ = some (.slice A a.f1.length c) := (blk_cell hg0 1).trans rfl; have hy0 : w1.cell? ⟨w.heap.size + 1, 0, none⟩ = some (.int .i64 b.f0) := (blk_cell hg1 0).trans rfl; have hy1 : w1.cell? ⟨w.heap.size + 1, 1, none⟩ = some (.slice A' b.f1.length c') := (blk_cell hg1 1).trans rfl; have hz0 : w1.cell? ⟨w.heap.size + 1 + 1, 0, none⟩ = some (.int .i64 d.f0) := (blk_cell hg2 0).trans rfl; have hz1 : w1.cell? ⟨w.heap.size + 1 + 1, 1, none⟩ = some (.slice A2 d.f1.length c2) := (blk_cell hg2 1).trans rfl) | (go_at_call 21; refine (soriteslaw06_Fine.calls kF _ 3 [a, b, d] _ _ (C3 k24 rfl (K24 (hbA.out _ (below_alloc hB1 _)) hc) (K24 (hbB.out _ (below_alloc hB1 _)) hc') (K24 (hbD.out _ (below_alloc hB1 _)) hc2) (heap_alloc_new _ _)) (by simp) hF).mono ?_; rintro e w2 ⟨rfl, hb2⟩; have hB2 : Below w.heap.size w w2 := (below_alloc hB1 _).trans (hb2.mono (by simp; omega)); have hh0 := blk_below (blk_alloc hg0 _) hb2; have hh1 := blk_below (blk_alloc hg1 _) hb2; have hh2 := blk_below (blk_alloc hg2 _) hb2))
    have hoka := hok trivial a (by simp)
    have hokb := hok trivial b (by simp)
    have hokd := hok trivial d (by simp)
    refine of_three (x0 := a) (x1 := b) (x2 := d) (g0 := w.heap.size) (g1 := w.heap.size + 1) (g2 := w.heap.size + 1 + 1) (by kernel_rfl) (by kernel_rfl) rfl hh0 (hbA.out _ hB2) hc hoka.1 rfl hh1 (hbB.out _ hB2) hc' hokb.1 rfl hh2 (hbD.out _ hB2) hc2 hokd.1 ?_
    intro w3 X0 q0 h0 X1 q1 h1 X2 q2 h2 hb3 hge0 hx0' hq0 hC0 hge1 hx1' hq1 hC1 hge2 hx2' hq2 hC2
    have HB3 := Aside0.mk (hB2.trans (hb3.mono hB2.size))
    have HC0 := Aside0.mk hC0
    have HC1 := Aside0.mk hC1
    have HC2 := Aside0.mk hC2
    have HX0 := Aside0.mk hx0'
    have HX1 := Aside0.mk hx1'
    have HX2 := Aside0.mk hx2'
    -- the plain facts
    have hna := Nat.le_trans (nodes_le a) hoka.2
    have hnb := Nat.le_trans (nodes_le b) hokb.2
    have hanti := cmp_anti a b
    have hrg := cmp_range a b
    have htr := cmp_trans a b d
    have hself := Cmp_of a a
    rw [cmp_self a] at hself
    obtain ⟨kc, hcl⟩ := (Clone_spec a hoka.1).rounds
    have hsc := Same_of (cloneT a) a
    rw [cmp_clone a] at hsc
    have hcp := Cmp_of a b
    have hcq := Cmp_of b d
    have hcr := Cmp_of a d
    have hcn := Cmp_of b a
    rw [hanti] at hcn
    obtain ⟨p, hp⟩ : ∃ p, p = cmpT a b := ⟨_, rfl⟩
    obtain ⟨q, hq⟩ : ∃ q, q = cmpT b d := ⟨_, rfl⟩
    obtain ⟨r, hr⟩ : ∃ r, r = cmpT a d := ⟨_, rfl⟩
    rw [← hp] at hrg htr hcp hcn
    rw [← hq] at htr hcq
    rw [← hr] at htr hcr
    have hsv : term_Same.f (-3) [a, b] (-3) [] = some true := by
      have := Same_of ⟨-3, [a, b]⟩ ⟨-3, []⟩
      rw [this]; simp [cmpT, cmpI]
    have hzv : term_Size.f (-3) [a, b] = some 1 := by simp [term_Size.f, flatP]
    have hcv : term_Compare.f (-1) [] (-2) [] = some (-1) := by simp [term_Compare.f, cmpT, cmpI]
    have FH := Aside0.mk (And.intro hrg htr)
    have FC := Aside0.mk (And.intro hcp (And.intro hcq (And.intro hcr (And.intro hcn hself))))
    have FL := Aside0.mk (And.intro hcl hsc)
    have FV := Aside0.mk (And.intro hsv (And.intro hzv hcv))
    clear hrg htr hcp hcq hcr hcn hself hcl hsc hsv hzv hcv hp hq hr hanti hoka hokb hokd hok hna hnb hbA hbB hbD hC0 hC1 hC2 hx0' hx1' hx2' hb3 hg0 hg1 hg2 hh0 hh1 hh2 hx0 hx1 hy0 hy1 hz0 hz1 hB1 hB2 hb1 hb2 hF hge0 hge1 hge2
    simp only [List.setIfInBounds_toArray, List.set_cons_zero, List.set_cons_succ]
    go_wp2
    refine TermOrder_r6 (p := p) (q := q) (r := r) (by kernel_rfl) rfl HX0.out rfl HX1.out rfl HX2.out ?_ ?_ ?_ ?_
    · intro w1 hb; exact term_Compare.calls _ _ _ a.f1 _ _ _ b.f1 p w1 (Kd.C_below HC0.out hb) hq0 (Kd.C_below HC1.out hb) hq1 FC.out.1
    · intro w1 hb; exact term_Compare.calls _ _ _ b.f1 _ _ _ d.f1 q w1 (Kd.C_below HC1.out hb) hq1 (Kd.C_below HC2.out hb) hq2 FC.out.2.1
    · intro w1 hb; exact term_Compare.calls _ _ _ a.f1 _ _ _ d.f1 r w1 (Kd.C_below HC0.out hb) hq0 (Kd.C_below HC2.out hb) hq2 FC.out.2.2.1
    intro v w4 hb4 hv9 hv10 hv11
    simp only [layL, Nat.reduceAdd, List.setIfInBounds_toArray, List.set_cons_zero, List.set_cons_succ, hv9, hv10, hv11]
    clear hv9 hv10 hv11
    have hb4 := Aside0.mk hb4
    generalize v 0 = y0
    generalize v 1 = y1
    generalize v 2 = y2
    generalize v 3 = y3
    generalize v 4 = y4
    generalize v 5 = y5
    generalize v 6 = y6
    generalize v 7 = y7
    generalize v 8 = y8
    clear v
    go_wp2
    refine TermOrder_r7 (p := p) (pn := -p) (cf := (cloneT a).f0) (cl := (cloneT a).f1) (by kernel_rfl) rfl rfl (blk_below HX0.out hb4.out) rfl (blk_below HX1.out hb4.out) ?_ ?_ ?_ rfl FH.out.1 ?_ ?_
    · intro w1 hb; exact term_Compare.calls _ _ _ b.f1 _ _ _ a.f1 (-p) w1 (Kd.C_below (Kd.C_below HC1.out hb4.out) hb) hq1 (Kd.C_below (Kd.C_below HC0.out hb4.out) hb) hq0 FC.out.2.2.2.1
    · intro w1 hb; exact term_Compare.calls _ _ _ a.f1 _ _ _ a.f1 0 w1 (Kd.C_below (Kd.C_below HC0.out hb4.out) hb) hq0 (Kd.C_below (Kd.C_below HC0.out hb4.out) hb) hq0 FC.out.2.2.2.2
    · intro w1 hb; exact (term_Clone.calls kc _ _ _ a.f1 _ _ w1 (Kd.C_below (Kd.C_below HC0.out hb4.out) hb) hq0 FL.out.1).mono (fun e w2 ⟨v1, h1, h2, h3⟩ => ⟨_, h1, TermTold.of h2, h3⟩)
    · intro w1 A c hb hl hC; exact term_Same.calls _ _ _ _ _ _ _ a.f1 true w1 hC hl (Kd.C_below (Kd.C_below HC0.out hb4.out) hb) hq0 FL.out.2
    intro v w5 hb5 hv18
    simp only [layL, Nat.reduceAdd, List.setIfInBounds_toArray, List.set_cons_zero, List.set_cons_succ, hv18]
    clear hv18
    have HC05 := Aside0.mk (Kd.C_below (Kd.C_below HC0.out hb4.out) hb5)
    have HC15 := Aside0.mk (Kd.C_below (Kd.C_below HC1.out hb4.out) hb5)
    have HX05 := blk_below (blk_below HX0.out hb4.out) hb5
    have HX15 := blk_below (blk_below HX1.out hb4.out) hb5
    have k00 : w5.cell? ⟨h0, 0, none⟩ = some (.int .i64 a.f0) := (blk_cell HX05 0).trans rfl
    have k01 : w5.cell? ⟨h0, 1, none⟩ = some (.slice X0 a.f1.length q0) := (blk_cell HX05 1).trans rfl
    have k10 : w5.cell? ⟨h1, 0, none⟩ = some (.int .i64 b.f0) := (blk_cell HX15 0).trans rfl
    have k11 : w5.cell? ⟨h1, 1, none⟩ = some (.slice X1 b.f1.length q1) := (blk_cell HX15 1).trans rfl
    have HB5 := Aside0.mk ((HB3.out.trans (hb4.out.mono HB3.out.size)).trans (hb5.mono (Nat.le_trans HB3.out.size hb4.out.size)))
    clear HC0 HC1 HC2 HX0 HX1 HX2 HX05 HX15 hb4 hb5 HB3 FC FL
    generalize v 0 = y10
    generalize v 1 = y11
    generalize v 2 = y12
    generalize v 3 = y13
    generalize v 4 = y14
    generalize v 5 = y15
    generalize v 6 = y16
    generalize v 7 = y17
    generalize v 8 = y18
    generalize v 9 = y19
    generalize v 10 = y20
    generalize v 11 = y21
    generalize v 12 = y22
    generalize v 13 = y23
    generalize v 14 = y24
    generalize v 15 = y25
    generalize v 16 = y26
    generalize v 17 = y27
    clear v
    by_cases hp : p ≤ 0
    · have hdp : decide (p ≤ 0) = true := decide_eq_true hp
      by_cases hq : q ≤ 0
      · have hdq : decide (q ≤ 0) = true := decide_eq_true hq
        obtain ⟨hr0, hri⟩ := FH.out.2 hp hq
        have hr1 : decide (0 < r) = false := decide_eq_false (by omega)
        by_cases hrz : r = 0
        · obtain ⟨hpz, hqz⟩ := hri.1 hrz
          subst hpz hqz hrz
          clear hri hr0 hr1 hp hq hdp hdq FH
          go_wp2_with (first | (go_at_call 37; have hCv := Aside0.mk (show k30.C ((w5.alloc (.cells #[.int .i64 a.f0, .slice X0 a.f1.length q0, .int .i64 b.f0, .slice X1 b.f1.length q1] 30)).alloc (.cells #[.int .i64 (-3), .slice (some ⟨w5.heap.size, 0, none⟩) 2 2] 30)) (some ⟨w5.heap.size, 0, none⟩) 2 [a, b] from (C2 k30 rfl (K30 (Kd.C_below HC05.out (below_alloc (below_alloc (Below.refl _ _) _) _)) hq0) (K30 (Kd.C_below HC15.out (below_alloc (below_alloc (Below.refl _ _) _) _)) hq1) (blk_alloc (heap_alloc_new _ _) _))); refine (term_Same.calls (-3) (some ⟨w5.heap.size, 0, none⟩) 2 [a, b] (-3) none 0 [] true _ hCv.out (by simp) ⟨rfl, Nat.zero_le _, fun h => absurd h (Nat.lt_irrefl _)⟩ (Nat.le_refl _) FV.out.1).mono ?_; rintro e w6 ⟨rfl, hb6⟩; have hbx : w6.heap[w5.heap.size + 1]? = some (.cells #[.int .i64 (-3), .slice (some ⟨w5.heap.size, 0, none⟩) 2 2] 30 (0, 0)) := blk_below (by have := heap_alloc_new (w5.alloc (.cells #[.int .i64 a.f0, .slice X0 a.f1.length q0, .int .i64 b.f0, .slice X1 b.f1.length q1] 30)) (.cells #[.int .i64 (-3), .slice (some ⟨w5.heap.size, 0, none⟩) 2 2] 30); rw [World.size_alloc] at this; exact this) hb6; have j0 : w6.cell? ⟨w5.heap.size + 1, 0, none⟩ = some (.int .i64 (-3)) := (blk_cell hbx 0).trans rfl; have j1 : w6.cell? ⟨w5.heap.size + 1, 1, none⟩ = some (.slice (some ⟨w5.heap.size, 0, none⟩) 2 2) := (blk_cell hbx 1).trans rfl; have hC6 := Aside0.mk (Kd.C_below hCv.out hb6); have hB6 := Aside0.mk ((HB5.out.trans ((below_alloc (below_alloc (Below.refl _ _) _) _ : Below w5.heap.size w5 _).mono HB5.out.size)).trans (hb6.mono (by have := HB5.out.size; simp; omega))); clear hbx hb6 hCv) | (go_at_call 34; refine (term_Size.calls (-3) (some ⟨w5.heap.size, 0, none⟩) 2 [a, b] 1 _ hC6.out (by simp) FV.out.2.1).mono ?_; rintro e w7 ⟨rfl, hb7⟩; have hB7 := Aside0.mk (hB6.out.trans (hb7.mono hB6.out.size)); clear hb7) | (go_at_call 36; refine (term_Compare.calls (-1) none 0 [] (-2) none 0 [] (-1) _ ⟨rfl, Nat.zero_le _, fun h => absurd h (Nat.lt_irrefl _)⟩ (Nat.le_refl _) ⟨rfl, Nat.zero_le _, fun h => absurd h (Nat.lt_irrefl _)⟩ (Nat.le_refl _) FV.out.2.2).mono ?_; rintro e w8 ⟨rfl, hb8⟩; have hB8 := Aside0.mk (hB7.out.trans (hb8.mono hB7.out.size)); clear hb8))
          go_ret
          exact ⟨rfl, hB8.out⟩
        · have hr2 : (r == 0) = false := by simpa using hrz
          clear hri hr0 hp hq hrz FH
          go_wp2_with (first | (go_at_call 37; have hCv := Aside0.mk (show k30.C ((w5.alloc (.cells #[.int .i64 a.f0, .slice X0 a.f1.length q0, .int .i64 b.f0, .slice X1 b.f1.length q1] 30)).alloc (.cells #[.int .i64 (-3), .slice (some ⟨w5.heap.size, 0, none⟩) 2 2] 30)) (some ⟨w5.heap.size, 0, none⟩) 2 [a, b] from (C2 k30 rfl (K30 (Kd.C_below HC05.out (below_alloc (below_alloc (Below.refl _ _) _) _)) hq0) (K30 (Kd.C_below HC15.out (below_alloc (below_alloc (Below.refl _ _) _) _)) hq1) (blk_alloc (heap_alloc_new _ _) _))); refine (term_Same.calls (-3) (some ⟨w5.heap.size, 0, none⟩) 2 [a, b] (-3) none 0 [] true _ hCv.out (by simp) ⟨rfl, Nat.zero_le _, fun h => absurd h (Nat.lt_irrefl _)⟩ (Nat.le_refl _) FV.out.1).mono ?_; rintro e w6 ⟨rfl, hb6⟩; have hbx : w6.heap[w5.heap.size + 1]? = some (.cells #[.int .i64 (-3), .slice (some ⟨w5.heap.size, 0, none⟩) 2 2] 30 (0, 0)) := blk_below (by have := heap_alloc_new (w5.alloc (.cells #[.int .i64 a.f0, .slice X0 a.f1.length q0, .int .i64 b.f0, .slice X1 b.f1.length q1] 30)) (.cells #[.int .i64 (-3), .slice (some ⟨w5.heap.size, 0, none⟩) 2 2] 30); rw [World.size_alloc] at this; exact this) hb6; have j0 : w6.cell? ⟨w5.heap.size + 1, 0, none⟩ = some (.int .i64 (-3)) := (blk_cell hbx 0).trans rfl; have j1 : w6.cell? ⟨w5.heap.size + 1, 1, none⟩ = some (.slice (some ⟨w5.heap.size, 0, none⟩) 2 2) := (blk_cell hbx 1).trans rfl; have hC6 := Aside0.mk (Kd.C_below hCv.out hb6); have hB6 := Aside0.mk ((HB5.out.trans ((below_alloc (below_alloc (Below.refl _ _) _) _ : Below w5.heap.size w5 _).mono HB5.out.size)).trans (hb6.mono (by have := HB5.out.size; simp; omega))); clear hbx hb6 hCv) | (go_at_call 34; refine (term_Size.calls (-3) (some ⟨w5.heap.size, 0, none⟩) 2 [a, b] 1 _ hC6.out (by simp) FV.out.2.1).mono ?_; rintro e w7 ⟨rfl, hb7⟩; have hB7 := Aside0.mk (hB6.out.trans (hb7.mono hB6.out.size)); clear hb7) | (go_at_call 36; refine (term_Compare.calls (-1) none 0 [] (-2) none 0 [] (-1) _ ⟨rfl, Nat.zero_le _, fun h => absurd h (Nat.lt_irrefl _)⟩ (Nat.le_refl _) ⟨rfl, Nat.zero_le _, fun h => absurd h (Nat.lt_irrefl _)⟩ (Nat.le_refl _) FV.out.2.2).mono ?_; rintro e w8 ⟨rfl, hb8⟩; have hB8 := Aside0.mk (hB7.out.trans (hb8.mono hB7.out.size)); clear hb8))
          go_ret
          exact ⟨rfl, hB8.out⟩
      · have hdq : decide (q ≤ 0) = false := decide_eq_false hq
        clear hp hq FH
        go_wp2_with (first | (go_at_call 37; have hCv := Aside0.mk (show k30.C ((w5.alloc (.cells #[.int .i64 a.f0, .slice X0 a.f1.length q0, .int .i64 b.f0, .slice X1 b.f1.length q1] 30)).alloc (.cells #[.int .i64 (-3), .slice (some ⟨w5.heap.size, 0, none⟩) 2 2] 30)) (some ⟨w5.heap.size, 0, none⟩) 2 [a, b] from (C2 k30 rfl (K30 (Kd.C_below HC05.out (below_alloc (below_alloc (Below.refl _ _) _) _)) hq0) (K30 (Kd.C_below HC15.out (below_alloc (below_alloc (Below.refl _ _) _) _)) hq1) (blk_alloc (heap_alloc_new _ _) _))); refine (term_Same.calls (-3) (some ⟨w5.heap.size, 0, none⟩) 2 [a, b] (-3) none 0 [] true _ hCv.out (by simp) ⟨rfl, Nat.zero_le _, fun h => absurd h (Nat.lt_irrefl _)⟩ (Nat.le_refl _) FV.out.1).mono ?_; rintro e w6 ⟨rfl, hb6⟩; have hbx : w6.heap[w5.heap.size + 1]? = some (.cells #[.int .i64 (-3), .slice (some ⟨w5.heap.size, 0, none⟩) 2 2] 30 (0, 0)) := blk_below (by have := heap_alloc_new (w5.alloc (.cells #[.int .i64 a.f0, .slice X0 a.f1.length q0, .int .i64 b.f0, .slice X1 b.f1.length q1] 30)) (.cells #[.int .i64 (-3), .slice (some ⟨w5.heap.size, 0, none⟩) 2 2] 30); rw [World.size_alloc] at this; exact this) hb6; have j0 : w6.cell? ⟨w5.heap.size + 1, 0, none⟩ = some (.int .i64 (-3)) := (blk_cell hbx 0).trans rfl; have j1 : w6.cell? ⟨w5.heap.size + 1, 1, none⟩ = some (.slice (some ⟨w5.heap.size, 0, none⟩) 2 2) := (blk_cell hbx 1).trans rfl; have hC6 := Aside0.mk (Kd.C_below hCv.out hb6); have hB6 := Aside0.mk ((HB5.out.trans ((below_alloc (below_alloc (Below.refl _ _) _) _ : Below w5.heap.size w5 _).mono HB5.out.size)).trans (hb6.mono (by have := HB5.out.size; simp; omega))); clear hbx hb6 hCv) | (go_at_call 34; refine (term_Size.calls (-3) (some ⟨w5.heap.size, 0, none⟩) 2 [a, b] 1 _ hC6.out (by simp) FV.out.2.1).mono ?_; rintro e w7 ⟨rfl, hb7⟩; have hB7 := Aside0.mk (hB6.out.trans (hb7.mono hB6.out.size)); clear hb7) | (go_at_call 36; refine (term_Compare.calls (-1) none 0 [] (-2) none 0 [] (-1) _ ⟨rfl, Nat.zero_le _, fun h => absurd h (Nat.lt_irrefl _)⟩ (Nat.le_refl _) ⟨rfl, Nat.zero_le _, fun h => absurd h (Nat.lt_irrefl _)⟩ (Nat.le_refl _) FV.out.2.2).mono ?_; rintro e w8 ⟨rfl, hb8⟩; have hB8 := Aside0.mk (hB7.out.trans (hb8.mono hB7.out.size)); clear hb8))
        go_ret
        exact ⟨rfl, hB8.out⟩
    · have hdp : decide (p ≤ 0) = false := decide_eq_false hp
      clear hp FH
      go_wp2_with (first | (go_at_call 37; have hCv := Aside0.mk (show k30.C ((w5.alloc (.cells #[.int .i64 a.f0, .slice X0 a.f1.length q0, .int .i64 b.f0, .slice X1 b.f1.length q1] 30)).alloc (.cells #[.int .i64 (-3), .slice (some ⟨w5.heap.size, 0, none⟩) 2 2] 30)) (some ⟨w5.heap.size, 0, none⟩) 2 [a, b] from (C2 k30 rfl (K30 (Kd.C_below HC05.out (below_alloc (below_alloc (Below.refl _ _) _) _)) hq0) (K30 (Kd.C_below HC15.out (below_alloc (below_alloc (Below.refl _ _) _) _)) hq1) (blk_alloc (heap_alloc_new _ _) _))); refine (term_Same.calls (-3) (some ⟨w5.heap.size, 0, none⟩) 2 [a, b] (-3) none 0 [] true _ hCv.out (by simp) ⟨rfl, Nat.zero_le _, fun h => absurd h (Nat.lt_irrefl _)⟩ (Nat.le_refl _) FV.out.1).mono ?_; rintro e w6 ⟨rfl, hb6⟩; have hbx : w6.heap[w5.heap.size + 1]? = some (.cells #[.int .i64 (-3), .slice (some ⟨w5.heap.size, 0, none⟩) 2 2] 30 (0, 0)) := blk_below (by have := heap_alloc_new (w5.alloc (.cells #[.int .i64 a.f0, .slice X0 a.f1.length q0, .int .i64 b.f0, .slice X1 b.f1.length q1] 30)) (.cells #[.int .i64 (-3), .slice (some ⟨w5.heap.size, 0, none⟩) 2 2] 30); rw [World.size_alloc] at this; exact this) hb6; have j0 : w6.cell? ⟨w5.heap.size + 1, 0, none⟩ = some (.int .i64 (-3)) := (blk_cell hbx 0).trans rfl; have j1 : w6.cell? ⟨w5.heap.size + 1, 1, none⟩ = some (.slice (some ⟨w5.heap.size, 0, none⟩) 2 2) := (blk_cell hbx 1).trans rfl; have hC6 := Aside0.mk (Kd.C_below hCv.out hb6); have hB6 := Aside0.mk ((HB5.out.trans ((below_alloc (below_alloc (Below.refl _ _) _) _ : Below w5.heap.size w5 _).mono HB5.out.size)).trans (hb6.mono (by have := HB5.out.size; simp; omega))); clear hbx hb6 hCv) | (go_at_call 34; refine (term_Size.calls (-3) (some ⟨w5.heap.size, 0, none⟩) 2 [a, b] 1 _ hC6.out (by simp) FV.out.2.1).mono ?_; rintro e w7 ⟨rfl, hb7⟩; have hB7 := Aside0.mk (hB6.out.trans (hb7.mono hB6.out.size)); clear hb7) | (go_at_call 36; refine (term_Compare.calls (-1) none 0 [] (-2) none 0 [] (-1) _ ⟨rfl, Nat.zero_le _, fun h => absurd h (Nat.lt_irrefl _)⟩ (Nat.le_refl _) ⟨rfl, Nat.zero_le _, fun h => absurd h (Nat.lt_irrefl _)⟩ (Nat.le_refl _) FV.out.2.2).mono ?_; rintro e w8 ⟨rfl, hb8⟩; have hB8 := Aside0.mk (hB7.out.trans (hb8.mono hB7.out.size)); clear hb8))
      go_ret
      exact ⟨rfl, hB8.out⟩
end Go.Proofs.Ytpfddihcikiofaa.P
