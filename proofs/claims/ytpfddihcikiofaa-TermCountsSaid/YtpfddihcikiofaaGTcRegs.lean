/- Regions of TermCounts that draw their order. PRINTED by gen/gtc12.py. -/
import Derived.Test.YtpfddihcikiofaaGTold
namespace Go.Proofs.Ytpfddihcikiofaa.P
open Go.RowKit Go.Proofs.YtpfddihcikiofaaW.PrintWords Go.Proofs.YtpfddihcikiofaaW.PrintLast Go.Proofs.YtpfddihcikiofaaW.PrintMore
set_option linter.unusedVariables false
set_option linter.unusedSimpArgs false
attribute [local go_sem] max2_int min2_int max_two min_two

set_option maxHeartbeats 4000000 in
set_option maxRecDepth 100000 in
theorem TermCounts_r12 {id : Nat} {a : Act} {w : World} {Q : Exit → Act → World → Prop} {Az Ap Aq : Option Addr} {nz np nq cz cp cq gz ga gb : Nat} {zf zl xf xl yf yl : Value} {tz ta tb : Int}
    (hr : regionOk #[{ dst := some 38, op := Op.move (Operand.tmp 11), type := 25, pos := "law.go:206", after := #[], guard := none }, { dst := some 39, op := Op.call { callee := Callee.builtin Builtin.len, args := #[Operand.tmp 38], argTypes := #[25] }, type := 3, pos := "law.go:206", after := #[{ on := 0, ground := Ground.data }], guard := none }, { dst := some 40, op := Op.move (Operand.tmp 12), type := 25, pos := "law.go:206", after := #[], guard := none }, { dst := some 41, op := Op.call { callee := Callee.builtin Builtin.len, args := #[Operand.tmp 40], argTypes := #[25] }, type := 3, pos := "law.go:206", after := #[{ on := 2, ground := Ground.data }], guard := none }, { dst := some 42, op := Op.move (Operand.tmp 13), type := 25, pos := "law.go:206", after := #[], guard := none }, { dst := some 43, op := Op.call { callee := Callee.builtin Builtin.len, args := #[Operand.tmp 42], argTypes := #[25] }, type := 3, pos := "law.go:206", after := #[{ on := 4, ground := Ground.data }], guard := none }, { dst := some 44, op := Op.binOp BinOp.add 3 (Operand.tmp 41) (Operand.tmp 43) 3, type := 3, pos := "law.go:206", after := #[{ on := 3, ground := Ground.data }, { on := 5, ground := Ground.data }], guard := none }, { dst := some 45, op := Op.binOp BinOp.gtr 3 (Operand.tmp 39) (Operand.tmp 44) 3, type := 4, pos := "law.go:206", after := #[{ on := 1, ground := Ground.data }, { on := 6, ground := Ground.data }], guard := none }, { dst := some 46, op := Op.move (Operand.tmp 45), type := 4, pos := "law.go:206", after := #[{ on := 7, ground := Ground.data }], guard := none }, { dst := some 47, op := Op.move (Operand.tmp 11), type := 25, pos := "law.go:206", after := #[{ on := 8, ground := Ground.guard }], guard := some (8, false) }, { dst := some 48, op := Op.call { callee := Callee.builtin Builtin.len, args := #[Operand.tmp 47], argTypes := #[25] }, type := 3, pos := "law.go:206", after := #[{ on := 9, ground := Ground.data }, { on := 8, ground := Ground.guard }], guard := some (8, false) }, { dst := some 49, op := Op.move (Operand.tmp 12), type := 25, pos := "law.go:206", after := #[{ on := 8, ground := Ground.guard }], guard := some (8, false) }, { dst := some 50, op := Op.call { callee := Callee.builtin Builtin.len, args := #[Operand.tmp 49], argTypes := #[25] }, type := 3, pos := "law.go:206", after := #[{ on := 11, ground := Ground.data }, { on := 8, ground := Ground.guard }], guard := some (8, false) }, { dst := some 51, op := Op.binOp BinOp.lss 3 (Operand.tmp 48) (Operand.tmp 50) 3, type := 4, pos := "law.go:206", after := #[{ on := 10, ground := Ground.data }, { on := 12, ground := Ground.data }, { on := 8, ground := Ground.guard }], guard := some (8, false) }, { dst := some 52, op := Op.pick (Operand.tmp 46) (Operand.const (Value.bool true)) (Operand.tmp 51), type := 4, pos := "law.go:206", after := #[{ on := 8, ground := Ground.data }, { on := 13, ground := Ground.data }], guard := none }, { dst := some 53, op := Op.move (Operand.tmp 52), type := 4, pos := "law.go:206", after := #[{ on := 14, ground := Ground.data }, { on := 8, ground := Ground.chain }], guard := none }, { dst := some 54, op := Op.move (Operand.tmp 11), type := 25, pos := "law.go:206", after := #[{ on := 15, ground := Ground.guard }], guard := some (15, false) }, { dst := some 55, op := Op.call { callee := Callee.builtin Builtin.len, args := #[Operand.tmp 54], argTypes := #[25] }, type := 3, pos := "law.go:206", after := #[{ on := 16, ground := Ground.data }, { on := 15, ground := Ground.guard }], guard := some (15, false) }, { dst := some 56, op := Op.move (Operand.tmp 13), type := 25, pos := "law.go:206", after := #[{ on := 15, ground := Ground.guard }], guard := some (15, false) }, { dst := some 57, op := Op.call { callee := Callee.builtin Builtin.len, args := #[Operand.tmp 56], argTypes := #[25] }, type := 3, pos := "law.go:206", after := #[{ on := 18, ground := Ground.data }, { on := 15, ground := Ground.guard }], guard := some (15, false) }, { dst := some 58, op := Op.binOp BinOp.lss 3 (Operand.tmp 55) (Operand.tmp 57) 3, type := 4, pos := "law.go:206", after := #[{ on := 17, ground := Ground.data }, { on := 19, ground := Ground.data }, { on := 15, ground := Ground.guard }], guard := some (15, false) }, { dst := some 59, op := Op.pick (Operand.tmp 53) (Operand.const (Value.bool true)) (Operand.tmp 58), type := 4, pos := "law.go:206", after := #[{ on := 15, ground := Ground.data }, { on := 20, ground := Ground.data }], guard := none }, { dst := some 60, op := Op.move (Operand.tmp 59), type := 4, pos := "law.go:206", after := #[{ on := 21, ground := Ground.data }, { on := 15, ground := Ground.chain }], guard := none }, { dst := some 61, op := Op.load 30 (Operand.tmp 9), type := 30, pos := "law.go:206", after := #[{ on := 22, ground := Ground.guard }], guard := some (22, false) }, { dst := some 62, op := Op.call { callee := Callee.value (Operand.func 33), args := #[Operand.tmp 61], argTypes := #[30] }, type := 3, pos := "law.go:206", after := #[{ on := 23, ground := Ground.data }, { on := 22, ground := Ground.chain }, { on := 22, ground := Ground.guard }], guard := some (22, false) }, { dst := some 63, op := Op.load 30 (Operand.tmp 7), type := 30, pos := "law.go:206", after := #[{ on := 22, ground := Ground.guard }], guard := some (22, false) }, { dst := some 64, op := Op.call { callee := Callee.value (Operand.func 33), args := #[Operand.tmp 63], argTypes := #[30] }, type := 3, pos := "law.go:206", after := #[{ on := 25, ground := Ground.data }, { on := 24, ground := Ground.chain }, { on := 22, ground := Ground.guard }], guard := some (22, false) }, { dst := some 65, op := Op.load 30 (Operand.tmp 8), type := 30, pos := "law.go:206", after := #[{ on := 22, ground := Ground.guard }], guard := some (22, false) }, { dst := some 66, op := Op.call { callee := Callee.value (Operand.func 33), args := #[Operand.tmp 65], argTypes := #[30] }, type := 3, pos := "law.go:206", after := #[{ on := 27, ground := Ground.data }, { on := 26, ground := Ground.chain }, { on := 22, ground := Ground.guard }], guard := some (22, false) }, { dst := some 67, op := Op.call { callee := Callee.builtin Builtin.max, args := #[Operand.tmp 64, Operand.tmp 66], argTypes := #[3, 3] }, type := 3, pos := "law.go:206", after := #[{ on := 26, ground := Ground.data }, { on := 28, ground := Ground.data }, { on := 22, ground := Ground.guard }], guard := some (22, false) }, { dst := some 68, op := Op.binOp BinOp.neq 3 (Operand.tmp 62) (Operand.tmp 67) 3, type := 4, pos := "law.go:206", after := #[{ on := 24, ground := Ground.data }, { on := 29, ground := Ground.data }, { on := 22, ground := Ground.guard }], guard := some (22, false) }, { dst := some 69, op := Op.pick (Operand.tmp 60) (Operand.const (Value.bool true)) (Operand.tmp 68), type := 4, pos := "law.go:206", after := #[{ on := 22, ground := Ground.data }, { on := 30, ground := Ground.data }], guard := none }] a.tmps.size = true)
    (hT11 : a.tmps.getD 11 undef = .slice Az nz cz)
    (hT12 : a.tmps.getD 12 undef = .slice Ap np cp)
    (hT13 : a.tmps.getD 13 undef = .slice Aq nq cq)
    (hT9 : a.tmps.getD 9 undef = .pointer (some ⟨gz, 0, none⟩)) (hX9 : w.heap[gz]? = some (.cells #[zf, zl] 30 (0, 0)))
    (hT7 : a.tmps.getD 7 undef = .pointer (some ⟨ga, 0, none⟩)) (hX7 : w.heap[ga]? = some (.cells #[xf, xl] 30 (0, 0)))
    (hT8 : a.tmps.getD 8 undef = .pointer (some ⟨gb, 0, none⟩)) (hX8 : w.heap[gb]? = some (.cells #[yf, yl] 30 (0, 0)))
    (hF24 : ∀ w1, Below w.heap.size w w1 → Calls Try.prog 33 #[.agg #[zf, zl]] w1 fun e w2 => e = .returned (.int .i64 tz) ∧ Below w1.heap.size w1 w2)
    (hF26 : ∀ w1, Below w.heap.size w w1 → Calls Try.prog 33 #[.agg #[xf, xl]] w1 fun e w2 => e = .returned (.int .i64 ta) ∧ Below w1.heap.size w1 w2)
    (hF28 : ∀ w1, Below w.heap.size w w1 → Calls Try.prog 33 #[.agg #[yf, yl]] w1 fun e w2 => e = .returned (.int .i64 tb) ∧ Below w1.heap.size w1 w2)
    (h1 : nz ≤ np + nq) (h2 : np ≤ nz) (h3 : nq ≤ nz) (h4 : nz ≤ 1000) (h5 : tz = if ta < tb then tb else ta)
    (hK : ∀ v w', Below w.heap.size w w' → v 31 = .bool false → Q .normal { tmps := layL [some 38, some 39, some 40, some 41, some 42, some 43, some 44, some 45, some 46, some 47, some 48, some 49, some 50, some 51, some 52, some 53, some 54, some 55, some 56, some 57, some 58, some 59, some 60, some 61, some 62, some 63, some 64, some 65, some 66, some 67, some 68, some 69] 0 v a.tmps, defers := a.defers } w') :
    (Code.region id #[{ dst := some 38, op := Op.move (Operand.tmp 11), type := 25, pos := "law.go:206", after := #[], guard := none }, { dst := some 39, op := Op.call { callee := Callee.builtin Builtin.len, args := #[Operand.tmp 38], argTypes := #[25] }, type := 3, pos := "law.go:206", after := #[{ on := 0, ground := Ground.data }], guard := none }, { dst := some 40, op := Op.move (Operand.tmp 12), type := 25, pos := "law.go:206", after := #[], guard := none }, { dst := some 41, op := Op.call { callee := Callee.builtin Builtin.len, args := #[Operand.tmp 40], argTypes := #[25] }, type := 3, pos := "law.go:206", after := #[{ on := 2, ground := Ground.data }], guard := none }, { dst := some 42, op := Op.move (Operand.tmp 13), type := 25, pos := "law.go:206", after := #[], guard := none }, { dst := some 43, op := Op.call { callee := Callee.builtin Builtin.len, args := #[Operand.tmp 42], argTypes := #[25] }, type := 3, pos := "law.go:206", after := #[{ on := 4, ground := Ground.data }], guard := none }, { dst := some 44, op := Op.binOp BinOp.add 3 (Operand.tmp 41) (Operand.tmp 43) 3, type := 3, pos := "law.go:206", after := #[{ on := 3, ground := Ground.data }, { on := 5, ground := Ground.data }], guard := none }, { dst := some 45, op := Op.binOp BinOp.gtr 3 (Operand.tmp 39) (Operand.tmp 44) 3, type := 4, pos := "law.go:206", after := #[{ on := 1, ground := Ground.data }, { on := 6, ground := Ground.data }], guard := none }, { dst := some 46, op := Op.move (Operand.tmp 45), type := 4, pos := "law.go:206", after := #[{ on := 7, ground := Ground.data }], guard := none }, { dst := some 47, op := Op.move (Operand.tmp 11), type := 25, pos := "law.go:206", after := #[{ on := 8, ground := Ground.guard }], guard := some (8, false) }, { dst := some 48, op := Op.call { callee := Callee.builtin Builtin.len, args := #[Operand.tmp 47], argTypes := #[25] }, type := 3, pos := "law.go:206", after := #[{ on := 9, ground := Ground.data }, { on := 8, ground := Ground.guard }], guard := some (8, false) }, { dst := some 49, op := Op.move (Operand.tmp 12), type := 25, pos := "law.go:206", after := #[{ on := 8, ground := Ground.guard }], guard := some (8, false) }, { dst := some 50, op := Op.call { callee := Callee.builtin Builtin.len, args := #[Operand.tmp 49], argTypes := #[25] }, type := 3, pos := "law.go:206", after := #[{ on := 11, ground := Ground.data }, { on := 8, ground := Ground.guard }], guard := some (8, false) }, { dst := some 51, op := Op.binOp BinOp.lss 3 (Operand.tmp 48) (Operand.tmp 50) 3, type := 4, pos := "law.go:206", after := #[{ on := 10, ground := Ground.data }, { on := 12, ground := Ground.data }, { on := 8, ground := Ground.guard }], guard := some (8, false) }, { dst := some 52, op := Op.pick (Operand.tmp 46) (Operand.const (Value.bool true)) (Operand.tmp 51), type := 4, pos := "law.go:206", after := #[{ on := 8, ground := Ground.data }, { on := 13, ground := Ground.data }], guard := none }, { dst := some 53, op := Op.move (Operand.tmp 52), type := 4, pos := "law.go:206", after := #[{ on := 14, ground := Ground.data }, { on := 8, ground := Ground.chain }], guard := none }, { dst := some 54, op := Op.move (Operand.tmp 11), type := 25, pos := "law.go:206", after := #[{ on := 15, ground := Ground.guard }], guard := some (15, false) }, { dst := some 55, op := Op.call { callee := Callee.builtin Builtin.len, args := #[Operand.tmp 54], argTypes := #[25] }, type := 3, pos := "law.go:206", after := #[{ on := 16, ground := Ground.data }, { on := 15, ground := Ground.guard }], guard := some (15, false) }, { dst := some 56, op := Op.move (Operand.tmp 13), type := 25, pos := "law.go:206", after := #[{ on := 15, ground := Ground.guard }], guard := some (15, false) }, { dst := some 57, op := Op.call { callee := Callee.builtin Builtin.len, args := #[Operand.tmp 56], argTypes := #[25] }, type := 3, pos := "law.go:206", after := #[{ on := 18, ground := Ground.data }, { on := 15, ground := Ground.guard }], guard := some (15, false) }, { dst := some 58, op := Op.binOp BinOp.lss 3 (Operand.tmp 55) (Operand.tmp 57) 3, type := 4, pos := "law.go:206", after := #[{ on := 17, ground := Ground.data }, { on := 19, ground := Ground.data }, { on := 15, ground := Ground.guard }], guard := some (15, false) }, { dst := some 59, op := Op.pick (Operand.tmp 53) (Operand.const (Value.bool true)) (Operand.tmp 58), type := 4, pos := "law.go:206", after := #[{ on := 15, ground := Ground.data }, { on := 20, ground := Ground.data }], guard := none }, { dst := some 60, op := Op.move (Operand.tmp 59), type := 4, pos := "law.go:206", after := #[{ on := 21, ground := Ground.data }, { on := 15, ground := Ground.chain }], guard := none }, { dst := some 61, op := Op.load 30 (Operand.tmp 9), type := 30, pos := "law.go:206", after := #[{ on := 22, ground := Ground.guard }], guard := some (22, false) }, { dst := some 62, op := Op.call { callee := Callee.value (Operand.func 33), args := #[Operand.tmp 61], argTypes := #[30] }, type := 3, pos := "law.go:206", after := #[{ on := 23, ground := Ground.data }, { on := 22, ground := Ground.chain }, { on := 22, ground := Ground.guard }], guard := some (22, false) }, { dst := some 63, op := Op.load 30 (Operand.tmp 7), type := 30, pos := "law.go:206", after := #[{ on := 22, ground := Ground.guard }], guard := some (22, false) }, { dst := some 64, op := Op.call { callee := Callee.value (Operand.func 33), args := #[Operand.tmp 63], argTypes := #[30] }, type := 3, pos := "law.go:206", after := #[{ on := 25, ground := Ground.data }, { on := 24, ground := Ground.chain }, { on := 22, ground := Ground.guard }], guard := some (22, false) }, { dst := some 65, op := Op.load 30 (Operand.tmp 8), type := 30, pos := "law.go:206", after := #[{ on := 22, ground := Ground.guard }], guard := some (22, false) }, { dst := some 66, op := Op.call { callee := Callee.value (Operand.func 33), args := #[Operand.tmp 65], argTypes := #[30] }, type := 3, pos := "law.go:206", after := #[{ on := 27, ground := Ground.data }, { on := 26, ground := Ground.chain }, { on := 22, ground := Ground.guard }], guard := some (22, false) }, { dst := some 67, op := Op.call { callee := Callee.builtin Builtin.max, args := #[Operand.tmp 64, Operand.tmp 66], argTypes := #[3, 3] }, type := 3, pos := "law.go:206", after := #[{ on := 26, ground := Ground.data }, { on := 28, ground := Ground.data }, { on := 22, ground := Ground.guard }], guard := some (22, false) }, { dst := some 68, op := Op.binOp BinOp.neq 3 (Operand.tmp 62) (Operand.tmp 67) 3, type := 4, pos := "law.go:206", after := #[{ on := 24, ground := Ground.data }, { on := 29, ground := Ground.data }, { on := 22, ground := Ground.guard }], guard := some (22, false) }, { dst := some 69, op := Op.pick (Operand.tmp 60) (Operand.const (Value.bool true)) (Operand.tmp 68), type := 4, pos := "law.go:206", after := #[{ on := 22, ground := Ground.data }, { on := 30, ground := Ground.data }], guard := none }] true).wp Try.prog Q a w := by
  have hmx : Try.prog.follows .mixedOrders = true := by kernel_rfl
  refine region_detR 32 hmx hr (by kernel_rfl) ?_
  refine DetR.is (o := { dst := some 38, op := Op.move (Operand.tmp 11), type := 25, pos := "law.go:206", after := #[], guard := none }) (u := ?ux1) rfl (by decide) (fun T w' hb hd hB K hK => ?sx1) ?rx1
  case sx1 =>
    have e11 := (hB 11 (by kernel_rfl)).trans hT11
    rw [if_pos (wanted_none _ rfl)]
    clear hd hB
    go_simp
    exact hK _ (Below.refl _ _)
  refine DetR.is (o := { dst := some 39, op := Op.call { callee := Callee.builtin Builtin.len, args := #[Operand.tmp 38], argTypes := #[25] }, type := 3, pos := "law.go:206", after := #[{ on := 0, ground := Ground.data }], guard := none }) (u := ?ux2) rfl (by decide) (fun T w' hb hd hB K hK => ?sx2) ?rx2
  case sx2 =>
    have e38 := hd 0 38 _ (by decide) (by kernel_rfl) rfl rfl
    replace e38 : T.getD 38 undef = _ := e38
    rw [if_pos (wanted_none _ rfl)]
    clear hd hB
    go_simp
    exact hK _ (Below.refl _ _)
  refine DetR.is (o := { dst := some 40, op := Op.move (Operand.tmp 12), type := 25, pos := "law.go:206", after := #[], guard := none }) (u := ?ux3) rfl (by decide) (fun T w' hb hd hB K hK => ?sx3) ?rx3
  case sx3 =>
    have e12 := (hB 12 (by kernel_rfl)).trans hT12
    rw [if_pos (wanted_none _ rfl)]
    clear hd hB
    go_simp
    exact hK _ (Below.refl _ _)
  refine DetR.is (o := { dst := some 41, op := Op.call { callee := Callee.builtin Builtin.len, args := #[Operand.tmp 40], argTypes := #[25] }, type := 3, pos := "law.go:206", after := #[{ on := 2, ground := Ground.data }], guard := none }) (u := ?ux4) rfl (by decide) (fun T w' hb hd hB K hK => ?sx4) ?rx4
  case sx4 =>
    have e40 := hd 2 40 _ (by decide) (by kernel_rfl) rfl rfl
    replace e40 : T.getD 40 undef = _ := e40
    rw [if_pos (wanted_none _ rfl)]
    clear hd hB
    go_simp
    exact hK _ (Below.refl _ _)
  refine DetR.is (o := { dst := some 42, op := Op.move (Operand.tmp 13), type := 25, pos := "law.go:206", after := #[], guard := none }) (u := ?ux5) rfl (by decide) (fun T w' hb hd hB K hK => ?sx5) ?rx5
  case sx5 =>
    have e13 := (hB 13 (by kernel_rfl)).trans hT13
    rw [if_pos (wanted_none _ rfl)]
    clear hd hB
    go_simp
    exact hK _ (Below.refl _ _)
  refine DetR.is (o := { dst := some 43, op := Op.call { callee := Callee.builtin Builtin.len, args := #[Operand.tmp 42], argTypes := #[25] }, type := 3, pos := "law.go:206", after := #[{ on := 4, ground := Ground.data }], guard := none }) (u := ?ux6) rfl (by decide) (fun T w' hb hd hB K hK => ?sx6) ?rx6
  case sx6 =>
    have e42 := hd 4 42 _ (by decide) (by kernel_rfl) rfl rfl
    replace e42 : T.getD 42 undef = _ := e42
    rw [if_pos (wanted_none _ rfl)]
    clear hd hB
    go_simp
    exact hK _ (Below.refl _ _)
  refine DetR.is (o := { dst := some 44, op := Op.binOp BinOp.add 3 (Operand.tmp 41) (Operand.tmp 43) 3, type := 3, pos := "law.go:206", after := #[{ on := 3, ground := Ground.data }, { on := 5, ground := Ground.data }], guard := none }) (u := ?ux7) rfl (by decide) (fun T w' hb hd hB K hK => ?sx7) ?rx7
  case sx7 =>
    have e41 := hd 3 41 _ (by decide) (by kernel_rfl) rfl rfl
    replace e41 : T.getD 41 undef = _ := e41
    have e43 := hd 5 43 _ (by decide) (by kernel_rfl) rfl rfl
    replace e43 : T.getD 43 undef = _ := e43
    rw [if_pos (wanted_none _ rfl)]
    clear hd hB
    go_simp
    exact hK _ (Below.refl _ _)
  refine DetR.is (o := { dst := some 45, op := Op.binOp BinOp.gtr 3 (Operand.tmp 39) (Operand.tmp 44) 3, type := 4, pos := "law.go:206", after := #[{ on := 1, ground := Ground.data }, { on := 6, ground := Ground.data }], guard := none }) (u := .bool false) rfl (by decide) (fun T w' hb hd hB K hK => ?sx8) ?rx8
  case sx8 =>
    have e39 := hd 1 39 _ (by decide) (by kernel_rfl) rfl rfl
    replace e39 : T.getD 39 undef = _ := e39
    have e44 := hd 6 44 _ (by decide) (by kernel_rfl) rfl rfl
    replace e44 : T.getD 44 undef = _ := e44
    rw [if_pos (wanted_none _ rfl)]
    clear hd hB
    go_simp
    have hq : decide (IntKind.i64.wrap ((np : Int) + (nq : Int)) < (nz : Int)) = false := decide_eq_false (by rw [i64_w, w64 _ (by omega)]; omega)
    rw [hq]
    exact hK _ (Below.refl _ _)
  refine DetR.is (o := { dst := some 46, op := Op.move (Operand.tmp 45), type := 4, pos := "law.go:206", after := #[{ on := 7, ground := Ground.data }], guard := none }) (u := ?ux9) rfl (by decide) (fun T w' hb hd hB K hK => ?sx9) ?rx9
  case sx9 =>
    have e45 := hd 7 45 _ (by decide) (by kernel_rfl) rfl rfl
    replace e45 : T.getD 45 undef = _ := e45
    rw [if_pos (wanted_none _ rfl)]
    clear hd hB
    go_simp
    exact hK _ (Below.refl _ _)
  refine DetR.is (o := { dst := some 47, op := Op.move (Operand.tmp 11), type := 25, pos := "law.go:206", after := #[{ on := 8, ground := Ground.guard }], guard := some (8, false) }) (u := ?ux10) rfl (by decide) (fun T w' hb hd hB K hK => ?sx10) ?rx10
  case sx10 =>
    have e11 := (hB 11 (by kernel_rfl)).trans hT11
    have eg := hd 8 46 _ (by decide) (by kernel_rfl) rfl rfl
    replace eg : T.getD 46 undef = .bool false := eg
    rw [if_pos (wanted_yes 8 46 false rfl rfl eg)]
    clear eg
    clear hd hB
    go_simp
    exact hK _ (Below.refl _ _)
  refine DetR.is (o := { dst := some 48, op := Op.call { callee := Callee.builtin Builtin.len, args := #[Operand.tmp 47], argTypes := #[25] }, type := 3, pos := "law.go:206", after := #[{ on := 9, ground := Ground.data }, { on := 8, ground := Ground.guard }], guard := some (8, false) }) (u := ?ux11) rfl (by decide) (fun T w' hb hd hB K hK => ?sx11) ?rx11
  case sx11 =>
    have e47 := hd 9 47 _ (by decide) (by kernel_rfl) rfl rfl
    replace e47 : T.getD 47 undef = _ := e47
    have eg := hd 8 46 _ (by decide) (by kernel_rfl) rfl rfl
    replace eg : T.getD 46 undef = .bool false := eg
    rw [if_pos (wanted_yes 8 46 false rfl rfl eg)]
    clear eg
    clear hd hB
    go_simp
    exact hK _ (Below.refl _ _)
  refine DetR.is (o := { dst := some 49, op := Op.move (Operand.tmp 12), type := 25, pos := "law.go:206", after := #[{ on := 8, ground := Ground.guard }], guard := some (8, false) }) (u := ?ux12) rfl (by decide) (fun T w' hb hd hB K hK => ?sx12) ?rx12
  case sx12 =>
    have e12 := (hB 12 (by kernel_rfl)).trans hT12
    have eg := hd 8 46 _ (by decide) (by kernel_rfl) rfl rfl
    replace eg : T.getD 46 undef = .bool false := eg
    rw [if_pos (wanted_yes 8 46 false rfl rfl eg)]
    clear eg
    clear hd hB
    go_simp
    exact hK _ (Below.refl _ _)
  refine DetR.is (o := { dst := some 50, op := Op.call { callee := Callee.builtin Builtin.len, args := #[Operand.tmp 49], argTypes := #[25] }, type := 3, pos := "law.go:206", after := #[{ on := 11, ground := Ground.data }, { on := 8, ground := Ground.guard }], guard := some (8, false) }) (u := ?ux13) rfl (by decide) (fun T w' hb hd hB K hK => ?sx13) ?rx13
  case sx13 =>
    have e49 := hd 11 49 _ (by decide) (by kernel_rfl) rfl rfl
    replace e49 : T.getD 49 undef = _ := e49
    have eg := hd 8 46 _ (by decide) (by kernel_rfl) rfl rfl
    replace eg : T.getD 46 undef = .bool false := eg
    rw [if_pos (wanted_yes 8 46 false rfl rfl eg)]
    clear eg
    clear hd hB
    go_simp
    exact hK _ (Below.refl _ _)
  refine DetR.is (o := { dst := some 51, op := Op.binOp BinOp.lss 3 (Operand.tmp 48) (Operand.tmp 50) 3, type := 4, pos := "law.go:206", after := #[{ on := 10, ground := Ground.data }, { on := 12, ground := Ground.data }, { on := 8, ground := Ground.guard }], guard := some (8, false) }) (u := .bool false) rfl (by decide) (fun T w' hb hd hB K hK => ?sx14) ?rx14
  case sx14 =>
    have e48 := hd 10 48 _ (by decide) (by kernel_rfl) rfl rfl
    replace e48 : T.getD 48 undef = _ := e48
    have e50 := hd 12 50 _ (by decide) (by kernel_rfl) rfl rfl
    replace e50 : T.getD 50 undef = _ := e50
    have eg := hd 8 46 _ (by decide) (by kernel_rfl) rfl rfl
    replace eg : T.getD 46 undef = .bool false := eg
    rw [if_pos (wanted_yes 8 46 false rfl rfl eg)]
    clear eg
    clear hd hB
    go_simp
    have hq : decide (nz < np) = false := decide_eq_false (by omega)
    rw [hq]
    exact hK _ (Below.refl _ _)
  refine DetR.is (o := { dst := some 52, op := Op.pick (Operand.tmp 46) (Operand.const (Value.bool true)) (Operand.tmp 51), type := 4, pos := "law.go:206", after := #[{ on := 8, ground := Ground.data }, { on := 13, ground := Ground.data }], guard := none }) (u := ?ux15) rfl (by decide) (fun T w' hb hd hB K hK => ?sx15) ?rx15
  case sx15 =>
    have e46 := hd 8 46 _ (by decide) (by kernel_rfl) rfl rfl
    replace e46 : T.getD 46 undef = _ := e46
    have e51 := hd 13 51 _ (by decide) (by kernel_rfl) rfl rfl
    replace e51 : T.getD 51 undef = _ := e51
    rw [if_pos (wanted_none _ rfl)]
    clear hd hB
    go_simp
    exact hK _ (Below.refl _ _)
  refine DetR.is (o := { dst := some 53, op := Op.move (Operand.tmp 52), type := 4, pos := "law.go:206", after := #[{ on := 14, ground := Ground.data }, { on := 8, ground := Ground.chain }], guard := none }) (u := ?ux16) rfl (by decide) (fun T w' hb hd hB K hK => ?sx16) ?rx16
  case sx16 =>
    have e52 := hd 14 52 _ (by decide) (by kernel_rfl) rfl rfl
    replace e52 : T.getD 52 undef = _ := e52
    rw [if_pos (wanted_none _ rfl)]
    clear hd hB
    go_simp
    exact hK _ (Below.refl _ _)
  refine DetR.is (o := { dst := some 54, op := Op.move (Operand.tmp 11), type := 25, pos := "law.go:206", after := #[{ on := 15, ground := Ground.guard }], guard := some (15, false) }) (u := ?ux17) rfl (by decide) (fun T w' hb hd hB K hK => ?sx17) ?rx17
  case sx17 =>
    have e11 := (hB 11 (by kernel_rfl)).trans hT11
    have eg := hd 15 53 _ (by decide) (by kernel_rfl) rfl rfl
    replace eg : T.getD 53 undef = .bool false := eg
    rw [if_pos (wanted_yes 15 53 false rfl rfl eg)]
    clear eg
    clear hd hB
    go_simp
    exact hK _ (Below.refl _ _)
  refine DetR.is (o := { dst := some 55, op := Op.call { callee := Callee.builtin Builtin.len, args := #[Operand.tmp 54], argTypes := #[25] }, type := 3, pos := "law.go:206", after := #[{ on := 16, ground := Ground.data }, { on := 15, ground := Ground.guard }], guard := some (15, false) }) (u := ?ux18) rfl (by decide) (fun T w' hb hd hB K hK => ?sx18) ?rx18
  case sx18 =>
    have e54 := hd 16 54 _ (by decide) (by kernel_rfl) rfl rfl
    replace e54 : T.getD 54 undef = _ := e54
    have eg := hd 15 53 _ (by decide) (by kernel_rfl) rfl rfl
    replace eg : T.getD 53 undef = .bool false := eg
    rw [if_pos (wanted_yes 15 53 false rfl rfl eg)]
    clear eg
    clear hd hB
    go_simp
    exact hK _ (Below.refl _ _)
  refine DetR.is (o := { dst := some 56, op := Op.move (Operand.tmp 13), type := 25, pos := "law.go:206", after := #[{ on := 15, ground := Ground.guard }], guard := some (15, false) }) (u := ?ux19) rfl (by decide) (fun T w' hb hd hB K hK => ?sx19) ?rx19
  case sx19 =>
    have e13 := (hB 13 (by kernel_rfl)).trans hT13
    have eg := hd 15 53 _ (by decide) (by kernel_rfl) rfl rfl
    replace eg : T.getD 53 undef = .bool false := eg
    rw [if_pos (wanted_yes 15 53 false rfl rfl eg)]
    clear eg
    clear hd hB
    go_simp
    exact hK _ (Below.refl _ _)
  refine DetR.is (o := { dst := some 57, op := Op.call { callee := Callee.builtin Builtin.len, args := #[Operand.tmp 56], argTypes := #[25] }, type := 3, pos := "law.go:206", after := #[{ on := 18, ground := Ground.data }, { on := 15, ground := Ground.guard }], guard := some (15, false) }) (u := ?ux20) rfl (by decide) (fun T w' hb hd hB K hK => ?sx20) ?rx20
  case sx20 =>
    have e56 := hd 18 56 _ (by decide) (by kernel_rfl) rfl rfl
    replace e56 : T.getD 56 undef = _ := e56
    have eg := hd 15 53 _ (by decide) (by kernel_rfl) rfl rfl
    replace eg : T.getD 53 undef = .bool false := eg
    rw [if_pos (wanted_yes 15 53 false rfl rfl eg)]
    clear eg
    clear hd hB
    go_simp
    exact hK _ (Below.refl _ _)
  refine DetR.is (o := { dst := some 58, op := Op.binOp BinOp.lss 3 (Operand.tmp 55) (Operand.tmp 57) 3, type := 4, pos := "law.go:206", after := #[{ on := 17, ground := Ground.data }, { on := 19, ground := Ground.data }, { on := 15, ground := Ground.guard }], guard := some (15, false) }) (u := .bool false) rfl (by decide) (fun T w' hb hd hB K hK => ?sx21) ?rx21
  case sx21 =>
    have e55 := hd 17 55 _ (by decide) (by kernel_rfl) rfl rfl
    replace e55 : T.getD 55 undef = _ := e55
    have e57 := hd 19 57 _ (by decide) (by kernel_rfl) rfl rfl
    replace e57 : T.getD 57 undef = _ := e57
    have eg := hd 15 53 _ (by decide) (by kernel_rfl) rfl rfl
    replace eg : T.getD 53 undef = .bool false := eg
    rw [if_pos (wanted_yes 15 53 false rfl rfl eg)]
    clear eg
    clear hd hB
    go_simp
    have hq : decide (nz < nq) = false := decide_eq_false (by omega)
    rw [hq]
    exact hK _ (Below.refl _ _)
  refine DetR.is (o := { dst := some 59, op := Op.pick (Operand.tmp 53) (Operand.const (Value.bool true)) (Operand.tmp 58), type := 4, pos := "law.go:206", after := #[{ on := 15, ground := Ground.data }, { on := 20, ground := Ground.data }], guard := none }) (u := ?ux22) rfl (by decide) (fun T w' hb hd hB K hK => ?sx22) ?rx22
  case sx22 =>
    have e53 := hd 15 53 _ (by decide) (by kernel_rfl) rfl rfl
    replace e53 : T.getD 53 undef = _ := e53
    have e58 := hd 20 58 _ (by decide) (by kernel_rfl) rfl rfl
    replace e58 : T.getD 58 undef = _ := e58
    rw [if_pos (wanted_none _ rfl)]
    clear hd hB
    go_simp
    exact hK _ (Below.refl _ _)
  refine DetR.is (o := { dst := some 60, op := Op.move (Operand.tmp 59), type := 4, pos := "law.go:206", after := #[{ on := 21, ground := Ground.data }, { on := 15, ground := Ground.chain }], guard := none }) (u := ?ux23) rfl (by decide) (fun T w' hb hd hB K hK => ?sx23) ?rx23
  case sx23 =>
    have e59 := hd 21 59 _ (by decide) (by kernel_rfl) rfl rfl
    replace e59 : T.getD 59 undef = _ := e59
    rw [if_pos (wanted_none _ rfl)]
    clear hd hB
    go_simp
    exact hK _ (Below.refl _ _)
  refine DetR.is (o := { dst := some 61, op := Op.load 30 (Operand.tmp 9), type := 30, pos := "law.go:206", after := #[{ on := 22, ground := Ground.guard }], guard := some (22, false) }) (u := ?ux24) rfl (by decide) (fun T w' hb hd hB K hK => ?sx24) ?rx24
  case sx24 =>
    have e9 := (hB 9 (by kernel_rfl)).trans hT9
    have q9_0 : w'.cell? ⟨gz, 0, none⟩ = some (zf) := (blk_cell (blk_below hX9 hb) 0).trans rfl
    have q9_1 : w'.cell? ⟨gz, 1, none⟩ = some (zl) := (blk_cell (blk_below hX9 hb) 1).trans rfl
    have eg := hd 22 60 _ (by decide) (by kernel_rfl) rfl rfl
    replace eg : T.getD 60 undef = .bool false := eg
    rw [if_pos (wanted_yes 22 60 false rfl rfl eg)]
    clear eg
    clear hd hB
    go_simp
    exact hK _ (Below.refl _ _)
  refine DetR.is (o := { dst := some 62, op := Op.call { callee := Callee.value (Operand.func 33), args := #[Operand.tmp 61], argTypes := #[30] }, type := 3, pos := "law.go:206", after := #[{ on := 23, ground := Ground.data }, { on := 22, ground := Ground.chain }, { on := 22, ground := Ground.guard }], guard := some (22, false) }) (u := ?ux25) rfl (by decide) (fun T w' hb hd hB K hK => ?sx25) ?rx25
  case sx25 =>
    have e61 := hd 23 61 _ (by decide) (by kernel_rfl) rfl rfl
    replace e61 : T.getD 61 undef = _ := e61
    have eg := hd 22 60 _ (by decide) (by kernel_rfl) rfl rfl
    replace eg : T.getD 60 undef = .bool false := eg
    rw [if_pos (wanted_yes 22 60 false rfl rfl eg)]
    clear eg
    have hcl := hF24 w' hb
    clear hd hB
    go_simp
    go_at_call 33
    refine hcl.mono ?_
    rintro e w2 ⟨rfl, h2⟩
    exact hK _ h2
  refine DetR.is (o := { dst := some 63, op := Op.load 30 (Operand.tmp 7), type := 30, pos := "law.go:206", after := #[{ on := 22, ground := Ground.guard }], guard := some (22, false) }) (u := ?ux26) rfl (by decide) (fun T w' hb hd hB K hK => ?sx26) ?rx26
  case sx26 =>
    have e7 := (hB 7 (by kernel_rfl)).trans hT7
    have q7_0 : w'.cell? ⟨ga, 0, none⟩ = some (xf) := (blk_cell (blk_below hX7 hb) 0).trans rfl
    have q7_1 : w'.cell? ⟨ga, 1, none⟩ = some (xl) := (blk_cell (blk_below hX7 hb) 1).trans rfl
    have eg := hd 22 60 _ (by decide) (by kernel_rfl) rfl rfl
    replace eg : T.getD 60 undef = .bool false := eg
    rw [if_pos (wanted_yes 22 60 false rfl rfl eg)]
    clear eg
    clear hd hB
    go_simp
    exact hK _ (Below.refl _ _)
  refine DetR.is (o := { dst := some 64, op := Op.call { callee := Callee.value (Operand.func 33), args := #[Operand.tmp 63], argTypes := #[30] }, type := 3, pos := "law.go:206", after := #[{ on := 25, ground := Ground.data }, { on := 24, ground := Ground.chain }, { on := 22, ground := Ground.guard }], guard := some (22, false) }) (u := ?ux27) rfl (by decide) (fun T w' hb hd hB K hK => ?sx27) ?rx27
  case sx27 =>
    have e63 := hd 25 63 _ (by decide) (by kernel_rfl) rfl rfl
    replace e63 : T.getD 63 undef = _ := e63
    have eg := hd 22 60 _ (by decide) (by kernel_rfl) rfl rfl
    replace eg : T.getD 60 undef = .bool false := eg
    rw [if_pos (wanted_yes 22 60 false rfl rfl eg)]
    clear eg
    have hcl := hF26 w' hb
    clear hd hB
    go_simp
    go_at_call 33
    refine hcl.mono ?_
    rintro e w2 ⟨rfl, h2⟩
    exact hK _ h2
  refine DetR.is (o := { dst := some 65, op := Op.load 30 (Operand.tmp 8), type := 30, pos := "law.go:206", after := #[{ on := 22, ground := Ground.guard }], guard := some (22, false) }) (u := ?ux28) rfl (by decide) (fun T w' hb hd hB K hK => ?sx28) ?rx28
  case sx28 =>
    have e8 := (hB 8 (by kernel_rfl)).trans hT8
    have q8_0 : w'.cell? ⟨gb, 0, none⟩ = some (yf) := (blk_cell (blk_below hX8 hb) 0).trans rfl
    have q8_1 : w'.cell? ⟨gb, 1, none⟩ = some (yl) := (blk_cell (blk_below hX8 hb) 1).trans rfl
    have eg := hd 22 60 _ (by decide) (by kernel_rfl) rfl rfl
    replace eg : T.getD 60 undef = .bool false := eg
    rw [if_pos (wanted_yes 22 60 false rfl rfl eg)]
    clear eg
    clear hd hB
    go_simp
    exact hK _ (Below.refl _ _)
  refine DetR.is (o := { dst := some 66, op := Op.call { callee := Callee.value (Operand.func 33), args := #[Operand.tmp 65], argTypes := #[30] }, type := 3, pos := "law.go:206", after := #[{ on := 27, ground := Ground.data }, { on := 26, ground := Ground.chain }, { on := 22, ground := Ground.guard }], guard := some (22, false) }) (u := ?ux29) rfl (by decide) (fun T w' hb hd hB K hK => ?sx29) ?rx29
  case sx29 =>
    have e65 := hd 27 65 _ (by decide) (by kernel_rfl) rfl rfl
    replace e65 : T.getD 65 undef = _ := e65
    have eg := hd 22 60 _ (by decide) (by kernel_rfl) rfl rfl
    replace eg : T.getD 60 undef = .bool false := eg
    rw [if_pos (wanted_yes 22 60 false rfl rfl eg)]
    clear eg
    have hcl := hF28 w' hb
    clear hd hB
    go_simp
    go_at_call 33
    refine hcl.mono ?_
    rintro e w2 ⟨rfl, h2⟩
    exact hK _ h2
  refine DetR.is (o := { dst := some 67, op := Op.call { callee := Callee.builtin Builtin.max, args := #[Operand.tmp 64, Operand.tmp 66], argTypes := #[3, 3] }, type := 3, pos := "law.go:206", after := #[{ on := 26, ground := Ground.data }, { on := 28, ground := Ground.data }, { on := 22, ground := Ground.guard }], guard := some (22, false) }) (u := ?ux30) rfl (by decide) (fun T w' hb hd hB K hK => ?sx30) ?rx30
  case sx30 =>
    have e64 := hd 26 64 _ (by decide) (by kernel_rfl) rfl rfl
    replace e64 : T.getD 64 undef = _ := e64
    have e66 := hd 28 66 _ (by decide) (by kernel_rfl) rfl rfl
    replace e66 : T.getD 66 undef = _ := e66
    have eg := hd 22 60 _ (by decide) (by kernel_rfl) rfl rfl
    replace eg : T.getD 60 undef = .bool false := eg
    rw [if_pos (wanted_yes 22 60 false rfl rfl eg)]
    clear eg
    clear hd hB
    go_simp
    exact hK _ (Below.refl _ _)
  refine DetR.is (o := { dst := some 68, op := Op.binOp BinOp.neq 3 (Operand.tmp 62) (Operand.tmp 67) 3, type := 4, pos := "law.go:206", after := #[{ on := 24, ground := Ground.data }, { on := 29, ground := Ground.data }, { on := 22, ground := Ground.guard }], guard := some (22, false) }) (u := .bool false) rfl (by decide) (fun T w' hb hd hB K hK => ?sx31) ?rx31
  case sx31 =>
    have e62 := hd 24 62 _ (by decide) (by kernel_rfl) rfl rfl
    replace e62 : T.getD 62 undef = _ := e62
    have e67 := hd 29 67 _ (by decide) (by kernel_rfl) rfl rfl
    replace e67 : T.getD 67 undef = _ := e67
    have eg := hd 22 60 _ (by decide) (by kernel_rfl) rfl rfl
    replace eg : T.getD 60 undef = .bool false := eg
    rw [if_pos (wanted_yes 22 60 false rfl rfl eg)]
    clear eg
    clear hd hB
    go_simp
    exact hK _ (Below.refl _ _)
  refine DetR.is (o := { dst := some 69, op := Op.pick (Operand.tmp 60) (Operand.const (Value.bool true)) (Operand.tmp 68), type := 4, pos := "law.go:206", after := #[{ on := 22, ground := Ground.data }, { on := 30, ground := Ground.data }], guard := none }) (u := .bool false) rfl (by decide) (fun T w' hb hd hB K hK => ?sx32) ?rx32
  case sx32 =>
    have e60 := hd 22 60 _ (by decide) (by kernel_rfl) rfl rfl
    replace e60 : T.getD 60 undef = _ := e60
    have e68 := hd 30 68 _ (by decide) (by kernel_rfl) rfl rfl
    replace e68 : T.getD 68 undef = _ := e68
    rw [if_pos (wanted_none _ rfl)]
    clear hd hB
    go_simp
    exact hK _ (Below.refl _ _)
  refine DetR.done [some 38, some 39, some 40, some 41, some 42, some 43, some 44, some 45, some 46, some 47, some 48, some 49, some 50, some 51, some 52, some 53, some 54, some 55, some 56, some 57, some 58, some 59, some 60, some 61, some 62, some 63, some 64, some 65, some 66, some 67, some 68, some 69] (by kernel_rfl) rfl (by kernel_rfl) ?_
  intro v w' hb hv
  exact hK v w' hb (hv 31 _ (by decide) rfl)

set_option maxHeartbeats 4000000 in
set_option maxRecDepth 100000 in
theorem TermCounts_r17 {id : Nat} {a : Act} {w : World} {Q : Exit → Act → World → Prop} {Az Ap : Addr} {nz np cz cp : Nat} {i x : Int}
    (hr : regionOk #[{ dst := some 76, op := Op.move (Operand.tmp 11), type := 25, pos := "law.go:210", after := #[], guard := none }, { dst := some 77, op := Op.move (Operand.tmp 14), type := 3, pos := "law.go:210", after := #[], guard := none }, { dst := some 78, op := Op.indexAddr 25 (Operand.tmp 76) (Operand.tmp 77), type := 0, pos := "law.go:210", after := #[{ on := 0, ground := Ground.data }, { on := 1, ground := Ground.data }], guard := none }, { dst := some 79, op := Op.load 3 (Operand.tmp 78), type := 3, pos := "law.go:210", after := #[{ on := 2, ground := Ground.data }], guard := none }, { dst := some 80, op := Op.move (Operand.tmp 12), type := 25, pos := "law.go:210", after := #[], guard := none }, { dst := some 81, op := Op.move (Operand.tmp 14), type := 3, pos := "law.go:210", after := #[], guard := none }, { dst := some 82, op := Op.indexAddr 25 (Operand.tmp 80) (Operand.tmp 81), type := 0, pos := "law.go:210", after := #[{ on := 4, ground := Ground.data }, { on := 5, ground := Ground.data }], guard := none }, { dst := some 83, op := Op.load 3 (Operand.tmp 82), type := 3, pos := "law.go:210", after := #[{ on := 6, ground := Ground.data }], guard := none }, { dst := some 84, op := Op.binOp BinOp.neq 3 (Operand.tmp 79) (Operand.tmp 83) 3, type := 4, pos := "law.go:210", after := #[{ on := 3, ground := Ground.data }, { on := 7, ground := Ground.data }], guard := none }] a.tmps.size = true)
    (hT11 : a.tmps.getD 11 undef = .slice (some Az) nz cz)
    (hT12 : a.tmps.getD 12 undef = .slice (some Ap) np cp)
    (hT14 : a.tmps.getD 14 undef = .int .i64 i)
    (h1 : 0 ≤ i) (h2 : i < (nz : Int)) (h3 : i < (np : Int)) (h4 : nz ≤ 1000) (h5 : nz ≤ cz) (h6 : np ≤ cp) (hz : w.cell? (Az.add i.toNat) = some (.int .i64 x)) (hp : w.cell? (Ap.add i.toNat) = some (.int .i64 x)) (hlz : (Az.add i.toNat).block < w.heap.size) (hlp : (Ap.add i.toNat).block < w.heap.size)
    (hK : ∀ v w', Below w.heap.size w w' → v 8 = .bool false → Q .normal { tmps := layL [some 76, some 77, some 78, some 79, some 80, some 81, some 82, some 83, some 84] 0 v a.tmps, defers := a.defers } w') :
    (Code.region id #[{ dst := some 76, op := Op.move (Operand.tmp 11), type := 25, pos := "law.go:210", after := #[], guard := none }, { dst := some 77, op := Op.move (Operand.tmp 14), type := 3, pos := "law.go:210", after := #[], guard := none }, { dst := some 78, op := Op.indexAddr 25 (Operand.tmp 76) (Operand.tmp 77), type := 0, pos := "law.go:210", after := #[{ on := 0, ground := Ground.data }, { on := 1, ground := Ground.data }], guard := none }, { dst := some 79, op := Op.load 3 (Operand.tmp 78), type := 3, pos := "law.go:210", after := #[{ on := 2, ground := Ground.data }], guard := none }, { dst := some 80, op := Op.move (Operand.tmp 12), type := 25, pos := "law.go:210", after := #[], guard := none }, { dst := some 81, op := Op.move (Operand.tmp 14), type := 3, pos := "law.go:210", after := #[], guard := none }, { dst := some 82, op := Op.indexAddr 25 (Operand.tmp 80) (Operand.tmp 81), type := 0, pos := "law.go:210", after := #[{ on := 4, ground := Ground.data }, { on := 5, ground := Ground.data }], guard := none }, { dst := some 83, op := Op.load 3 (Operand.tmp 82), type := 3, pos := "law.go:210", after := #[{ on := 6, ground := Ground.data }], guard := none }, { dst := some 84, op := Op.binOp BinOp.neq 3 (Operand.tmp 79) (Operand.tmp 83) 3, type := 4, pos := "law.go:210", after := #[{ on := 3, ground := Ground.data }, { on := 7, ground := Ground.data }], guard := none }] true).wp Try.prog Q a w := by
  have hmx : Try.prog.follows .mixedOrders = true := by kernel_rfl
  refine region_detR 9 hmx hr (by kernel_rfl) ?_
  refine DetR.is (o := { dst := some 76, op := Op.move (Operand.tmp 11), type := 25, pos := "law.go:210", after := #[], guard := none }) (u := ?ux33) rfl (by decide) (fun T w' hb hd hB K hK => ?sx33) ?rx33
  case sx33 =>
    have e11 := (hB 11 (by kernel_rfl)).trans hT11
    rw [if_pos (wanted_none _ rfl)]
    have hz' := (hb.cell hlz).trans hz
    have hp' := (hb.cell hlp).trans hp
    clear hd hB
    go_simp
    exact hK _ (Below.refl _ _)
  refine DetR.is (o := { dst := some 77, op := Op.move (Operand.tmp 14), type := 3, pos := "law.go:210", after := #[], guard := none }) (u := ?ux34) rfl (by decide) (fun T w' hb hd hB K hK => ?sx34) ?rx34
  case sx34 =>
    have e14 := (hB 14 (by kernel_rfl)).trans hT14
    rw [if_pos (wanted_none _ rfl)]
    have hz' := (hb.cell hlz).trans hz
    have hp' := (hb.cell hlp).trans hp
    clear hd hB
    go_simp
    exact hK _ (Below.refl _ _)
  refine DetR.is (o := { dst := some 78, op := Op.indexAddr 25 (Operand.tmp 76) (Operand.tmp 77), type := 0, pos := "law.go:210", after := #[{ on := 0, ground := Ground.data }, { on := 1, ground := Ground.data }], guard := none }) (u := ?ux35) rfl (by decide) (fun T w' hb hd hB K hK => ?sx35) ?rx35
  case sx35 =>
    have e76 := hd 0 76 _ (by decide) (by kernel_rfl) rfl rfl
    replace e76 : T.getD 76 undef = _ := e76
    have e77 := hd 1 77 _ (by decide) (by kernel_rfl) rfl rfl
    replace e77 : T.getD 77 undef = _ := e77
    rw [if_pos (wanted_none _ rfl)]
    have hz' := (hb.cell hlz).trans hz
    have hp' := (hb.cell hlp).trans hp
    clear hd hB
    go_simp
    exact hK _ (Below.refl _ _)
  refine DetR.is (o := { dst := some 79, op := Op.load 3 (Operand.tmp 78), type := 3, pos := "law.go:210", after := #[{ on := 2, ground := Ground.data }], guard := none }) (u := ?ux36) rfl (by decide) (fun T w' hb hd hB K hK => ?sx36) ?rx36
  case sx36 =>
    have e78 := hd 2 78 _ (by decide) (by kernel_rfl) rfl rfl
    replace e78 : T.getD 78 undef = _ := e78
    rw [if_pos (wanted_none _ rfl)]
    have hz' := (hb.cell hlz).trans hz
    have hp' := (hb.cell hlp).trans hp
    clear hd hB
    go_simp
    exact hK _ (Below.refl _ _)
  refine DetR.is (o := { dst := some 80, op := Op.move (Operand.tmp 12), type := 25, pos := "law.go:210", after := #[], guard := none }) (u := ?ux37) rfl (by decide) (fun T w' hb hd hB K hK => ?sx37) ?rx37
  case sx37 =>
    have e12 := (hB 12 (by kernel_rfl)).trans hT12
    rw [if_pos (wanted_none _ rfl)]
    have hz' := (hb.cell hlz).trans hz
    have hp' := (hb.cell hlp).trans hp
    clear hd hB
    go_simp
    exact hK _ (Below.refl _ _)
  refine DetR.is (o := { dst := some 81, op := Op.move (Operand.tmp 14), type := 3, pos := "law.go:210", after := #[], guard := none }) (u := ?ux38) rfl (by decide) (fun T w' hb hd hB K hK => ?sx38) ?rx38
  case sx38 =>
    have e14 := (hB 14 (by kernel_rfl)).trans hT14
    rw [if_pos (wanted_none _ rfl)]
    have hz' := (hb.cell hlz).trans hz
    have hp' := (hb.cell hlp).trans hp
    clear hd hB
    go_simp
    exact hK _ (Below.refl _ _)
  refine DetR.is (o := { dst := some 82, op := Op.indexAddr 25 (Operand.tmp 80) (Operand.tmp 81), type := 0, pos := "law.go:210", after := #[{ on := 4, ground := Ground.data }, { on := 5, ground := Ground.data }], guard := none }) (u := ?ux39) rfl (by decide) (fun T w' hb hd hB K hK => ?sx39) ?rx39
  case sx39 =>
    have e80 := hd 4 80 _ (by decide) (by kernel_rfl) rfl rfl
    replace e80 : T.getD 80 undef = _ := e80
    have e81 := hd 5 81 _ (by decide) (by kernel_rfl) rfl rfl
    replace e81 : T.getD 81 undef = _ := e81
    rw [if_pos (wanted_none _ rfl)]
    have hz' := (hb.cell hlz).trans hz
    have hp' := (hb.cell hlp).trans hp
    clear hd hB
    go_simp
    exact hK _ (Below.refl _ _)
  refine DetR.is (o := { dst := some 83, op := Op.load 3 (Operand.tmp 82), type := 3, pos := "law.go:210", after := #[{ on := 6, ground := Ground.data }], guard := none }) (u := ?ux40) rfl (by decide) (fun T w' hb hd hB K hK => ?sx40) ?rx40
  case sx40 =>
    have e82 := hd 6 82 _ (by decide) (by kernel_rfl) rfl rfl
    replace e82 : T.getD 82 undef = _ := e82
    rw [if_pos (wanted_none _ rfl)]
    have hz' := (hb.cell hlz).trans hz
    have hp' := (hb.cell hlp).trans hp
    clear hd hB
    go_simp
    exact hK _ (Below.refl _ _)
  refine DetR.is (o := { dst := some 84, op := Op.binOp BinOp.neq 3 (Operand.tmp 79) (Operand.tmp 83) 3, type := 4, pos := "law.go:210", after := #[{ on := 3, ground := Ground.data }, { on := 7, ground := Ground.data }], guard := none }) (u := .bool false) rfl (by decide) (fun T w' hb hd hB K hK => ?sx41) ?rx41
  case sx41 =>
    have e79 := hd 3 79 _ (by decide) (by kernel_rfl) rfl rfl
    replace e79 : T.getD 79 undef = _ := e79
    have e83 := hd 7 83 _ (by decide) (by kernel_rfl) rfl rfl
    replace e83 : T.getD 83 undef = _ := e83
    rw [if_pos (wanted_none _ rfl)]
    have hz' := (hb.cell hlz).trans hz
    have hp' := (hb.cell hlp).trans hp
    clear hd hB
    go_simp
    exact hK _ (Below.refl _ _)
  refine DetR.done [some 76, some 77, some 78, some 79, some 80, some 81, some 82, some 83, some 84] (by kernel_rfl) rfl (by kernel_rfl) ?_
  intro v w' hb hv
  exact hK v w' hb (hv 8 _ (by decide) rfl)

set_option maxHeartbeats 4000000 in
set_option maxRecDepth 100000 in
theorem TermCounts_r19 {id : Nat} {a : Act} {w : World} {Q : Exit → Act → World → Prop} {f nn : Int} {sz sa sb cz ca cb gz ga gb : Nat} {zf zl xf xl yf yl : Value} {PZ : List (List Int)}
    (hr : regionOk #[{ dst := some 85, op := Op.load 30 (Operand.tmp 9), type := 30, pos := "law.go:214", after := #[], guard := none }, { dst := some 86, op := Op.call { callee := Callee.value (Operand.func 34), args := #[Operand.tmp 85], argTypes := #[30] }, type := 3, pos := "law.go:214", after := #[{ on := 0, ground := Ground.data }], guard := none }, { dst := some 87, op := Op.load 30 (Operand.tmp 7), type := 30, pos := "law.go:214", after := #[], guard := none }, { dst := some 88, op := Op.call { callee := Callee.value (Operand.func 34), args := #[Operand.tmp 87], argTypes := #[30] }, type := 3, pos := "law.go:214", after := #[{ on := 2, ground := Ground.data }, { on := 1, ground := Ground.chain }], guard := none }, { dst := some 89, op := Op.binOp BinOp.add 3 (Operand.const (Value.int IntKind.i64 1)) (Operand.tmp 88) 3, type := 3, pos := "law.go:214", after := #[{ on := 3, ground := Ground.data }], guard := none }, { dst := some 90, op := Op.load 30 (Operand.tmp 8), type := 30, pos := "law.go:214", after := #[], guard := none }, { dst := some 91, op := Op.call { callee := Callee.value (Operand.func 34), args := #[Operand.tmp 90], argTypes := #[30] }, type := 3, pos := "law.go:214", after := #[{ on := 5, ground := Ground.data }, { on := 3, ground := Ground.chain }], guard := none }, { dst := some 92, op := Op.binOp BinOp.add 3 (Operand.tmp 89) (Operand.tmp 91) 3, type := 3, pos := "law.go:214", after := #[{ on := 4, ground := Ground.data }, { on := 6, ground := Ground.data }], guard := none }, { dst := some 93, op := Op.binOp BinOp.eql 3 (Operand.tmp 86) (Operand.tmp 92) 3, type := 4, pos := "law.go:214", after := #[{ on := 1, ground := Ground.data }, { on := 7, ground := Ground.data }], guard := none }, { dst := some 94, op := Op.move (Operand.tmp 93), type := 4, pos := "law.go:214", after := #[{ on := 8, ground := Ground.data }, { on := 6, ground := Ground.chain }], guard := none }, { dst := some 95, op := Op.load 30 (Operand.tmp 9), type := 30, pos := "law.go:214", after := #[{ on := 9, ground := Ground.guard }], guard := some (9, true) }, { dst := some 96, op := Op.move (Operand.tmp 2), type := 3, pos := "law.go:214", after := #[{ on := 9, ground := Ground.guard }], guard := some (9, true) }, { dst := some 97, op := Op.call { callee := Callee.value (Operand.func 35), args := #[Operand.tmp 95, Operand.tmp 96], argTypes := #[30, 3] }, type := 3, pos := "law.go:214", after := #[{ on := 10, ground := Ground.data }, { on := 11, ground := Ground.data }, { on := 9, ground := Ground.chain }, { on := 9, ground := Ground.guard }], guard := some (9, true) }, { dst := some 98, op := Op.move (Operand.tmp 10), type := 3, pos := "law.go:214", after := #[{ on := 9, ground := Ground.guard }], guard := some (9, true) }, { dst := some 99, op := Op.load 30 (Operand.tmp 7), type := 30, pos := "law.go:214", after := #[{ on := 9, ground := Ground.guard }], guard := some (9, true) }, { dst := some 100, op := Op.move (Operand.tmp 2), type := 3, pos := "law.go:214", after := #[{ on := 9, ground := Ground.guard }], guard := some (9, true) }, { dst := some 101, op := Op.call { callee := Callee.value (Operand.func 35), args := #[Operand.tmp 99, Operand.tmp 100], argTypes := #[30, 3] }, type := 3, pos := "law.go:214", after := #[{ on := 14, ground := Ground.data }, { on := 15, ground := Ground.data }, { on := 12, ground := Ground.chain }, { on := 9, ground := Ground.guard }], guard := some (9, true) }, { dst := some 102, op := Op.binOp BinOp.add 3 (Operand.tmp 98) (Operand.tmp 101) 3, type := 3, pos := "law.go:214", after := #[{ on := 13, ground := Ground.data }, { on := 16, ground := Ground.data }, { on := 9, ground := Ground.guard }], guard := some (9, true) }, { dst := some 103, op := Op.load 30 (Operand.tmp 8), type := 30, pos := "law.go:214", after := #[{ on := 9, ground := Ground.guard }], guard := some (9, true) }, { dst := some 104, op := Op.move (Operand.tmp 2), type := 3, pos := "law.go:214", after := #[{ on := 9, ground := Ground.guard }], guard := some (9, true) }, { dst := some 105, op := Op.call { callee := Callee.value (Operand.func 35), args := #[Operand.tmp 103, Operand.tmp 104], argTypes := #[30, 3] }, type := 3, pos := "law.go:214", after := #[{ on := 18, ground := Ground.data }, { on := 19, ground := Ground.data }, { on := 16, ground := Ground.chain }, { on := 9, ground := Ground.guard }], guard := some (9, true) }, { dst := some 106, op := Op.binOp BinOp.add 3 (Operand.tmp 102) (Operand.tmp 105) 3, type := 3, pos := "law.go:214", after := #[{ on := 17, ground := Ground.data }, { on := 20, ground := Ground.data }, { on := 9, ground := Ground.guard }], guard := some (9, true) }, { dst := some 107, op := Op.binOp BinOp.eql 3 (Operand.tmp 97) (Operand.tmp 106) 3, type := 4, pos := "law.go:214", after := #[{ on := 12, ground := Ground.data }, { on := 21, ground := Ground.data }, { on := 9, ground := Ground.guard }], guard := some (9, true) }, { dst := some 108, op := Op.pick (Operand.tmp 94) (Operand.tmp 107) (Operand.const (Value.bool false)), type := 4, pos := "law.go:214", after := #[{ on := 9, ground := Ground.data }, { on := 22, ground := Ground.data }], guard := none }, { dst := some 109, op := Op.move (Operand.tmp 108), type := 4, pos := "law.go:214", after := #[{ on := 23, ground := Ground.data }, { on := 20, ground := Ground.chain }], guard := none }, { dst := some 110, op := Op.load 30 (Operand.tmp 9), type := 30, pos := "law.go:214", after := #[{ on := 24, ground := Ground.guard }], guard := some (24, true) }, { dst := some 111, op := Op.call { callee := Callee.value (Operand.func 23), args := #[Operand.tmp 110], argTypes := #[30] }, type := 32, pos := "law.go:214", after := #[{ on := 25, ground := Ground.data }, { on := 24, ground := Ground.chain }, { on := 24, ground := Ground.guard }], guard := some (24, true) }, { dst := some 112, op := Op.call { callee := Callee.builtin Builtin.len, args := #[Operand.tmp 111], argTypes := #[32] }, type := 3, pos := "law.go:214", after := #[{ on := 26, ground := Ground.data }, { on := 24, ground := Ground.guard }], guard := some (24, true) }, { dst := some 113, op := Op.load 30 (Operand.tmp 9), type := 30, pos := "law.go:214", after := #[{ on := 24, ground := Ground.guard }], guard := some (24, true) }, { dst := some 114, op := Op.call { callee := Callee.value (Operand.func 34), args := #[Operand.tmp 113], argTypes := #[30] }, type := 3, pos := "law.go:214", after := #[{ on := 28, ground := Ground.data }, { on := 26, ground := Ground.chain }, { on := 24, ground := Ground.guard }], guard := some (24, true) }, { dst := some 115, op := Op.binOp BinOp.eql 3 (Operand.tmp 112) (Operand.tmp 114) 3, type := 4, pos := "law.go:214", after := #[{ on := 27, ground := Ground.data }, { on := 29, ground := Ground.data }, { on := 24, ground := Ground.guard }], guard := some (24, true) }, { dst := some 116, op := Op.pick (Operand.tmp 109) (Operand.tmp 115) (Operand.const (Value.bool false)), type := 4, pos := "law.go:214", after := #[{ on := 24, ground := Ground.data }, { on := 30, ground := Ground.data }], guard := none }, { dst := some 6, op := Op.assign (Operand.tmp 116), type := 4, pos := "law.go:214", after := #[{ on := 31, ground := Ground.data }, { on := 29, ground := Ground.chain }, { on := 0, ground := Ground.phase }, { on := 1, ground := Ground.phase }, { on := 2, ground := Ground.phase }, { on := 3, ground := Ground.phase }, { on := 4, ground := Ground.phase }, { on := 5, ground := Ground.phase }, { on := 6, ground := Ground.phase }, { on := 7, ground := Ground.phase }, { on := 8, ground := Ground.phase }, { on := 9, ground := Ground.phase }, { on := 10, ground := Ground.phase }, { on := 11, ground := Ground.phase }, { on := 12, ground := Ground.phase }, { on := 13, ground := Ground.phase }, { on := 14, ground := Ground.phase }, { on := 15, ground := Ground.phase }, { on := 16, ground := Ground.phase }, { on := 17, ground := Ground.phase }, { on := 18, ground := Ground.phase }, { on := 19, ground := Ground.phase }, { on := 20, ground := Ground.phase }, { on := 21, ground := Ground.phase }, { on := 22, ground := Ground.phase }, { on := 23, ground := Ground.phase }, { on := 24, ground := Ground.phase }, { on := 25, ground := Ground.phase }, { on := 26, ground := Ground.phase }, { on := 27, ground := Ground.phase }, { on := 28, ground := Ground.phase }, { on := 29, ground := Ground.phase }, { on := 30, ground := Ground.phase }, { on := 31, ground := Ground.phase }], guard := none }] a.tmps.size = true)
    (hT2 : a.tmps.getD 2 undef = .int .i64 f)
    (hT10 : a.tmps.getD 10 undef = .int .i64 nn)
    (hT9 : a.tmps.getD 9 undef = .pointer (some ⟨gz, 0, none⟩)) (hX9 : w.heap[gz]? = some (.cells #[zf, zl] 30 (0, 0)))
    (hT7 : a.tmps.getD 7 undef = .pointer (some ⟨ga, 0, none⟩)) (hX7 : w.heap[ga]? = some (.cells #[xf, xl] 30 (0, 0)))
    (hT8 : a.tmps.getD 8 undef = .pointer (some ⟨gb, 0, none⟩)) (hX8 : w.heap[gb]? = some (.cells #[yf, yl] 30 (0, 0)))
    (hF1 : ∀ w1, Below w.heap.size w w1 → Calls Try.prog 34 #[.agg #[zf, zl]] w1 fun e w2 => e = .returned (.int .i64 (sz : Int)) ∧ Below w1.heap.size w1 w2)
    (hF3 : ∀ w1, Below w.heap.size w w1 → Calls Try.prog 34 #[.agg #[xf, xl]] w1 fun e w2 => e = .returned (.int .i64 (sa : Int)) ∧ Below w1.heap.size w1 w2)
    (hF6 : ∀ w1, Below w.heap.size w w1 → Calls Try.prog 34 #[.agg #[yf, yl]] w1 fun e w2 => e = .returned (.int .i64 (sb : Int)) ∧ Below w1.heap.size w1 w2)
    (hF12 : ∀ w1, Below w.heap.size w w1 → Calls Try.prog 35 #[.agg #[zf, zl], .int .i64 f] w1 fun e w2 => e = .returned (.int .i64 (cz : Int)) ∧ Below w1.heap.size w1 w2)
    (hF16 : ∀ w1, Below w.heap.size w w1 → Calls Try.prog 35 #[.agg #[xf, xl], .int .i64 f] w1 fun e w2 => e = .returned (.int .i64 (ca : Int)) ∧ Below w1.heap.size w1 w2)
    (hF20 : ∀ w1, Below w.heap.size w w1 → Calls Try.prog 35 #[.agg #[yf, yl], .int .i64 f] w1 fun e w2 => e = .returned (.int .i64 (cb : Int)) ∧ Below w1.heap.size w1 w2)
    (hF26 : ∀ w1, Below w.heap.size w w1 → Calls Try.prog 23 #[.agg #[zf, zl]] w1 fun e w2 => ∃ u, e = .returned u ∧ RowTold (Kd.slice 3 (Kd.int .i64)) PZ u w2 ∧ Below w1.heap.size w1 w2)
    (hF29 : ∀ w1, Below w.heap.size w w1 → Calls Try.prog 34 #[.agg #[zf, zl]] w1 fun e w2 => e = .returned (.int .i64 (sz : Int)) ∧ Below w1.heap.size w1 w2)
    (h1 : sz = 1 + sa + sb) (h2 : (cz : Int) = nn + ca + cb) (h3 : PZ.length = sz) (h4 : sa ≤ 60) (h5 : sb ≤ 60) (h6 : ca ≤ 60) (h7 : cb ≤ 60) (h8 : nn = 0 ∨ nn = 1)
    (hK : ∀ v w', Below w.heap.size w w' → v 32 = .bool true → Q .normal { tmps := layL [some 85, some 86, some 87, some 88, some 89, some 90, some 91, some 92, some 93, some 94, some 95, some 96, some 97, some 98, some 99, some 100, some 101, some 102, some 103, some 104, some 105, some 106, some 107, some 108, some 109, some 110, some 111, some 112, some 113, some 114, some 115, some 116, some 6] 0 v a.tmps, defers := a.defers } w') :
    (Code.region id #[{ dst := some 85, op := Op.load 30 (Operand.tmp 9), type := 30, pos := "law.go:214", after := #[], guard := none }, { dst := some 86, op := Op.call { callee := Callee.value (Operand.func 34), args := #[Operand.tmp 85], argTypes := #[30] }, type := 3, pos := "law.go:214", after := #[{ on := 0, ground := Ground.data }], guard := none }, { dst := some 87, op := Op.load 30 (Operand.tmp 7), type := 30, pos := "law.go:214", after := #[], guard := none }, { dst := some 88, op := Op.call { callee := Callee.value (Operand.func 34), args := #[Operand.tmp 87], argTypes := #[30] }, type := 3, pos := "law.go:214", after := #[{ on := 2, ground := Ground.data }, { on := 1, ground := Ground.chain }], guard := none }, { dst := some 89, op := Op.binOp BinOp.add 3 (Operand.const (Value.int IntKind.i64 1)) (Operand.tmp 88) 3, type := 3, pos := "law.go:214", after := #[{ on := 3, ground := Ground.data }], guard := none }, { dst := some 90, op := Op.load 30 (Operand.tmp 8), type := 30, pos := "law.go:214", after := #[], guard := none }, { dst := some 91, op := Op.call { callee := Callee.value (Operand.func 34), args := #[Operand.tmp 90], argTypes := #[30] }, type := 3, pos := "law.go:214", after := #[{ on := 5, ground := Ground.data }, { on := 3, ground := Ground.chain }], guard := none }, { dst := some 92, op := Op.binOp BinOp.add 3 (Operand.tmp 89) (Operand.tmp 91) 3, type := 3, pos := "law.go:214", after := #[{ on := 4, ground := Ground.data }, { on := 6, ground := Ground.data }], guard := none }, { dst := some 93, op := Op.binOp BinOp.eql 3 (Operand.tmp 86) (Operand.tmp 92) 3, type := 4, pos := "law.go:214", after := #[{ on := 1, ground := Ground.data }, { on := 7, ground := Ground.data }], guard := none }, { dst := some 94, op := Op.move (Operand.tmp 93), type := 4, pos := "law.go:214", after := #[{ on := 8, ground := Ground.data }, { on := 6, ground := Ground.chain }], guard := none }, { dst := some 95, op := Op.load 30 (Operand.tmp 9), type := 30, pos := "law.go:214", after := #[{ on := 9, ground := Ground.guard }], guard := some (9, true) }, { dst := some 96, op := Op.move (Operand.tmp 2), type := 3, pos := "law.go:214", after := #[{ on := 9, ground := Ground.guard }], guard := some (9, true) }, { dst := some 97, op := Op.call { callee := Callee.value (Operand.func 35), args := #[Operand.tmp 95, Operand.tmp 96], argTypes := #[30, 3] }, type := 3, pos := "law.go:214", after := #[{ on := 10, ground := Ground.data }, { on := 11, ground := Ground.data }, { on := 9, ground := Ground.chain }, { on := 9, ground := Ground.guard }], guard := some (9, true) }, { dst := some 98, op := Op.move (Operand.tmp 10), type := 3, pos := "law.go:214", after := #[{ on := 9, ground := Ground.guard }], guard := some (9, true) }, { dst := some 99, op := Op.load 30 (Operand.tmp 7), type := 30, pos := "law.go:214", after := #[{ on := 9, ground := Ground.guard }], guard := some (9, true) }, { dst := some 100, op := Op.move (Operand.tmp 2), type := 3, pos := "law.go:214", after := #[{ on := 9, ground := Ground.guard }], guard := some (9, true) }, { dst := some 101, op := Op.call { callee := Callee.value (Operand.func 35), args := #[Operand.tmp 99, Operand.tmp 100], argTypes := #[30, 3] }, type := 3, pos := "law.go:214", after := #[{ on := 14, ground := Ground.data }, { on := 15, ground := Ground.data }, { on := 12, ground := Ground.chain }, { on := 9, ground := Ground.guard }], guard := some (9, true) }, { dst := some 102, op := Op.binOp BinOp.add 3 (Operand.tmp 98) (Operand.tmp 101) 3, type := 3, pos := "law.go:214", after := #[{ on := 13, ground := Ground.data }, { on := 16, ground := Ground.data }, { on := 9, ground := Ground.guard }], guard := some (9, true) }, { dst := some 103, op := Op.load 30 (Operand.tmp 8), type := 30, pos := "law.go:214", after := #[{ on := 9, ground := Ground.guard }], guard := some (9, true) }, { dst := some 104, op := Op.move (Operand.tmp 2), type := 3, pos := "law.go:214", after := #[{ on := 9, ground := Ground.guard }], guard := some (9, true) }, { dst := some 105, op := Op.call { callee := Callee.value (Operand.func 35), args := #[Operand.tmp 103, Operand.tmp 104], argTypes := #[30, 3] }, type := 3, pos := "law.go:214", after := #[{ on := 18, ground := Ground.data }, { on := 19, ground := Ground.data }, { on := 16, ground := Ground.chain }, { on := 9, ground := Ground.guard }], guard := some (9, true) }, { dst := some 106, op := Op.binOp BinOp.add 3 (Operand.tmp 102) (Operand.tmp 105) 3, type := 3, pos := "law.go:214", after := #[{ on := 17, ground := Ground.data }, { on := 20, ground := Ground.data }, { on := 9, ground := Ground.guard }], guard := some (9, true) }, { dst := some 107, op := Op.binOp BinOp.eql 3 (Operand.tmp 97) (Operand.tmp 106) 3, type := 4, pos := "law.go:214", after := #[{ on := 12, ground := Ground.data }, { on := 21, ground := Ground.data }, { on := 9, ground := Ground.guard }], guard := some (9, true) }, { dst := some 108, op := Op.pick (Operand.tmp 94) (Operand.tmp 107) (Operand.const (Value.bool false)), type := 4, pos := "law.go:214", after := #[{ on := 9, ground := Ground.data }, { on := 22, ground := Ground.data }], guard := none }, { dst := some 109, op := Op.move (Operand.tmp 108), type := 4, pos := "law.go:214", after := #[{ on := 23, ground := Ground.data }, { on := 20, ground := Ground.chain }], guard := none }, { dst := some 110, op := Op.load 30 (Operand.tmp 9), type := 30, pos := "law.go:214", after := #[{ on := 24, ground := Ground.guard }], guard := some (24, true) }, { dst := some 111, op := Op.call { callee := Callee.value (Operand.func 23), args := #[Operand.tmp 110], argTypes := #[30] }, type := 32, pos := "law.go:214", after := #[{ on := 25, ground := Ground.data }, { on := 24, ground := Ground.chain }, { on := 24, ground := Ground.guard }], guard := some (24, true) }, { dst := some 112, op := Op.call { callee := Callee.builtin Builtin.len, args := #[Operand.tmp 111], argTypes := #[32] }, type := 3, pos := "law.go:214", after := #[{ on := 26, ground := Ground.data }, { on := 24, ground := Ground.guard }], guard := some (24, true) }, { dst := some 113, op := Op.load 30 (Operand.tmp 9), type := 30, pos := "law.go:214", after := #[{ on := 24, ground := Ground.guard }], guard := some (24, true) }, { dst := some 114, op := Op.call { callee := Callee.value (Operand.func 34), args := #[Operand.tmp 113], argTypes := #[30] }, type := 3, pos := "law.go:214", after := #[{ on := 28, ground := Ground.data }, { on := 26, ground := Ground.chain }, { on := 24, ground := Ground.guard }], guard := some (24, true) }, { dst := some 115, op := Op.binOp BinOp.eql 3 (Operand.tmp 112) (Operand.tmp 114) 3, type := 4, pos := "law.go:214", after := #[{ on := 27, ground := Ground.data }, { on := 29, ground := Ground.data }, { on := 24, ground := Ground.guard }], guard := some (24, true) }, { dst := some 116, op := Op.pick (Operand.tmp 109) (Operand.tmp 115) (Operand.const (Value.bool false)), type := 4, pos := "law.go:214", after := #[{ on := 24, ground := Ground.data }, { on := 30, ground := Ground.data }], guard := none }, { dst := some 6, op := Op.assign (Operand.tmp 116), type := 4, pos := "law.go:214", after := #[{ on := 31, ground := Ground.data }, { on := 29, ground := Ground.chain }, { on := 0, ground := Ground.phase }, { on := 1, ground := Ground.phase }, { on := 2, ground := Ground.phase }, { on := 3, ground := Ground.phase }, { on := 4, ground := Ground.phase }, { on := 5, ground := Ground.phase }, { on := 6, ground := Ground.phase }, { on := 7, ground := Ground.phase }, { on := 8, ground := Ground.phase }, { on := 9, ground := Ground.phase }, { on := 10, ground := Ground.phase }, { on := 11, ground := Ground.phase }, { on := 12, ground := Ground.phase }, { on := 13, ground := Ground.phase }, { on := 14, ground := Ground.phase }, { on := 15, ground := Ground.phase }, { on := 16, ground := Ground.phase }, { on := 17, ground := Ground.phase }, { on := 18, ground := Ground.phase }, { on := 19, ground := Ground.phase }, { on := 20, ground := Ground.phase }, { on := 21, ground := Ground.phase }, { on := 22, ground := Ground.phase }, { on := 23, ground := Ground.phase }, { on := 24, ground := Ground.phase }, { on := 25, ground := Ground.phase }, { on := 26, ground := Ground.phase }, { on := 27, ground := Ground.phase }, { on := 28, ground := Ground.phase }, { on := 29, ground := Ground.phase }, { on := 30, ground := Ground.phase }, { on := 31, ground := Ground.phase }], guard := none }] true).wp Try.prog Q a w := by
  have hmx : Try.prog.follows .mixedOrders = true := by kernel_rfl
  refine region_detR 33 hmx hr (by kernel_rfl) ?_
  refine DetR.is (o := { dst := some 85, op := Op.load 30 (Operand.tmp 9), type := 30, pos := "law.go:214", after := #[], guard := none }) (u := ?ux42) rfl (by decide) (fun T w' hb hd hB K hK => ?sx42) ?rx42
  case sx42 =>
    have e9 := (hB 9 (by kernel_rfl)).trans hT9
    have q9_0 : w'.cell? ⟨gz, 0, none⟩ = some (zf) := (blk_cell (blk_below hX9 hb) 0).trans rfl
    have q9_1 : w'.cell? ⟨gz, 1, none⟩ = some (zl) := (blk_cell (blk_below hX9 hb) 1).trans rfl
    rw [if_pos (wanted_none _ rfl)]
    clear hd hB
    go_simp
    exact hK _ (Below.refl _ _)
  refine DetR.is (o := { dst := some 86, op := Op.call { callee := Callee.value (Operand.func 34), args := #[Operand.tmp 85], argTypes := #[30] }, type := 3, pos := "law.go:214", after := #[{ on := 0, ground := Ground.data }], guard := none }) (u := ?ux43) rfl (by decide) (fun T w' hb hd hB K hK => ?sx43) ?rx43
  case sx43 =>
    have e85 := hd 0 85 _ (by decide) (by kernel_rfl) rfl rfl
    replace e85 : T.getD 85 undef = _ := e85
    rw [if_pos (wanted_none _ rfl)]
    have hcl := hF1 w' hb
    clear hd hB
    go_simp
    go_at_call 34
    refine hcl.mono ?_
    rintro e w2 ⟨rfl, h2⟩
    exact hK _ h2
  refine DetR.is (o := { dst := some 87, op := Op.load 30 (Operand.tmp 7), type := 30, pos := "law.go:214", after := #[], guard := none }) (u := ?ux44) rfl (by decide) (fun T w' hb hd hB K hK => ?sx44) ?rx44
  case sx44 =>
    have e7 := (hB 7 (by kernel_rfl)).trans hT7
    have q7_0 : w'.cell? ⟨ga, 0, none⟩ = some (xf) := (blk_cell (blk_below hX7 hb) 0).trans rfl
    have q7_1 : w'.cell? ⟨ga, 1, none⟩ = some (xl) := (blk_cell (blk_below hX7 hb) 1).trans rfl
    rw [if_pos (wanted_none _ rfl)]
    clear hd hB
    go_simp
    exact hK _ (Below.refl _ _)
  refine DetR.is (o := { dst := some 88, op := Op.call { callee := Callee.value (Operand.func 34), args := #[Operand.tmp 87], argTypes := #[30] }, type := 3, pos := "law.go:214", after := #[{ on := 2, ground := Ground.data }, { on := 1, ground := Ground.chain }], guard := none }) (u := ?ux45) rfl (by decide) (fun T w' hb hd hB K hK => ?sx45) ?rx45
  case sx45 =>
    have e87 := hd 2 87 _ (by decide) (by kernel_rfl) rfl rfl
    replace e87 : T.getD 87 undef = _ := e87
    rw [if_pos (wanted_none _ rfl)]
    have hcl := hF3 w' hb
    clear hd hB
    go_simp
    go_at_call 34
    refine hcl.mono ?_
    rintro e w2 ⟨rfl, h2⟩
    exact hK _ h2
  refine DetR.is (o := { dst := some 89, op := Op.binOp BinOp.add 3 (Operand.const (Value.int IntKind.i64 1)) (Operand.tmp 88) 3, type := 3, pos := "law.go:214", after := #[{ on := 3, ground := Ground.data }], guard := none }) (u := ?ux46) rfl (by decide) (fun T w' hb hd hB K hK => ?sx46) ?rx46
  case sx46 =>
    have e88 := hd 3 88 _ (by decide) (by kernel_rfl) rfl rfl
    replace e88 : T.getD 88 undef = _ := e88
    rw [if_pos (wanted_none _ rfl)]
    clear hd hB
    go_simp
    exact hK _ (Below.refl _ _)
  refine DetR.is (o := { dst := some 90, op := Op.load 30 (Operand.tmp 8), type := 30, pos := "law.go:214", after := #[], guard := none }) (u := ?ux47) rfl (by decide) (fun T w' hb hd hB K hK => ?sx47) ?rx47
  case sx47 =>
    have e8 := (hB 8 (by kernel_rfl)).trans hT8
    have q8_0 : w'.cell? ⟨gb, 0, none⟩ = some (yf) := (blk_cell (blk_below hX8 hb) 0).trans rfl
    have q8_1 : w'.cell? ⟨gb, 1, none⟩ = some (yl) := (blk_cell (blk_below hX8 hb) 1).trans rfl
    rw [if_pos (wanted_none _ rfl)]
    clear hd hB
    go_simp
    exact hK _ (Below.refl _ _)
  refine DetR.is (o := { dst := some 91, op := Op.call { callee := Callee.value (Operand.func 34), args := #[Operand.tmp 90], argTypes := #[30] }, type := 3, pos := "law.go:214", after := #[{ on := 5, ground := Ground.data }, { on := 3, ground := Ground.chain }], guard := none }) (u := ?ux48) rfl (by decide) (fun T w' hb hd hB K hK => ?sx48) ?rx48
  case sx48 =>
    have e90 := hd 5 90 _ (by decide) (by kernel_rfl) rfl rfl
    replace e90 : T.getD 90 undef = _ := e90
    rw [if_pos (wanted_none _ rfl)]
    have hcl := hF6 w' hb
    clear hd hB
    go_simp
    go_at_call 34
    refine hcl.mono ?_
    rintro e w2 ⟨rfl, h2⟩
    exact hK _ h2
  refine DetR.is (o := { dst := some 92, op := Op.binOp BinOp.add 3 (Operand.tmp 89) (Operand.tmp 91) 3, type := 3, pos := "law.go:214", after := #[{ on := 4, ground := Ground.data }, { on := 6, ground := Ground.data }], guard := none }) (u := ?ux49) rfl (by decide) (fun T w' hb hd hB K hK => ?sx49) ?rx49
  case sx49 =>
    have e89 := hd 4 89 _ (by decide) (by kernel_rfl) rfl rfl
    replace e89 : T.getD 89 undef = _ := e89
    have e91 := hd 6 91 _ (by decide) (by kernel_rfl) rfl rfl
    replace e91 : T.getD 91 undef = _ := e91
    rw [if_pos (wanted_none _ rfl)]
    clear hd hB
    go_simp
    exact hK _ (Below.refl _ _)
  refine DetR.is (o := { dst := some 93, op := Op.binOp BinOp.eql 3 (Operand.tmp 86) (Operand.tmp 92) 3, type := 4, pos := "law.go:214", after := #[{ on := 1, ground := Ground.data }, { on := 7, ground := Ground.data }], guard := none }) (u := .bool true) rfl (by decide) (fun T w' hb hd hB K hK => ?sx50) ?rx50
  case sx50 =>
    have e86 := hd 1 86 _ (by decide) (by kernel_rfl) rfl rfl
    replace e86 : T.getD 86 undef = _ := e86
    have e92 := hd 7 92 _ (by decide) (by kernel_rfl) rfl rfl
    replace e92 : T.getD 92 undef = _ := e92
    rw [if_pos (wanted_none _ rfl)]
    clear hd hB
    go_simp
    have hq : (1 + (sa : Int) + (sb : Int) == IntKind.i64.wrap (IntKind.i64.wrap (1 + (sa : Int)) + (sb : Int))) = true := by rw [beq_iff_eq]; simp only [i64_w]; unfold wrap64; omega
    rw [hq]
    exact hK _ (Below.refl _ _)
  refine DetR.is (o := { dst := some 94, op := Op.move (Operand.tmp 93), type := 4, pos := "law.go:214", after := #[{ on := 8, ground := Ground.data }, { on := 6, ground := Ground.chain }], guard := none }) (u := ?ux51) rfl (by decide) (fun T w' hb hd hB K hK => ?sx51) ?rx51
  case sx51 =>
    have e93 := hd 8 93 _ (by decide) (by kernel_rfl) rfl rfl
    replace e93 : T.getD 93 undef = _ := e93
    rw [if_pos (wanted_none _ rfl)]
    clear hd hB
    go_simp
    exact hK _ (Below.refl _ _)
  refine DetR.is (o := { dst := some 95, op := Op.load 30 (Operand.tmp 9), type := 30, pos := "law.go:214", after := #[{ on := 9, ground := Ground.guard }], guard := some (9, true) }) (u := ?ux52) rfl (by decide) (fun T w' hb hd hB K hK => ?sx52) ?rx52
  case sx52 =>
    have e9 := (hB 9 (by kernel_rfl)).trans hT9
    have q9_0 : w'.cell? ⟨gz, 0, none⟩ = some (zf) := (blk_cell (blk_below hX9 hb) 0).trans rfl
    have q9_1 : w'.cell? ⟨gz, 1, none⟩ = some (zl) := (blk_cell (blk_below hX9 hb) 1).trans rfl
    have eg := hd 9 94 _ (by decide) (by kernel_rfl) rfl rfl
    replace eg : T.getD 94 undef = .bool true := eg
    rw [if_pos (wanted_yes 9 94 true rfl rfl eg)]
    clear eg
    clear hd hB
    go_simp
    exact hK _ (Below.refl _ _)
  refine DetR.is (o := { dst := some 96, op := Op.move (Operand.tmp 2), type := 3, pos := "law.go:214", after := #[{ on := 9, ground := Ground.guard }], guard := some (9, true) }) (u := ?ux53) rfl (by decide) (fun T w' hb hd hB K hK => ?sx53) ?rx53
  case sx53 =>
    have e2 := (hB 2 (by kernel_rfl)).trans hT2
    have eg := hd 9 94 _ (by decide) (by kernel_rfl) rfl rfl
    replace eg : T.getD 94 undef = .bool true := eg
    rw [if_pos (wanted_yes 9 94 true rfl rfl eg)]
    clear eg
    clear hd hB
    go_simp
    exact hK _ (Below.refl _ _)
  refine DetR.is (o := { dst := some 97, op := Op.call { callee := Callee.value (Operand.func 35), args := #[Operand.tmp 95, Operand.tmp 96], argTypes := #[30, 3] }, type := 3, pos := "law.go:214", after := #[{ on := 10, ground := Ground.data }, { on := 11, ground := Ground.data }, { on := 9, ground := Ground.chain }, { on := 9, ground := Ground.guard }], guard := some (9, true) }) (u := ?ux54) rfl (by decide) (fun T w' hb hd hB K hK => ?sx54) ?rx54
  case sx54 =>
    have e95 := hd 10 95 _ (by decide) (by kernel_rfl) rfl rfl
    replace e95 : T.getD 95 undef = _ := e95
    have e96 := hd 11 96 _ (by decide) (by kernel_rfl) rfl rfl
    replace e96 : T.getD 96 undef = _ := e96
    have eg := hd 9 94 _ (by decide) (by kernel_rfl) rfl rfl
    replace eg : T.getD 94 undef = .bool true := eg
    rw [if_pos (wanted_yes 9 94 true rfl rfl eg)]
    clear eg
    have hcl := hF12 w' hb
    clear hd hB
    go_simp
    go_at_call 35
    refine hcl.mono ?_
    rintro e w2 ⟨rfl, h2⟩
    exact hK _ h2
  refine DetR.is (o := { dst := some 98, op := Op.move (Operand.tmp 10), type := 3, pos := "law.go:214", after := #[{ on := 9, ground := Ground.guard }], guard := some (9, true) }) (u := ?ux55) rfl (by decide) (fun T w' hb hd hB K hK => ?sx55) ?rx55
  case sx55 =>
    have e10 := (hB 10 (by kernel_rfl)).trans hT10
    have eg := hd 9 94 _ (by decide) (by kernel_rfl) rfl rfl
    replace eg : T.getD 94 undef = .bool true := eg
    rw [if_pos (wanted_yes 9 94 true rfl rfl eg)]
    clear eg
    clear hd hB
    go_simp
    exact hK _ (Below.refl _ _)
  refine DetR.is (o := { dst := some 99, op := Op.load 30 (Operand.tmp 7), type := 30, pos := "law.go:214", after := #[{ on := 9, ground := Ground.guard }], guard := some (9, true) }) (u := ?ux56) rfl (by decide) (fun T w' hb hd hB K hK => ?sx56) ?rx56
  case sx56 =>
    have e7 := (hB 7 (by kernel_rfl)).trans hT7
    have q7_0 : w'.cell? ⟨ga, 0, none⟩ = some (xf) := (blk_cell (blk_below hX7 hb) 0).trans rfl
    have q7_1 : w'.cell? ⟨ga, 1, none⟩ = some (xl) := (blk_cell (blk_below hX7 hb) 1).trans rfl
    have eg := hd 9 94 _ (by decide) (by kernel_rfl) rfl rfl
    replace eg : T.getD 94 undef = .bool true := eg
    rw [if_pos (wanted_yes 9 94 true rfl rfl eg)]
    clear eg
    clear hd hB
    go_simp
    exact hK _ (Below.refl _ _)
  refine DetR.is (o := { dst := some 100, op := Op.move (Operand.tmp 2), type := 3, pos := "law.go:214", after := #[{ on := 9, ground := Ground.guard }], guard := some (9, true) }) (u := ?ux57) rfl (by decide) (fun T w' hb hd hB K hK => ?sx57) ?rx57
  case sx57 =>
    have e2 := (hB 2 (by kernel_rfl)).trans hT2
    have eg := hd 9 94 _ (by decide) (by kernel_rfl) rfl rfl
    replace eg : T.getD 94 undef = .bool true := eg
    rw [if_pos (wanted_yes 9 94 true rfl rfl eg)]
    clear eg
    clear hd hB
    go_simp
    exact hK _ (Below.refl _ _)
  refine DetR.is (o := { dst := some 101, op := Op.call { callee := Callee.value (Operand.func 35), args := #[Operand.tmp 99, Operand.tmp 100], argTypes := #[30, 3] }, type := 3, pos := "law.go:214", after := #[{ on := 14, ground := Ground.data }, { on := 15, ground := Ground.data }, { on := 12, ground := Ground.chain }, { on := 9, ground := Ground.guard }], guard := some (9, true) }) (u := ?ux58) rfl (by decide) (fun T w' hb hd hB K hK => ?sx58) ?rx58
  case sx58 =>
    have e99 := hd 14 99 _ (by decide) (by kernel_rfl) rfl rfl
    replace e99 : T.getD 99 undef = _ := e99
    have e100 := hd 15 100 _ (by decide) (by kernel_rfl) rfl rfl
    replace e100 : T.getD 100 undef = _ := e100
    have eg := hd 9 94 _ (by decide) (by kernel_rfl) rfl rfl
    replace eg : T.getD 94 undef = .bool true := eg
    rw [if_pos (wanted_yes 9 94 true rfl rfl eg)]
    clear eg
    have hcl := hF16 w' hb
    clear hd hB
    go_simp
    go_at_call 35
    refine hcl.mono ?_
    rintro e w2 ⟨rfl, h2⟩
    exact hK _ h2
  refine DetR.is (o := { dst := some 102, op := Op.binOp BinOp.add 3 (Operand.tmp 98) (Operand.tmp 101) 3, type := 3, pos := "law.go:214", after := #[{ on := 13, ground := Ground.data }, { on := 16, ground := Ground.data }, { on := 9, ground := Ground.guard }], guard := some (9, true) }) (u := ?ux59) rfl (by decide) (fun T w' hb hd hB K hK => ?sx59) ?rx59
  case sx59 =>
    have e98 := hd 13 98 _ (by decide) (by kernel_rfl) rfl rfl
    replace e98 : T.getD 98 undef = _ := e98
    have e101 := hd 16 101 _ (by decide) (by kernel_rfl) rfl rfl
    replace e101 : T.getD 101 undef = _ := e101
    have eg := hd 9 94 _ (by decide) (by kernel_rfl) rfl rfl
    replace eg : T.getD 94 undef = .bool true := eg
    rw [if_pos (wanted_yes 9 94 true rfl rfl eg)]
    clear eg
    clear hd hB
    go_simp
    exact hK _ (Below.refl _ _)
  refine DetR.is (o := { dst := some 103, op := Op.load 30 (Operand.tmp 8), type := 30, pos := "law.go:214", after := #[{ on := 9, ground := Ground.guard }], guard := some (9, true) }) (u := ?ux60) rfl (by decide) (fun T w' hb hd hB K hK => ?sx60) ?rx60
  case sx60 =>
    have e8 := (hB 8 (by kernel_rfl)).trans hT8
    have q8_0 : w'.cell? ⟨gb, 0, none⟩ = some (yf) := (blk_cell (blk_below hX8 hb) 0).trans rfl
    have q8_1 : w'.cell? ⟨gb, 1, none⟩ = some (yl) := (blk_cell (blk_below hX8 hb) 1).trans rfl
    have eg := hd 9 94 _ (by decide) (by kernel_rfl) rfl rfl
    replace eg : T.getD 94 undef = .bool true := eg
    rw [if_pos (wanted_yes 9 94 true rfl rfl eg)]
    clear eg
    clear hd hB
    go_simp
    exact hK _ (Below.refl _ _)
  refine DetR.is (o := { dst := some 104, op := Op.move (Operand.tmp 2), type := 3, pos := "law.go:214", after := #[{ on := 9, ground := Ground.guard }], guard := some (9, true) }) (u := ?ux61) rfl (by decide) (fun T w' hb hd hB K hK => ?sx61) ?rx61
  case sx61 =>
    have e2 := (hB 2 (by kernel_rfl)).trans hT2
    have eg := hd 9 94 _ (by decide) (by kernel_rfl) rfl rfl
    replace eg : T.getD 94 undef = .bool true := eg
    rw [if_pos (wanted_yes 9 94 true rfl rfl eg)]
    clear eg
    clear hd hB
    go_simp
    exact hK _ (Below.refl _ _)
  refine DetR.is (o := { dst := some 105, op := Op.call { callee := Callee.value (Operand.func 35), args := #[Operand.tmp 103, Operand.tmp 104], argTypes := #[30, 3] }, type := 3, pos := "law.go:214", after := #[{ on := 18, ground := Ground.data }, { on := 19, ground := Ground.data }, { on := 16, ground := Ground.chain }, { on := 9, ground := Ground.guard }], guard := some (9, true) }) (u := ?ux62) rfl (by decide) (fun T w' hb hd hB K hK => ?sx62) ?rx62
  case sx62 =>
    have e103 := hd 18 103 _ (by decide) (by kernel_rfl) rfl rfl
    replace e103 : T.getD 103 undef = _ := e103
    have e104 := hd 19 104 _ (by decide) (by kernel_rfl) rfl rfl
    replace e104 : T.getD 104 undef = _ := e104
    have eg := hd 9 94 _ (by decide) (by kernel_rfl) rfl rfl
    replace eg : T.getD 94 undef = .bool true := eg
    rw [if_pos (wanted_yes 9 94 true rfl rfl eg)]
    clear eg
    have hcl := hF20 w' hb
    clear hd hB
    go_simp
    go_at_call 35
    refine hcl.mono ?_
    rintro e w2 ⟨rfl, h2⟩
    exact hK _ h2
  refine DetR.is (o := { dst := some 106, op := Op.binOp BinOp.add 3 (Operand.tmp 102) (Operand.tmp 105) 3, type := 3, pos := "law.go:214", after := #[{ on := 17, ground := Ground.data }, { on := 20, ground := Ground.data }, { on := 9, ground := Ground.guard }], guard := some (9, true) }) (u := ?ux63) rfl (by decide) (fun T w' hb hd hB K hK => ?sx63) ?rx63
  case sx63 =>
    have e102 := hd 17 102 _ (by decide) (by kernel_rfl) rfl rfl
    replace e102 : T.getD 102 undef = _ := e102
    have e105 := hd 20 105 _ (by decide) (by kernel_rfl) rfl rfl
    replace e105 : T.getD 105 undef = _ := e105
    have eg := hd 9 94 _ (by decide) (by kernel_rfl) rfl rfl
    replace eg : T.getD 94 undef = .bool true := eg
    rw [if_pos (wanted_yes 9 94 true rfl rfl eg)]
    clear eg
    clear hd hB
    go_simp
    exact hK _ (Below.refl _ _)
  refine DetR.is (o := { dst := some 107, op := Op.binOp BinOp.eql 3 (Operand.tmp 97) (Operand.tmp 106) 3, type := 4, pos := "law.go:214", after := #[{ on := 12, ground := Ground.data }, { on := 21, ground := Ground.data }, { on := 9, ground := Ground.guard }], guard := some (9, true) }) (u := .bool true) rfl (by decide) (fun T w' hb hd hB K hK => ?sx64) ?rx64
  case sx64 =>
    have e97 := hd 12 97 _ (by decide) (by kernel_rfl) rfl rfl
    replace e97 : T.getD 97 undef = _ := e97
    have e106 := hd 21 106 _ (by decide) (by kernel_rfl) rfl rfl
    replace e106 : T.getD 106 undef = _ := e106
    have eg := hd 9 94 _ (by decide) (by kernel_rfl) rfl rfl
    replace eg : T.getD 94 undef = .bool true := eg
    rw [if_pos (wanted_yes 9 94 true rfl rfl eg)]
    clear eg
    clear hd hB
    go_simp
    have hq : (nn + (ca : Int) + (cb : Int) == IntKind.i64.wrap (IntKind.i64.wrap (nn + (ca : Int)) + (cb : Int))) = true := by rw [beq_iff_eq]; simp only [i64_w]; unfold wrap64; omega
    rw [hq]
    exact hK _ (Below.refl _ _)
  refine DetR.is (o := { dst := some 108, op := Op.pick (Operand.tmp 94) (Operand.tmp 107) (Operand.const (Value.bool false)), type := 4, pos := "law.go:214", after := #[{ on := 9, ground := Ground.data }, { on := 22, ground := Ground.data }], guard := none }) (u := ?ux65) rfl (by decide) (fun T w' hb hd hB K hK => ?sx65) ?rx65
  case sx65 =>
    have e94 := hd 9 94 _ (by decide) (by kernel_rfl) rfl rfl
    replace e94 : T.getD 94 undef = _ := e94
    have e107 := hd 22 107 _ (by decide) (by kernel_rfl) rfl rfl
    replace e107 : T.getD 107 undef = _ := e107
    rw [if_pos (wanted_none _ rfl)]
    clear hd hB
    go_simp
    exact hK _ (Below.refl _ _)
  refine DetR.is (o := { dst := some 109, op := Op.move (Operand.tmp 108), type := 4, pos := "law.go:214", after := #[{ on := 23, ground := Ground.data }, { on := 20, ground := Ground.chain }], guard := none }) (u := ?ux66) rfl (by decide) (fun T w' hb hd hB K hK => ?sx66) ?rx66
  case sx66 =>
    have e108 := hd 23 108 _ (by decide) (by kernel_rfl) rfl rfl
    replace e108 : T.getD 108 undef = _ := e108
    rw [if_pos (wanted_none _ rfl)]
    clear hd hB
    go_simp
    exact hK _ (Below.refl _ _)
  refine DetR.is (o := { dst := some 110, op := Op.load 30 (Operand.tmp 9), type := 30, pos := "law.go:214", after := #[{ on := 24, ground := Ground.guard }], guard := some (24, true) }) (u := ?ux67) rfl (by decide) (fun T w' hb hd hB K hK => ?sx67) ?rx67
  case sx67 =>
    have e9 := (hB 9 (by kernel_rfl)).trans hT9
    have q9_0 : w'.cell? ⟨gz, 0, none⟩ = some (zf) := (blk_cell (blk_below hX9 hb) 0).trans rfl
    have q9_1 : w'.cell? ⟨gz, 1, none⟩ = some (zl) := (blk_cell (blk_below hX9 hb) 1).trans rfl
    have eg := hd 24 109 _ (by decide) (by kernel_rfl) rfl rfl
    replace eg : T.getD 109 undef = .bool true := eg
    rw [if_pos (wanted_yes 24 109 true rfl rfl eg)]
    clear eg
    clear hd hB
    go_simp
    exact hK _ (Below.refl _ _)
  refine DetR.cons (o := { dst := some 111, op := Op.call { callee := Callee.value (Operand.func 23), args := #[Operand.tmp 110], argTypes := #[30] }, type := 32, pos := "law.go:214", after := #[{ on := 25, ground := Ground.data }, { on := 24, ground := Ground.chain }, { on := 24, ground := Ground.guard }], guard := some (24, true) }) (RowTold (Kd.slice 3 (Kd.int .i64)) PZ) rfl (by decide) (RowTold.grows _ _) (fun T w' hb hd hB K hK => ?sx68) ?rx68
  case sx68 =>
    have e110 := hd 25 110 _ (by decide) (by kernel_rfl) rfl rfl
    replace e110 : T.getD 110 undef = _ := e110
    have eg := hd 24 109 _ (by decide) (by kernel_rfl) rfl rfl
    replace eg : T.getD 109 undef = .bool true := eg
    rw [if_pos (wanted_yes 24 109 true rfl rfl eg)]
    clear eg
    have hcl := hF26 w' hb
    clear hd hB
    go_simp
    go_at_call 23
    refine hcl.mono ?_
    rintro e w2 ⟨u, rfl, h1, h2⟩
    exact hK _ _ h2 h1
  refine DetR.is (o := { dst := some 112, op := Op.call { callee := Callee.builtin Builtin.len, args := #[Operand.tmp 111], argTypes := #[32] }, type := 3, pos := "law.go:214", after := #[{ on := 26, ground := Ground.data }, { on := 24, ground := Ground.guard }], guard := some (24, true) }) (u := ?ux69) rfl (by decide) (fun T w' hb hd hB K hK => ?sx69) ?rx69
  case sx69 =>
    obtain ⟨A111, c111, e111, hl111, hC111⟩ := (hd 26 111 _ (by decide) (by kernel_rfl) rfl rfl)
    have eg := hd 24 109 _ (by decide) (by kernel_rfl) rfl rfl
    replace eg : T.getD 109 undef = .bool true := eg
    rw [if_pos (wanted_yes 24 109 true rfl rfl eg)]
    clear eg
    clear hd hB
    go_simp
    exact hK _ (Below.refl _ _)
  refine DetR.is (o := { dst := some 113, op := Op.load 30 (Operand.tmp 9), type := 30, pos := "law.go:214", after := #[{ on := 24, ground := Ground.guard }], guard := some (24, true) }) (u := ?ux70) rfl (by decide) (fun T w' hb hd hB K hK => ?sx70) ?rx70
  case sx70 =>
    have e9 := (hB 9 (by kernel_rfl)).trans hT9
    have q9_0 : w'.cell? ⟨gz, 0, none⟩ = some (zf) := (blk_cell (blk_below hX9 hb) 0).trans rfl
    have q9_1 : w'.cell? ⟨gz, 1, none⟩ = some (zl) := (blk_cell (blk_below hX9 hb) 1).trans rfl
    have eg := hd 24 109 _ (by decide) (by kernel_rfl) rfl rfl
    replace eg : T.getD 109 undef = .bool true := eg
    rw [if_pos (wanted_yes 24 109 true rfl rfl eg)]
    clear eg
    clear hd hB
    go_simp
    exact hK _ (Below.refl _ _)
  refine DetR.is (o := { dst := some 114, op := Op.call { callee := Callee.value (Operand.func 34), args := #[Operand.tmp 113], argTypes := #[30] }, type := 3, pos := "law.go:214", after := #[{ on := 28, ground := Ground.data }, { on := 26, ground := Ground.chain }, { on := 24, ground := Ground.guard }], guard := some (24, true) }) (u := ?ux71) rfl (by decide) (fun T w' hb hd hB K hK => ?sx71) ?rx71
  case sx71 =>
    have e113 := hd 28 113 _ (by decide) (by kernel_rfl) rfl rfl
    replace e113 : T.getD 113 undef = _ := e113
    have eg := hd 24 109 _ (by decide) (by kernel_rfl) rfl rfl
    replace eg : T.getD 109 undef = .bool true := eg
    rw [if_pos (wanted_yes 24 109 true rfl rfl eg)]
    clear eg
    have hcl := hF29 w' hb
    clear hd hB
    go_simp
    go_at_call 34
    refine hcl.mono ?_
    rintro e w2 ⟨rfl, h2⟩
    exact hK _ h2
  refine DetR.is (o := { dst := some 115, op := Op.binOp BinOp.eql 3 (Operand.tmp 112) (Operand.tmp 114) 3, type := 4, pos := "law.go:214", after := #[{ on := 27, ground := Ground.data }, { on := 29, ground := Ground.data }, { on := 24, ground := Ground.guard }], guard := some (24, true) }) (u := .bool true) rfl (by decide) (fun T w' hb hd hB K hK => ?sx72) ?rx72
  case sx72 =>
    have e112 := hd 27 112 _ (by decide) (by kernel_rfl) rfl rfl
    replace e112 : T.getD 112 undef = _ := e112
    have e114 := hd 29 114 _ (by decide) (by kernel_rfl) rfl rfl
    replace e114 : T.getD 114 undef = _ := e114
    have eg := hd 24 109 _ (by decide) (by kernel_rfl) rfl rfl
    replace eg : T.getD 109 undef = .bool true := eg
    rw [if_pos (wanted_yes 24 109 true rfl rfl eg)]
    clear eg
    clear hd hB
    go_simp
    exact hK _ (Below.refl _ _)
  refine DetR.is (o := { dst := some 116, op := Op.pick (Operand.tmp 109) (Operand.tmp 115) (Operand.const (Value.bool false)), type := 4, pos := "law.go:214", after := #[{ on := 24, ground := Ground.data }, { on := 30, ground := Ground.data }], guard := none }) (u := ?ux73) rfl (by decide) (fun T w' hb hd hB K hK => ?sx73) ?rx73
  case sx73 =>
    have e109 := hd 24 109 _ (by decide) (by kernel_rfl) rfl rfl
    replace e109 : T.getD 109 undef = _ := e109
    have e115 := hd 30 115 _ (by decide) (by kernel_rfl) rfl rfl
    replace e115 : T.getD 115 undef = _ := e115
    rw [if_pos (wanted_none _ rfl)]
    clear hd hB
    go_simp
    exact hK _ (Below.refl _ _)
  refine DetR.is (o := { dst := some 6, op := Op.assign (Operand.tmp 116), type := 4, pos := "law.go:214", after := #[{ on := 31, ground := Ground.data }, { on := 29, ground := Ground.chain }, { on := 0, ground := Ground.phase }, { on := 1, ground := Ground.phase }, { on := 2, ground := Ground.phase }, { on := 3, ground := Ground.phase }, { on := 4, ground := Ground.phase }, { on := 5, ground := Ground.phase }, { on := 6, ground := Ground.phase }, { on := 7, ground := Ground.phase }, { on := 8, ground := Ground.phase }, { on := 9, ground := Ground.phase }, { on := 10, ground := Ground.phase }, { on := 11, ground := Ground.phase }, { on := 12, ground := Ground.phase }, { on := 13, ground := Ground.phase }, { on := 14, ground := Ground.phase }, { on := 15, ground := Ground.phase }, { on := 16, ground := Ground.phase }, { on := 17, ground := Ground.phase }, { on := 18, ground := Ground.phase }, { on := 19, ground := Ground.phase }, { on := 20, ground := Ground.phase }, { on := 21, ground := Ground.phase }, { on := 22, ground := Ground.phase }, { on := 23, ground := Ground.phase }, { on := 24, ground := Ground.phase }, { on := 25, ground := Ground.phase }, { on := 26, ground := Ground.phase }, { on := 27, ground := Ground.phase }, { on := 28, ground := Ground.phase }, { on := 29, ground := Ground.phase }, { on := 30, ground := Ground.phase }, { on := 31, ground := Ground.phase }], guard := none }) (u := ?ux74) rfl (by decide) (fun T w' hb hd hB K hK => ?sx74) ?rx74
  case sx74 =>
    have e116 := hd 31 116 _ (by decide) (by kernel_rfl) rfl rfl
    replace e116 : T.getD 116 undef = _ := e116
    rw [if_pos (wanted_none _ rfl)]
    clear hd hB
    go_simp
    exact hK _ (Below.refl _ _)
  refine DetR.done [some 85, some 86, some 87, some 88, some 89, some 90, some 91, some 92, some 93, some 94, some 95, some 96, some 97, some 98, some 99, some 100, some 101, some 102, some 103, some 104, some 105, some 106, some 107, some 108, some 109, some 110, some 111, some 112, some 113, some 114, some 115, some 116, some 6] (by kernel_rfl) rfl (by kernel_rfl) ?_
  intro v w' hb hv
  exact hK v w' hb (hv 32 _ (by decide) rfl)

end Go.Proofs.Ytpfddihcikiofaa.P
