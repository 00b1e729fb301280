/- The law KboPlaces holds of every input. Part 5 of 5: GKpRegs, GKboPlaces, LawKboPlaces. -/
import Derived.Test.YtpfddihcikiofaaZKboPlaces2
import Derived.Test.YtpfddihcikiofaaZKboPlaces4
import Derived.Test.YtpfddihcikiofaaRows
import Derived.WalkKit
import Derived.ProofKit
import Derived.OpenShut
import Derived.ShutString
import Derived.ChangeOld
import Derived.Below
import Derived.SizedLaws
import Derived.Test.YtpfddihcikiofaaZKboPlaces1
import Derived.Test.YtpfddihcikiofaaZKboPlaces3
section
namespace Go.Proofs.Ytpfddihcikiofaa.P
open Go.RowKit Go.Proofs.YtpfddihcikiofaaW.PrintWords Go.Proofs.YtpfddihcikiofaaW.PrintLast Go.Proofs.YtpfddihcikiofaaW.PrintMore
set_option linter.unusedVariables false
set_option linter.unusedSimpArgs false
set_option maxHeartbeats 4000000 in
set_option maxRecDepth 100000 in
theorem KboPlaces_r10e {id : Nat} {a : Act} {w : World} {Q : Exit → Act → World → Prop} {ga gz gs gb m cq : Nat} {xf xl yf yl zf zl sf sl : Value} {Aq : Option Addr} {k : Int}
    (hr : regionOk #[{ dst := some 52, op := Op.load 30 (Operand.tmp 7), type := 30, pos := "law.go:124", after := #[], guard := none }, { dst := some 53, op := Op.load 30 (Operand.tmp 13), type := 30, pos := "law.go:124", after := #[], guard := none }, { dst := some 54, op := Op.call { callee := Callee.value (Operand.func 43), args := #[Operand.tmp 52, Operand.tmp 53], argTypes := #[30, 30] }, type := 3, pos := "law.go:124", after := #[{ on := 0, ground := Ground.data }, { on := 1, ground := Ground.data }], guard := none }, { dst := some 55, op := Op.load 30 (Operand.tmp 11), type := 30, pos := "law.go:124", after := #[], guard := none }, { dst := some 56, op := Op.load 30 (Operand.tmp 8), type := 30, pos := "law.go:124", after := #[], guard := none }, { dst := some 57, op := Op.call { callee := Callee.value (Operand.func 43), args := #[Operand.tmp 55, Operand.tmp 56], argTypes := #[30, 30] }, type := 3, pos := "law.go:124", after := #[{ on := 3, ground := Ground.data }, { on := 4, ground := Ground.data }, { on := 2, ground := Ground.chain }], guard := none }, { dst := some 58, op := Op.binOp BinOp.eql 3 (Operand.tmp 54) (Operand.tmp 57) 3, type := 4, pos := "law.go:124", after := #[{ on := 2, ground := Ground.data }, { on := 5, ground := Ground.data }], guard := none }, { dst := some 59, op := Op.move (Operand.tmp 58), type := 4, pos := "law.go:124", after := #[{ on := 6, ground := Ground.data }, { on := 5, ground := Ground.chain }], guard := none }, { dst := some 60, op := Op.move (Operand.tmp 10), type := 25, pos := "law.go:124", after := #[{ on := 7, ground := Ground.guard }], guard := some (7, true) }, { dst := some 61, op := Op.call { callee := Callee.builtin Builtin.len, args := #[Operand.tmp 60], argTypes := #[25] }, type := 3, pos := "law.go:124", after := #[{ on := 8, ground := Ground.data }, { on := 7, ground := Ground.guard }], guard := some (7, true) }, { dst := some 62, op := Op.binOp BinOp.eql 3 (Operand.tmp 61) (Operand.const (Value.int IntKind.i64 0)) 3, type := 4, pos := "law.go:124", after := #[{ on := 9, ground := Ground.data }, { on := 7, ground := Ground.guard }], guard := some (7, true) }, { dst := some 63, op := Op.move (Operand.tmp 62), type := 4, pos := "law.go:124", after := #[{ on := 10, ground := Ground.data }, { on := 7, ground := Ground.chain }, { on := 7, ground := Ground.guard }], guard := some (7, true) }, { dst := some 64, op := Op.load 30 (Operand.tmp 7), type := 30, pos := "law.go:124", after := #[{ on := 11, ground := Ground.guard }], guard := some (11, false) }, { dst := some 65, op := Op.load 30 (Operand.tmp 11), type := 30, pos := "law.go:124", after := #[{ on := 11, ground := Ground.guard }], guard := some (11, false) }, { dst := some 66, op := Op.call { callee := Callee.value (Operand.func 43), args := #[Operand.tmp 64, Operand.tmp 65], argTypes := #[30, 30] }, type := 3, pos := "law.go:124", after := #[{ on := 12, ground := Ground.data }, { on := 13, ground := Ground.data }, { on := 11, ground := Ground.chain }, { on := 11, ground := Ground.guard }], guard := some (11, false) }, { dst := some 67, op := Op.binOp BinOp.eql 3 (Operand.tmp 66) (Operand.const (Value.int IntKind.i64 1)) 3, type := 4, pos := "law.go:124", after := #[{ on := 14, ground := Ground.data }, { on := 11, ground := Ground.guard }], guard := some (11, false) }, { dst := some 68, op := Op.pick (Operand.tmp 63) (Operand.const (Value.bool true)) (Operand.tmp 67), type := 4, pos := "law.go:124", after := #[{ on := 11, ground := Ground.data }, { on := 15, ground := Ground.data }, { on := 7, ground := Ground.guard }], guard := some (7, true) }, { dst := some 69, op := Op.pick (Operand.tmp 59) (Operand.tmp 68) (Operand.const (Value.bool false)), type := 4, pos := "law.go:124", after := #[{ on := 7, ground := Ground.data }, { on := 16, ground := Ground.data }], guard := none }, { dst := some 6, op := Op.assign (Operand.tmp 69), type := 4, pos := "law.go:124", after := #[{ on := 17, ground := Ground.data }, { on := 14, ground := Ground.chain }, { on := 0, ground := Ground.phase }, { on := 1, ground := Ground.phase }, { on := 2, ground := Ground.phase }, { on := 3, ground := Ground.phase }, { on := 4, ground := Ground.phase }, { on := 5, ground := Ground.phase }, { on := 6, ground := Ground.phase }, { on := 7, ground := Ground.phase }, { on := 8, ground := Ground.phase }, { on := 9, ground := Ground.phase }, { on := 10, ground := Ground.phase }, { on := 11, ground := Ground.phase }, { on := 12, ground := Ground.phase }, { on := 13, ground := Ground.phase }, { on := 14, ground := Ground.phase }, { on := 15, ground := Ground.phase }, { on := 16, ground := Ground.phase }, { on := 17, ground := Ground.phase }], guard := none }] a.tmps.size = true)
    (hT10 : a.tmps.getD 10 undef = .slice Aq m cq)
    (hT7 : a.tmps.getD 7 undef = .pointer (some ⟨ga, 0, none⟩)) (hX7 : w.heap[ga]? = some (.cells #[xf, xl] 30 (0, 0)))
    (hT13 : a.tmps.getD 13 undef = .pointer (some ⟨gz, 0, none⟩)) (hX13 : w.heap[gz]? = some (.cells #[zf, zl] 30 (0, 0)))
    (hT11 : a.tmps.getD 11 undef = .pointer (some ⟨gs, 0, none⟩)) (hX11 : w.heap[gs]? = some (.cells #[sf, sl] 30 (0, 0)))
    (hT8 : a.tmps.getD 8 undef = .pointer (some ⟨gb, 0, none⟩)) (hX8 : w.heap[gb]? = some (.cells #[yf, yl] 30 (0, 0)))
    (hF2 : ∀ w1, Below w.heap.size w w1 → Calls Try.prog 43 #[.agg #[xf, xl], .agg #[zf, zl]] w1 fun e w2 => e = .returned (.int .i64 k) ∧ Below w1.heap.size w1 w2)
    (hF5 : ∀ w1, Below w.heap.size w w1 → Calls Try.prog 43 #[.agg #[sf, sl], .agg #[yf, yl]] w1 fun e w2 => e = .returned (.int .i64 k) ∧ Below w1.heap.size w1 w2)
    (hm : ((m : Int) == 0) = true)
    (hK : ∀ v w', Below w.heap.size w w' → v 18 = .bool true → Q .normal { tmps := layL [some 52, some 53, some 54, some 55, some 56, some 57, some 58, some 59, some 60, some 61, some 62, some 63, some 64, some 65, some 66, some 67, some 68, some 69, some 6] 0 v a.tmps, defers := a.defers } w') :
    (Code.region id #[{ dst := some 52, op := Op.load 30 (Operand.tmp 7), type := 30, pos := "law.go:124", after := #[], guard := none }, { dst := some 53, op := Op.load 30 (Operand.tmp 13), type := 30, pos := "law.go:124", after := #[], guard := none }, { dst := some 54, op := Op.call { callee := Callee.value (Operand.func 43), args := #[Operand.tmp 52, Operand.tmp 53], argTypes := #[30, 30] }, type := 3, pos := "law.go:124", after := #[{ on := 0, ground := Ground.data }, { on := 1, ground := Ground.data }], guard := none }, { dst := some 55, op := Op.load 30 (Operand.tmp 11), type := 30, pos := "law.go:124", after := #[], guard := none }, { dst := some 56, op := Op.load 30 (Operand.tmp 8), type := 30, pos := "law.go:124", after := #[], guard := none }, { dst := some 57, op := Op.call { callee := Callee.value (Operand.func 43), args := #[Operand.tmp 55, Operand.tmp 56], argTypes := #[30, 30] }, type := 3, pos := "law.go:124", after := #[{ on := 3, ground := Ground.data }, { on := 4, ground := Ground.data }, { on := 2, ground := Ground.chain }], guard := none }, { dst := some 58, op := Op.binOp BinOp.eql 3 (Operand.tmp 54) (Operand.tmp 57) 3, type := 4, pos := "law.go:124", after := #[{ on := 2, ground := Ground.data }, { on := 5, ground := Ground.data }], guard := none }, { dst := some 59, op := Op.move (Operand.tmp 58), type := 4, pos := "law.go:124", after := #[{ on := 6, ground := Ground.data }, { on := 5, ground := Ground.chain }], guard := none }, { dst := some 60, op := Op.move (Operand.tmp 10), type := 25, pos := "law.go:124", after := #[{ on := 7, ground := Ground.guard }], guard := some (7, true) }, { dst := some 61, op := Op.call { callee := Callee.builtin Builtin.len, args := #[Operand.tmp 60], argTypes := #[25] }, type := 3, pos := "law.go:124", after := #[{ on := 8, ground := Ground.data }, { on := 7, ground := Ground.guard }], guard := some (7, true) }, { dst := some 62, op := Op.binOp BinOp.eql 3 (Operand.tmp 61) (Operand.const (Value.int IntKind.i64 0)) 3, type := 4, pos := "law.go:124", after := #[{ on := 9, ground := Ground.data }, { on := 7, ground := Ground.guard }], guard := some (7, true) }, { dst := some 63, op := Op.move (Operand.tmp 62), type := 4, pos := "law.go:124", after := #[{ on := 10, ground := Ground.data }, { on := 7, ground := Ground.chain }, { on := 7, ground := Ground.guard }], guard := some (7, true) }, { dst := some 64, op := Op.load 30 (Operand.tmp 7), type := 30, pos := "law.go:124", after := #[{ on := 11, ground := Ground.guard }], guard := some (11, false) }, { dst := some 65, op := Op.load 30 (Operand.tmp 11), type := 30, pos := "law.go:124", after := #[{ on := 11, ground := Ground.guard }], guard := some (11, false) }, { dst := some 66, op := Op.call { callee := Callee.value (Operand.func 43), args := #[Operand.tmp 64, Operand.tmp 65], argTypes := #[30, 30] }, type := 3, pos := "law.go:124", after := #[{ on := 12, ground := Ground.data }, { on := 13, ground := Ground.data }, { on := 11, ground := Ground.chain }, { on := 11, ground := Ground.guard }], guard := some (11, false) }, { dst := some 67, op := Op.binOp BinOp.eql 3 (Operand.tmp 66) (Operand.const (Value.int IntKind.i64 1)) 3, type := 4, pos := "law.go:124", after := #[{ on := 14, ground := Ground.data }, { on := 11, ground := Ground.guard }], guard := some (11, false) }, { dst := some 68, op := Op.pick (Operand.tmp 63) (Operand.const (Value.bool true)) (Operand.tmp 67), type := 4, pos := "law.go:124", after := #[{ on := 11, ground := Ground.data }, { on := 15, ground := Ground.data }, { on := 7, ground := Ground.guard }], guard := some (7, true) }, { dst := some 69, op := Op.pick (Operand.tmp 59) (Operand.tmp 68) (Operand.const (Value.bool false)), type := 4, pos := "law.go:124", after := #[{ on := 7, ground := Ground.data }, { on := 16, ground := Ground.data }], guard := none }, { dst := some 6, op := Op.assign (Operand.tmp 69), type := 4, pos := "law.go:124", after := #[{ on := 17, ground := Ground.data }, { on := 14, ground := Ground.chain }, { on := 0, ground := Ground.phase }, { on := 1, ground := Ground.phase }, { on := 2, ground := Ground.phase }, { on := 3, ground := Ground.phase }, { on := 4, ground := Ground.phase }, { on := 5, ground := Ground.phase }, { on := 6, ground := Ground.phase }, { on := 7, ground := Ground.phase }, { on := 8, ground := Ground.phase }, { on := 9, ground := Ground.phase }, { on := 10, ground := Ground.phase }, { on := 11, ground := Ground.phase }, { on := 12, ground := Ground.phase }, { on := 13, ground := Ground.phase }, { on := 14, ground := Ground.phase }, { on := 15, ground := Ground.phase }, { on := 16, ground := Ground.phase }, { on := 17, ground := Ground.phase }], guard := none }] true).wp Try.prog Q a w := by
  have hmx : Try.prog.follows .mixedOrders = true := by kernel_rfl
  refine region_detR 19 hmx hr (by kernel_rfl) ?_
  refine DetR.is (o := { dst := some 52, op := Op.load 30 (Operand.tmp 7), type := 30, pos := "law.go:124", after := #[], guard := none }) (u := ?ux1) rfl (by decide) (fun T w' hb hd hB K hK => ?sx1) ?rx1
  case sx1 =>
    have e7 := (hB 7 (by kernel_rfl)).trans hT7
    have q7_0 : w'.cell? ⟨ga, 0, none⟩ = some (xf) := (blk_cell (blk_below hX7 hb) 0).trans rfl
    have q7_1 : w'.cell? ⟨ga, 1, none⟩ = some (xl) := (blk_cell (blk_below hX7 hb) 1).trans rfl
    rw [if_pos (wanted_none _ rfl)]
    clear hd hB
    go_simp
    exact hK _ (Below.refl _ _)
  refine DetR.is (o := { dst := some 53, op := Op.load 30 (Operand.tmp 13), type := 30, pos := "law.go:124", after := #[], guard := none }) (u := ?ux2) rfl (by decide) (fun T w' hb hd hB K hK => ?sx2) ?rx2
  case sx2 =>
    have e13 := (hB 13 (by kernel_rfl)).trans hT13
    have q13_0 : w'.cell? ⟨gz, 0, none⟩ = some (zf) := (blk_cell (blk_below hX13 hb) 0).trans rfl
    have q13_1 : w'.cell? ⟨gz, 1, none⟩ = some (zl) := (blk_cell (blk_below hX13 hb) 1).trans rfl
    rw [if_pos (wanted_none _ rfl)]
    clear hd hB
    go_simp
    exact hK _ (Below.refl _ _)
  refine DetR.is (o := { dst := some 54, op := Op.call { callee := Callee.value (Operand.func 43), args := #[Operand.tmp 52, Operand.tmp 53], argTypes := #[30, 30] }, type := 3, pos := "law.go:124", after := #[{ on := 0, ground := Ground.data }, { on := 1, ground := Ground.data }], guard := none }) (u := ?ux3) rfl (by decide) (fun T w' hb hd hB K hK => ?sx3) ?rx3
  case sx3 =>
    have e52 := hd 0 52 _ (by decide) (by kernel_rfl) rfl rfl
    replace e52 : T.getD 52 undef = _ := e52
    have e53 := hd 1 53 _ (by decide) (by kernel_rfl) rfl rfl
    replace e53 : T.getD 53 undef = _ := e53
    rw [if_pos (wanted_none _ rfl)]
    have hcl := hF2 w' hb
    clear hd hB
    go_simp
    go_at_call 43
    refine hcl.mono ?_
    rintro e w2 ⟨rfl, h2⟩
    exact hK _ h2
  refine DetR.is (o := { dst := some 55, op := Op.load 30 (Operand.tmp 11), type := 30, pos := "law.go:124", after := #[], guard := none }) (u := ?ux4) rfl (by decide) (fun T w' hb hd hB K hK => ?sx4) ?rx4
  case sx4 =>
    have e11 := (hB 11 (by kernel_rfl)).trans hT11
    have q11_0 : w'.cell? ⟨gs, 0, none⟩ = some (sf) := (blk_cell (blk_below hX11 hb) 0).trans rfl
    have q11_1 : w'.cell? ⟨gs, 1, none⟩ = some (sl) := (blk_cell (blk_below hX11 hb) 1).trans rfl
    rw [if_pos (wanted_none _ rfl)]
    clear hd hB
    go_simp
    exact hK _ (Below.refl _ _)
  refine DetR.is (o := { dst := some 56, op := Op.load 30 (Operand.tmp 8), type := 30, pos := "law.go:124", after := #[], guard := none }) (u := ?ux5) rfl (by decide) (fun T w' hb hd hB K hK => ?sx5) ?rx5
  case sx5 =>
    have e8 := (hB 8 (by kernel_rfl)).trans hT8
    have q8_0 : w'.cell? ⟨gb, 0, none⟩ = some (yf) := (blk_cell (blk_below hX8 hb) 0).trans rfl
    have q8_1 : w'.cell? ⟨gb, 1, none⟩ = some (yl) := (blk_cell (blk_below hX8 hb) 1).trans rfl
    rw [if_pos (wanted_none _ rfl)]
    clear hd hB
    go_simp
    exact hK _ (Below.refl _ _)
  refine DetR.is (o := { dst := some 57, op := Op.call { callee := Callee.value (Operand.func 43), args := #[Operand.tmp 55, Operand.tmp 56], argTypes := #[30, 30] }, type := 3, pos := "law.go:124", after := #[{ on := 3, ground := Ground.data }, { on := 4, ground := Ground.data }, { on := 2, ground := Ground.chain }], guard := none }) (u := ?ux6) rfl (by decide) (fun T w' hb hd hB K hK => ?sx6) ?rx6
  case sx6 =>
    have e55 := hd 3 55 _ (by decide) (by kernel_rfl) rfl rfl
    replace e55 : T.getD 55 undef = _ := e55
    have e56 := hd 4 56 _ (by decide) (by kernel_rfl) rfl rfl
    replace e56 : T.getD 56 undef = _ := e56
    rw [if_pos (wanted_none _ rfl)]
    have hcl := hF5 w' hb
    clear hd hB
    go_simp
    go_at_call 43
    refine hcl.mono ?_
    rintro e w2 ⟨rfl, h2⟩
    exact hK _ h2
  refine DetR.is (o := { dst := some 58, op := Op.binOp BinOp.eql 3 (Operand.tmp 54) (Operand.tmp 57) 3, type := 4, pos := "law.go:124", after := #[{ on := 2, ground := Ground.data }, { on := 5, ground := Ground.data }], guard := none }) (u := .bool true) rfl (by decide) (fun T w' hb hd hB K hK => ?sx7) ?rx7
  case sx7 =>
    have e54 := hd 2 54 _ (by decide) (by kernel_rfl) rfl rfl
    replace e54 : T.getD 54 undef = _ := e54
    have e57 := hd 5 57 _ (by decide) (by kernel_rfl) rfl rfl
    replace e57 : T.getD 57 undef = _ := e57
    rw [if_pos (wanted_none _ rfl)]
    clear hd hB
    go_simp
    try simp only [beq_self_eq_true]
    exact hK _ (Below.refl _ _)
  refine DetR.is (o := { dst := some 59, op := Op.move (Operand.tmp 58), type := 4, pos := "law.go:124", after := #[{ on := 6, ground := Ground.data }, { on := 5, ground := Ground.chain }], guard := none }) (u := .bool true) rfl (by decide) (fun T w' hb hd hB K hK => ?sx8) ?rx8
  case sx8 =>
    have e58 := hd 6 58 _ (by decide) (by kernel_rfl) rfl rfl
    replace e58 : T.getD 58 undef = _ := e58
    rw [if_pos (wanted_none _ rfl)]
    clear hd hB
    go_simp
    exact hK _ (Below.refl _ _)
  refine DetR.is (o := { dst := some 60, op := Op.move (Operand.tmp 10), type := 25, pos := "law.go:124", after := #[{ on := 7, ground := Ground.guard }], guard := some (7, true) }) (u := ?ux9) rfl (by decide) (fun T w' hb hd hB K hK => ?sx9) ?rx9
  case sx9 =>
    have e10 := (hB 10 (by kernel_rfl)).trans hT10
    have eg := hd 7 59 _ (by decide) (by kernel_rfl) rfl rfl
    replace eg : T.getD 59 undef = .bool true := eg
    rw [if_pos (wanted_yes 7 59 true rfl rfl eg)]
    clear eg
    clear hd hB
    go_simp
    exact hK _ (Below.refl _ _)
  refine DetR.is (o := { dst := some 61, op := Op.call { callee := Callee.builtin Builtin.len, args := #[Operand.tmp 60], argTypes := #[25] }, type := 3, pos := "law.go:124", after := #[{ on := 8, ground := Ground.data }, { on := 7, ground := Ground.guard }], guard := some (7, true) }) (u := ?ux10) rfl (by decide) (fun T w' hb hd hB K hK => ?sx10) ?rx10
  case sx10 =>
    have e60 := hd 8 60 _ (by decide) (by kernel_rfl) rfl rfl
    replace e60 : T.getD 60 undef = _ := e60
    have eg := hd 7 59 _ (by decide) (by kernel_rfl) rfl rfl
    replace eg : T.getD 59 undef = .bool true := eg
    rw [if_pos (wanted_yes 7 59 true rfl rfl eg)]
    clear eg
    clear hd hB
    go_simp
    exact hK _ (Below.refl _ _)
  refine DetR.is (o := { dst := some 62, op := Op.binOp BinOp.eql 3 (Operand.tmp 61) (Operand.const (Value.int IntKind.i64 0)) 3, type := 4, pos := "law.go:124", after := #[{ on := 9, ground := Ground.data }, { on := 7, ground := Ground.guard }], guard := some (7, true) }) (u := .bool true) rfl (by decide) (fun T w' hb hd hB K hK => ?sx11) ?rx11
  case sx11 =>
    have e61 := hd 9 61 _ (by decide) (by kernel_rfl) rfl rfl
    replace e61 : T.getD 61 undef = _ := e61
    have eg := hd 7 59 _ (by decide) (by kernel_rfl) rfl rfl
    replace eg : T.getD 59 undef = .bool true := eg
    rw [if_pos (wanted_yes 7 59 true rfl rfl eg)]
    clear eg
    clear hd hB
    go_simp
    try rw [hm]
    exact hK _ (Below.refl _ _)
  refine DetR.is (o := { dst := some 63, op := Op.move (Operand.tmp 62), type := 4, pos := "law.go:124", after := #[{ on := 10, ground := Ground.data }, { on := 7, ground := Ground.chain }, { on := 7, ground := Ground.guard }], guard := some (7, true) }) (u := .bool true) rfl (by decide) (fun T w' hb hd hB K hK => ?sx12) ?rx12
  case sx12 =>
    have e62 := hd 10 62 _ (by decide) (by kernel_rfl) rfl rfl
    replace e62 : T.getD 62 undef = _ := e62
    have eg := hd 7 59 _ (by decide) (by kernel_rfl) rfl rfl
    replace eg : T.getD 59 undef = .bool true := eg
    rw [if_pos (wanted_yes 7 59 true rfl rfl eg)]
    clear eg
    clear hd hB
    go_simp
    exact hK _ (Below.refl _ _)
  refine DetR.is (o := { dst := some 64, op := Op.load 30 (Operand.tmp 7), type := 30, pos := "law.go:124", after := #[{ on := 11, ground := Ground.guard }], guard := some (11, false) }) (u := ?ux13) rfl (by decide) (fun T w' hb hd hB K hK => ?sx13) ?rx13
  case sx13 =>
    have e7 := (hB 7 (by kernel_rfl)).trans hT7
    have q7_0 : w'.cell? ⟨ga, 0, none⟩ = some (xf) := (blk_cell (blk_below hX7 hb) 0).trans rfl
    have q7_1 : w'.cell? ⟨ga, 1, none⟩ = some (xl) := (blk_cell (blk_below hX7 hb) 1).trans rfl
    have eg := hd 11 63 _ (by decide) (by kernel_rfl) rfl rfl
    replace eg : T.getD 63 undef = .bool true := eg
    rw [if_neg (wanted_no 11 63 true rfl rfl eg)]
    exact hK _ (Below.refl _ _)
  refine DetR.is (o := { dst := some 65, op := Op.load 30 (Operand.tmp 11), type := 30, pos := "law.go:124", after := #[{ on := 11, ground := Ground.guard }], guard := some (11, false) }) (u := ?ux14) rfl (by decide) (fun T w' hb hd hB K hK => ?sx14) ?rx14
  case sx14 =>
    have e11 := (hB 11 (by kernel_rfl)).trans hT11
    have q11_0 : w'.cell? ⟨gs, 0, none⟩ = some (sf) := (blk_cell (blk_below hX11 hb) 0).trans rfl
    have q11_1 : w'.cell? ⟨gs, 1, none⟩ = some (sl) := (blk_cell (blk_below hX11 hb) 1).trans rfl
    have eg := hd 11 63 _ (by decide) (by kernel_rfl) rfl rfl
    replace eg : T.getD 63 undef = .bool true := eg
    rw [if_neg (wanted_no 11 63 true rfl rfl eg)]
    exact hK _ (Below.refl _ _)
  refine DetR.is (o := { dst := some 66, op := Op.call { callee := Callee.value (Operand.func 43), args := #[Operand.tmp 64, Operand.tmp 65], argTypes := #[30, 30] }, type := 3, pos := "law.go:124", after := #[{ on := 12, ground := Ground.data }, { on := 13, ground := Ground.data }, { on := 11, ground := Ground.chain }, { on := 11, ground := Ground.guard }], guard := some (11, false) }) (u := ?ux15) rfl (by decide) (fun T w' hb hd hB K hK => ?sx15) ?rx15
  case sx15 =>
    have e64 := hd 12 64 _ (by decide) (by kernel_rfl) rfl rfl
    replace e64 : T.getD 64 undef = _ := e64
    have e65 := hd 13 65 _ (by decide) (by kernel_rfl) rfl rfl
    replace e65 : T.getD 65 undef = _ := e65
    have eg := hd 11 63 _ (by decide) (by kernel_rfl) rfl rfl
    replace eg : T.getD 63 undef = .bool true := eg
    rw [if_neg (wanted_no 11 63 true rfl rfl eg)]
    exact hK _ (Below.refl _ _)
  refine DetR.is (o := { dst := some 67, op := Op.binOp BinOp.eql 3 (Operand.tmp 66) (Operand.const (Value.int IntKind.i64 1)) 3, type := 4, pos := "law.go:124", after := #[{ on := 14, ground := Ground.data }, { on := 11, ground := Ground.guard }], guard := some (11, false) }) (u := ?ux16) rfl (by decide) (fun T w' hb hd hB K hK => ?sx16) ?rx16
  case sx16 =>
    have e66 := hd 14 66 _ (by decide) (by kernel_rfl) rfl rfl
    replace e66 : T.getD 66 undef = _ := e66
    have eg := hd 11 63 _ (by decide) (by kernel_rfl) rfl rfl
    replace eg : T.getD 63 undef = .bool true := eg
    rw [if_neg (wanted_no 11 63 true rfl rfl eg)]
    exact hK _ (Below.refl _ _)
  refine DetR.is (o := { dst := some 68, op := Op.pick (Operand.tmp 63) (Operand.const (Value.bool true)) (Operand.tmp 67), type := 4, pos := "law.go:124", after := #[{ on := 11, ground := Ground.data }, { on := 15, ground := Ground.data }, { on := 7, ground := Ground.guard }], guard := some (7, true) }) (u := ?ux17) rfl (by decide) (fun T w' hb hd hB K hK => ?sx17) ?rx17
  case sx17 =>
    have e63 := hd 11 63 _ (by decide) (by kernel_rfl) rfl rfl
    replace e63 : T.getD 63 undef = _ := e63
    have e67 := hd 15 67 _ (by decide) (by kernel_rfl) rfl rfl
    replace e67 : T.getD 67 undef = _ := e67
    have eg := hd 7 59 _ (by decide) (by kernel_rfl) rfl rfl
    replace eg : T.getD 59 undef = .bool true := eg
    rw [if_pos (wanted_yes 7 59 true rfl rfl eg)]
    clear eg
    clear hd hB
    go_simp
    exact hK _ (Below.refl _ _)
  refine DetR.is (o := { dst := some 69, op := Op.pick (Operand.tmp 59) (Operand.tmp 68) (Operand.const (Value.bool false)), type := 4, pos := "law.go:124", after := #[{ on := 7, ground := Ground.data }, { on := 16, ground := Ground.data }], guard := none }) (u := ?ux18) rfl (by decide) (fun T w' hb hd hB K hK => ?sx18) ?rx18
  case sx18 =>
    have e59 := hd 7 59 _ (by decide) (by kernel_rfl) rfl rfl
    replace e59 : T.getD 59 undef = _ := e59
    have e68 := hd 16 68 _ (by decide) (by kernel_rfl) rfl rfl
    replace e68 : T.getD 68 undef = _ := e68
    rw [if_pos (wanted_none _ rfl)]
    clear hd hB
    go_simp
    exact hK _ (Below.refl _ _)
  refine DetR.is (o := { dst := some 6, op := Op.assign (Operand.tmp 69), type := 4, pos := "law.go:124", after := #[{ on := 17, ground := Ground.data }, { on := 14, ground := Ground.chain }, { on := 0, ground := Ground.phase }, { on := 1, ground := Ground.phase }, { on := 2, ground := Ground.phase }, { on := 3, ground := Ground.phase }, { on := 4, ground := Ground.phase }, { on := 5, ground := Ground.phase }, { on := 6, ground := Ground.phase }, { on := 7, ground := Ground.phase }, { on := 8, ground := Ground.phase }, { on := 9, ground := Ground.phase }, { on := 10, ground := Ground.phase }, { on := 11, ground := Ground.phase }, { on := 12, ground := Ground.phase }, { on := 13, ground := Ground.phase }, { on := 14, ground := Ground.phase }, { on := 15, ground := Ground.phase }, { on := 16, ground := Ground.phase }, { on := 17, ground := Ground.phase }], guard := none }) (u := ?ux19) rfl (by decide) (fun T w' hb hd hB K hK => ?sx19) ?rx19
  case sx19 =>
    have e69 := hd 17 69 _ (by decide) (by kernel_rfl) rfl rfl
    replace e69 : T.getD 69 undef = _ := e69
    rw [if_pos (wanted_none _ rfl)]
    clear hd hB
    go_simp
    exact hK _ (Below.refl _ _)
  refine DetR.done [some 52, some 53, some 54, some 55, some 56, some 57, some 58, some 59, some 60, some 61, some 62, some 63, some 64, some 65, some 66, some 67, some 68, some 69, some 6] (by kernel_rfl) rfl (by kernel_rfl) ?_
  intro v w' hb hv
  exact hK v w' hb (hv 18 _ (by decide) rfl)
set_option maxHeartbeats 4000000 in
set_option maxRecDepth 100000 in
theorem KboPlaces_r10n {id : Nat} {a : Act} {w : World} {Q : Exit → Act → World → Prop} {ga gz gs gb m cq : Nat} {xf xl yf yl zf zl sf sl : Value} {Aq : Option Addr} {k : Int}
    (hr : regionOk #[{ dst := some 52, op := Op.load 30 (Operand.tmp 7), type := 30, pos := "law.go:124", after := #[], guard := none }, { dst := some 53, op := Op.load 30 (Operand.tmp 13), type := 30, pos := "law.go:124", after := #[], guard := none }, { dst := some 54, op := Op.call { callee := Callee.value (Operand.func 43), args := #[Operand.tmp 52, Operand.tmp 53], argTypes := #[30, 30] }, type := 3, pos := "law.go:124", after := #[{ on := 0, ground := Ground.data }, { on := 1, ground := Ground.data }], guard := none }, { dst := some 55, op := Op.load 30 (Operand.tmp 11), type := 30, pos := "law.go:124", after := #[], guard := none }, { dst := some 56, op := Op.load 30 (Operand.tmp 8), type := 30, pos := "law.go:124", after := #[], guard := none }, { dst := some 57, op := Op.call { callee := Callee.value (Operand.func 43), args := #[Operand.tmp 55, Operand.tmp 56], argTypes := #[30, 30] }, type := 3, pos := "law.go:124", after := #[{ on := 3, ground := Ground.data }, { on := 4, ground := Ground.data }, { on := 2, ground := Ground.chain }], guard := none }, { dst := some 58, op := Op.binOp BinOp.eql 3 (Operand.tmp 54) (Operand.tmp 57) 3, type := 4, pos := "law.go:124", after := #[{ on := 2, ground := Ground.data }, { on := 5, ground := Ground.data }], guard := none }, { dst := some 59, op := Op.move (Operand.tmp 58), type := 4, pos := "law.go:124", after := #[{ on := 6, ground := Ground.data }, { on := 5, ground := Ground.chain }], guard := none }, { dst := some 60, op := Op.move (Operand.tmp 10), type := 25, pos := "law.go:124", after := #[{ on := 7, ground := Ground.guard }], guard := some (7, true) }, { dst := some 61, op := Op.call { callee := Callee.builtin Builtin.len, args := #[Operand.tmp 60], argTypes := #[25] }, type := 3, pos := "law.go:124", after := #[{ on := 8, ground := Ground.data }, { on := 7, ground := Ground.guard }], guard := some (7, true) }, { dst := some 62, op := Op.binOp BinOp.eql 3 (Operand.tmp 61) (Operand.const (Value.int IntKind.i64 0)) 3, type := 4, pos := "law.go:124", after := #[{ on := 9, ground := Ground.data }, { on := 7, ground := Ground.guard }], guard := some (7, true) }, { dst := some 63, op := Op.move (Operand.tmp 62), type := 4, pos := "law.go:124", after := #[{ on := 10, ground := Ground.data }, { on := 7, ground := Ground.chain }, { on := 7, ground := Ground.guard }], guard := some (7, true) }, { dst := some 64, op := Op.load 30 (Operand.tmp 7), type := 30, pos := "law.go:124", after := #[{ on := 11, ground := Ground.guard }], guard := some (11, false) }, { dst := some 65, op := Op.load 30 (Operand.tmp 11), type := 30, pos := "law.go:124", after := #[{ on := 11, ground := Ground.guard }], guard := some (11, false) }, { dst := some 66, op := Op.call { callee := Callee.value (Operand.func 43), args := #[Operand.tmp 64, Operand.tmp 65], argTypes := #[30, 30] }, type := 3, pos := "law.go:124", after := #[{ on := 12, ground := Ground.data }, { on := 13, ground := Ground.data }, { on := 11, ground := Ground.chain }, { on := 11, ground := Ground.guard }], guard := some (11, false) }, { dst := some 67, op := Op.binOp BinOp.eql 3 (Operand.tmp 66) (Operand.const (Value.int IntKind.i64 1)) 3, type := 4, pos := "law.go:124", after := #[{ on := 14, ground := Ground.data }, { on := 11, ground := Ground.guard }], guard := some (11, false) }, { dst := some 68, op := Op.pick (Operand.tmp 63) (Operand.const (Value.bool true)) (Operand.tmp 67), type := 4, pos := "law.go:124", after := #[{ on := 11, ground := Ground.data }, { on := 15, ground := Ground.data }, { on := 7, ground := Ground.guard }], guard := some (7, true) }, { dst := some 69, op := Op.pick (Operand.tmp 59) (Operand.tmp 68) (Operand.const (Value.bool false)), type := 4, pos := "law.go:124", after := #[{ on := 7, ground := Ground.data }, { on := 16, ground := Ground.data }], guard := none }, { dst := some 6, op := Op.assign (Operand.tmp 69), type := 4, pos := "law.go:124", after := #[{ on := 17, ground := Ground.data }, { on := 14, ground := Ground.chain }, { on := 0, ground := Ground.phase }, { on := 1, ground := Ground.phase }, { on := 2, ground := Ground.phase }, { on := 3, ground := Ground.phase }, { on := 4, ground := Ground.phase }, { on := 5, ground := Ground.phase }, { on := 6, ground := Ground.phase }, { on := 7, ground := Ground.phase }, { on := 8, ground := Ground.phase }, { on := 9, ground := Ground.phase }, { on := 10, ground := Ground.phase }, { on := 11, ground := Ground.phase }, { on := 12, ground := Ground.phase }, { on := 13, ground := Ground.phase }, { on := 14, ground := Ground.phase }, { on := 15, ground := Ground.phase }, { on := 16, ground := Ground.phase }, { on := 17, ground := Ground.phase }], guard := none }] a.tmps.size = true)
    (hT10 : a.tmps.getD 10 undef = .slice Aq m cq)
    (hT7 : a.tmps.getD 7 undef = .pointer (some ⟨ga, 0, none⟩)) (hX7 : w.heap[ga]? = some (.cells #[xf, xl] 30 (0, 0)))
    (hT13 : a.tmps.getD 13 undef = .pointer (some ⟨gz, 0, none⟩)) (hX13 : w.heap[gz]? = some (.cells #[zf, zl] 30 (0, 0)))
    (hT11 : a.tmps.getD 11 undef = .pointer (some ⟨gs, 0, none⟩)) (hX11 : w.heap[gs]? = some (.cells #[sf, sl] 30 (0, 0)))
    (hT8 : a.tmps.getD 8 undef = .pointer (some ⟨gb, 0, none⟩)) (hX8 : w.heap[gb]? = some (.cells #[yf, yl] 30 (0, 0)))
    (hF2 : ∀ w1, Below w.heap.size w w1 → Calls Try.prog 43 #[.agg #[xf, xl], .agg #[zf, zl]] w1 fun e w2 => e = .returned (.int .i64 k) ∧ Below w1.heap.size w1 w2)
    (hF5 : ∀ w1, Below w.heap.size w w1 → Calls Try.prog 43 #[.agg #[sf, sl], .agg #[yf, yl]] w1 fun e w2 => e = .returned (.int .i64 k) ∧ Below w1.heap.size w1 w2)
    (hF14 : ∀ w1, Below w.heap.size w w1 → Calls Try.prog 43 #[.agg #[xf, xl], .agg #[sf, sl]] w1 fun e w2 => e = .returned (.int .i64 1) ∧ Below w1.heap.size w1 w2)
    (hm : ((m : Int) == 0) = false)
    (hK : ∀ v w', Below w.heap.size w w' → v 18 = .bool true → Q .normal { tmps := layL [some 52, some 53, some 54, some 55, some 56, some 57, some 58, some 59, some 60, some 61, some 62, some 63, some 64, some 65, some 66, some 67, some 68, some 69, some 6] 0 v a.tmps, defers := a.defers } w') :
    (Code.region id #[{ dst := some 52, op := Op.load 30 (Operand.tmp 7), type := 30, pos := "law.go:124", after := #[], guard := none }, { dst := some 53, op := Op.load 30 (Operand.tmp 13), type := 30, pos := "law.go:124", after := #[], guard := none }, { dst := some 54, op := Op.call { callee := Callee.value (Operand.func 43), args := #[Operand.tmp 52, Operand.tmp 53], argTypes := #[30, 30] }, type := 3, pos := "law.go:124", after := #[{ on := 0, ground := Ground.data }, { on := 1, ground := Ground.data }], guard := none }, { dst := some 55, op := Op.load 30 (Operand.tmp 11), type := 30, pos := "law.go:124", after := #[], guard := none }, { dst := some 56, op := Op.load 30 (Operand.tmp 8), type := 30, pos := "law.go:124", after := #[], guard := none }, { dst := some 57, op := Op.call { callee := Callee.value (Operand.func 43), args := #[Operand.tmp 55, Operand.tmp 56], argTypes := #[30, 30] }, type := 3, pos := "law.go:124", after := #[{ on := 3, ground := Ground.data }, { on := 4, ground := Ground.data }, { on := 2, ground := Ground.chain }], guard := none }, { dst := some 58, op := Op.binOp BinOp.eql 3 (Operand.tmp 54) (Operand.tmp 57) 3, type := 4, pos := "law.go:124", after := #[{ on := 2, ground := Ground.data }, { on := 5, ground := Ground.data }], guard := none }, { dst := some 59, op := Op.move (Operand.tmp 58), type := 4, pos := "law.go:124", after := #[{ on := 6, ground := Ground.data }, { on := 5, ground := Ground.chain }], guard := none }, { dst := some 60, op := Op.move (Operand.tmp 10), type := 25, pos := "law.go:124", after := #[{ on := 7, ground := Ground.guard }], guard := some (7, true) }, { dst := some 61, op := Op.call { callee := Callee.builtin Builtin.len, args := #[Operand.tmp 60], argTypes := #[25] }, type := 3, pos := "law.go:124", after := #[{ on := 8, ground := Ground.data }, { on := 7, ground := Ground.guard }], guard := some (7, true) }, { dst := some 62, op := Op.binOp BinOp.eql 3 (Operand.tmp 61) (Operand.const (Value.int IntKind.i64 0)) 3, type := 4, pos := "law.go:124", after := #[{ on := 9, ground := Ground.data }, { on := 7, ground := Ground.guard }], guard := some (7, true) }, { dst := some 63, op := Op.move (Operand.tmp 62), type := 4, pos := "law.go:124", after := #[{ on := 10, ground := Ground.data }, { on := 7, ground := Ground.chain }, { on := 7, ground := Ground.guard }], guard := some (7, true) }, { dst := some 64, op := Op.load 30 (Operand.tmp 7), type := 30, pos := "law.go:124", after := #[{ on := 11, ground := Ground.guard }], guard := some (11, false) }, { dst := some 65, op := Op.load 30 (Operand.tmp 11), type := 30, pos := "law.go:124", after := #[{ on := 11, ground := Ground.guard }], guard := some (11, false) }, { dst := some 66, op := Op.call { callee := Callee.value (Operand.func 43), args := #[Operand.tmp 64, Operand.tmp 65], argTypes := #[30, 30] }, type := 3, pos := "law.go:124", after := #[{ on := 12, ground := Ground.data }, { on := 13, ground := Ground.data }, { on := 11, ground := Ground.chain }, { on := 11, ground := Ground.guard }], guard := some (11, false) }, { dst := some 67, op := Op.binOp BinOp.eql 3 (Operand.tmp 66) (Operand.const (Value.int IntKind.i64 1)) 3, type := 4, pos := "law.go:124", after := #[{ on := 14, ground := Ground.data }, { on := 11, ground := Ground.guard }], guard := some (11, false) }, { dst := some 68, op := Op.pick (Operand.tmp 63) (Operand.const (Value.bool true)) (Operand.tmp 67), type := 4, pos := "law.go:124", after := #[{ on := 11, ground := Ground.data }, { on := 15, ground := Ground.data }, { on := 7, ground := Ground.guard }], guard := some (7, true) }, { dst := some 69, op := Op.pick (Operand.tmp 59) (Operand.tmp 68) (Operand.const (Value.bool false)), type := 4, pos := "law.go:124", after := #[{ on := 7, ground := Ground.data }, { on := 16, ground := Ground.data }], guard := none }, { dst := some 6, op := Op.assign (Operand.tmp 69), type := 4, pos := "law.go:124", after := #[{ on := 17, ground := Ground.data }, { on := 14, ground := Ground.chain }, { on := 0, ground := Ground.phase }, { on := 1, ground := Ground.phase }, { on := 2, ground := Ground.phase }, { on := 3, ground := Ground.phase }, { on := 4, ground := Ground.phase }, { on := 5, ground := Ground.phase }, { on := 6, ground := Ground.phase }, { on := 7, ground := Ground.phase }, { on := 8, ground := Ground.phase }, { on := 9, ground := Ground.phase }, { on := 10, ground := Ground.phase }, { on := 11, ground := Ground.phase }, { on := 12, ground := Ground.phase }, { on := 13, ground := Ground.phase }, { on := 14, ground := Ground.phase }, { on := 15, ground := Ground.phase }, { on := 16, ground := Ground.phase }, { on := 17, ground := Ground.phase }], guard := none }] true).wp Try.prog Q a w := by
  have hmx : Try.prog.follows .mixedOrders = true := by kernel_rfl
  refine region_detR 19 hmx hr (by kernel_rfl) ?_
  refine DetR.is (o := { dst := some 52, op := Op.load 30 (Operand.tmp 7), type := 30, pos := "law.go:124", after := #[], guard := none }) (u := ?ux20) rfl (by decide) (fun T w' hb hd hB K hK => ?sx20) ?rx20
  case sx20 =>
    have e7 := (hB 7 (by kernel_rfl)).trans hT7
    have q7_0 : w'.cell? ⟨ga, 0, none⟩ = some (xf) := (blk_cell (blk_below hX7 hb) 0).trans rfl
    have q7_1 : w'.cell? ⟨ga, 1, none⟩ = some (xl) := (blk_cell (blk_below hX7 hb) 1).trans rfl
    rw [if_pos (wanted_none _ rfl)]
    clear hd hB
    go_simp
    exact hK _ (Below.refl _ _)
  refine DetR.is (o := { dst := some 53, op := Op.load 30 (Operand.tmp 13), type := 30, pos := "law.go:124", after := #[], guard := none }) (u := ?ux21) rfl (by decide) (fun T w' hb hd hB K hK => ?sx21) ?rx21
  case sx21 =>
    have e13 := (hB 13 (by kernel_rfl)).trans hT13
    have q13_0 : w'.cell? ⟨gz, 0, none⟩ = some (zf) := (blk_cell (blk_below hX13 hb) 0).trans rfl
    have q13_1 : w'.cell? ⟨gz, 1, none⟩ = some (zl) := (blk_cell (blk_below hX13 hb) 1).trans rfl
    rw [if_pos (wanted_none _ rfl)]
    clear hd hB
    go_simp
    exact hK _ (Below.refl _ _)
  refine DetR.is (o := { dst := some 54, op := Op.call { callee := Callee.value (Operand.func 43), args := #[Operand.tmp 52, Operand.tmp 53], argTypes := #[30, 30] }, type := 3, pos := "law.go:124", after := #[{ on := 0, ground := Ground.data }, { on := 1, ground := Ground.data }], guard := none }) (u := ?ux22) rfl (by decide) (fun T w' hb hd hB K hK => ?sx22) ?rx22
  case sx22 =>
    have e52 := hd 0 52 _ (by decide) (by kernel_rfl) rfl rfl
    replace e52 : T.getD 52 undef = _ := e52
    have e53 := hd 1 53 _ (by decide) (by kernel_rfl) rfl rfl
    replace e53 : T.getD 53 undef = _ := e53
    rw [if_pos (wanted_none _ rfl)]
    have hcl := hF2 w' hb
    clear hd hB
    go_simp
    go_at_call 43
    refine hcl.mono ?_
    rintro e w2 ⟨rfl, h2⟩
    exact hK _ h2
  refine DetR.is (o := { dst := some 55, op := Op.load 30 (Operand.tmp 11), type := 30, pos := "law.go:124", after := #[], guard := none }) (u := ?ux23) rfl (by decide) (fun T w' hb hd hB K hK => ?sx23) ?rx23
  case sx23 =>
    have e11 := (hB 11 (by kernel_rfl)).trans hT11
    have q11_0 : w'.cell? ⟨gs, 0, none⟩ = some (sf) := (blk_cell (blk_below hX11 hb) 0).trans rfl
    have q11_1 : w'.cell? ⟨gs, 1, none⟩ = some (sl) := (blk_cell (blk_below hX11 hb) 1).trans rfl
    rw [if_pos (wanted_none _ rfl)]
    clear hd hB
    go_simp
    exact hK _ (Below.refl _ _)
  refine DetR.is (o := { dst := some 56, op := Op.load 30 (Operand.tmp 8), type := 30, pos := "law.go:124", after := #[], guard := none }) (u := ?ux24) rfl (by decide) (fun T w' hb hd hB K hK => ?sx24) ?rx24
  case sx24 =>
    have e8 := (hB 8 (by kernel_rfl)).trans hT8
    have q8_0 : w'.cell? ⟨gb, 0, none⟩ = some (yf) := (blk_cell (blk_below hX8 hb) 0).trans rfl
    have q8_1 : w'.cell? ⟨gb, 1, none⟩ = some (yl) := (blk_cell (blk_below hX8 hb) 1).trans rfl
    rw [if_pos (wanted_none _ rfl)]
    clear hd hB
    go_simp
    exact hK _ (Below.refl _ _)
  refine DetR.is (o := { dst := some 57, op := Op.call { callee := Callee.value (Operand.func 43), args := #[Operand.tmp 55, Operand.tmp 56], argTypes := #[30, 30] }, type := 3, pos := "law.go:124", after := #[{ on := 3, ground := Ground.data }, { on := 4, ground := Ground.data }, { on := 2, ground := Ground.chain }], guard := none }) (u := ?ux25) rfl (by decide) (fun T w' hb hd hB K hK => ?sx25) ?rx25
  case sx25 =>
    have e55 := hd 3 55 _ (by decide) (by kernel_rfl) rfl rfl
    replace e55 : T.getD 55 undef = _ := e55
    have e56 := hd 4 56 _ (by decide) (by kernel_rfl) rfl rfl
    replace e56 : T.getD 56 undef = _ := e56
    rw [if_pos (wanted_none _ rfl)]
    have hcl := hF5 w' hb
    clear hd hB
    go_simp
    go_at_call 43
    refine hcl.mono ?_
    rintro e w2 ⟨rfl, h2⟩
    exact hK _ h2
  refine DetR.is (o := { dst := some 58, op := Op.binOp BinOp.eql 3 (Operand.tmp 54) (Operand.tmp 57) 3, type := 4, pos := "law.go:124", after := #[{ on := 2, ground := Ground.data }, { on := 5, ground := Ground.data }], guard := none }) (u := .bool true) rfl (by decide) (fun T w' hb hd hB K hK => ?sx26) ?rx26
  case sx26 =>
    have e54 := hd 2 54 _ (by decide) (by kernel_rfl) rfl rfl
    replace e54 : T.getD 54 undef = _ := e54
    have e57 := hd 5 57 _ (by decide) (by kernel_rfl) rfl rfl
    replace e57 : T.getD 57 undef = _ := e57
    rw [if_pos (wanted_none _ rfl)]
    clear hd hB
    go_simp
    try simp only [beq_self_eq_true]
    exact hK _ (Below.refl _ _)
  refine DetR.is (o := { dst := some 59, op := Op.move (Operand.tmp 58), type := 4, pos := "law.go:124", after := #[{ on := 6, ground := Ground.data }, { on := 5, ground := Ground.chain }], guard := none }) (u := .bool true) rfl (by decide) (fun T w' hb hd hB K hK => ?sx27) ?rx27
  case sx27 =>
    have e58 := hd 6 58 _ (by decide) (by kernel_rfl) rfl rfl
    replace e58 : T.getD 58 undef = _ := e58
    rw [if_pos (wanted_none _ rfl)]
    clear hd hB
    go_simp
    exact hK _ (Below.refl _ _)
  refine DetR.is (o := { dst := some 60, op := Op.move (Operand.tmp 10), type := 25, pos := "law.go:124", after := #[{ on := 7, ground := Ground.guard }], guard := some (7, true) }) (u := ?ux28) rfl (by decide) (fun T w' hb hd hB K hK => ?sx28) ?rx28
  case sx28 =>
    have e10 := (hB 10 (by kernel_rfl)).trans hT10
    have eg := hd 7 59 _ (by decide) (by kernel_rfl) rfl rfl
    replace eg : T.getD 59 undef = .bool true := eg
    rw [if_pos (wanted_yes 7 59 true rfl rfl eg)]
    clear eg
    clear hd hB
    go_simp
    exact hK _ (Below.refl _ _)
  refine DetR.is (o := { dst := some 61, op := Op.call { callee := Callee.builtin Builtin.len, args := #[Operand.tmp 60], argTypes := #[25] }, type := 3, pos := "law.go:124", after := #[{ on := 8, ground := Ground.data }, { on := 7, ground := Ground.guard }], guard := some (7, true) }) (u := ?ux29) rfl (by decide) (fun T w' hb hd hB K hK => ?sx29) ?rx29
  case sx29 =>
    have e60 := hd 8 60 _ (by decide) (by kernel_rfl) rfl rfl
    replace e60 : T.getD 60 undef = _ := e60
    have eg := hd 7 59 _ (by decide) (by kernel_rfl) rfl rfl
    replace eg : T.getD 59 undef = .bool true := eg
    rw [if_pos (wanted_yes 7 59 true rfl rfl eg)]
    clear eg
    clear hd hB
    go_simp
    exact hK _ (Below.refl _ _)
  refine DetR.is (o := { dst := some 62, op := Op.binOp BinOp.eql 3 (Operand.tmp 61) (Operand.const (Value.int IntKind.i64 0)) 3, type := 4, pos := "law.go:124", after := #[{ on := 9, ground := Ground.data }, { on := 7, ground := Ground.guard }], guard := some (7, true) }) (u := .bool false) rfl (by decide) (fun T w' hb hd hB K hK => ?sx30) ?rx30
  case sx30 =>
    have e61 := hd 9 61 _ (by decide) (by kernel_rfl) rfl rfl
    replace e61 : T.getD 61 undef = _ := e61
    have eg := hd 7 59 _ (by decide) (by kernel_rfl) rfl rfl
    replace eg : T.getD 59 undef = .bool true := eg
    rw [if_pos (wanted_yes 7 59 true rfl rfl eg)]
    clear eg
    clear hd hB
    go_simp
    try rw [hm]
    exact hK _ (Below.refl _ _)
  refine DetR.is (o := { dst := some 63, op := Op.move (Operand.tmp 62), type := 4, pos := "law.go:124", after := #[{ on := 10, ground := Ground.data }, { on := 7, ground := Ground.chain }, { on := 7, ground := Ground.guard }], guard := some (7, true) }) (u := .bool false) rfl (by decide) (fun T w' hb hd hB K hK => ?sx31) ?rx31
  case sx31 =>
    have e62 := hd 10 62 _ (by decide) (by kernel_rfl) rfl rfl
    replace e62 : T.getD 62 undef = _ := e62
    have eg := hd 7 59 _ (by decide) (by kernel_rfl) rfl rfl
    replace eg : T.getD 59 undef = .bool true := eg
    rw [if_pos (wanted_yes 7 59 true rfl rfl eg)]
    clear eg
    clear hd hB
    go_simp
    exact hK _ (Below.refl _ _)
  refine DetR.is (o := { dst := some 64, op := Op.load 30 (Operand.tmp 7), type := 30, pos := "law.go:124", after := #[{ on := 11, ground := Ground.guard }], guard := some (11, false) }) (u := ?ux32) rfl (by decide) (fun T w' hb hd hB K hK => ?sx32) ?rx32
  case sx32 =>
    have e7 := (hB 7 (by kernel_rfl)).trans hT7
    have q7_0 : w'.cell? ⟨ga, 0, none⟩ = some (xf) := (blk_cell (blk_below hX7 hb) 0).trans rfl
    have q7_1 : w'.cell? ⟨ga, 1, none⟩ = some (xl) := (blk_cell (blk_below hX7 hb) 1).trans rfl
    have eg := hd 11 63 _ (by decide) (by kernel_rfl) rfl rfl
    replace eg : T.getD 63 undef = .bool false := eg
    rw [if_pos (wanted_yes 11 63 false rfl rfl eg)]
    clear eg
    clear hd hB
    go_simp
    exact hK _ (Below.refl _ _)
  refine DetR.is (o := { dst := some 65, op := Op.load 30 (Operand.tmp 11), type := 30, pos := "law.go:124", after := #[{ on := 11, ground := Ground.guard }], guard := some (11, false) }) (u := ?ux33) rfl (by decide) (fun T w' hb hd hB K hK => ?sx33) ?rx33
  case sx33 =>
    have e11 := (hB 11 (by kernel_rfl)).trans hT11
    have q11_0 : w'.cell? ⟨gs, 0, none⟩ = some (sf) := (blk_cell (blk_below hX11 hb) 0).trans rfl
    have q11_1 : w'.cell? ⟨gs, 1, none⟩ = some (sl) := (blk_cell (blk_below hX11 hb) 1).trans rfl
    have eg := hd 11 63 _ (by decide) (by kernel_rfl) rfl rfl
    replace eg : T.getD 63 undef = .bool false := eg
    rw [if_pos (wanted_yes 11 63 false rfl rfl eg)]
    clear eg
    clear hd hB
    go_simp
    exact hK _ (Below.refl _ _)
  refine DetR.is (o := { dst := some 66, op := Op.call { callee := Callee.value (Operand.func 43), args := #[Operand.tmp 64, Operand.tmp 65], argTypes := #[30, 30] }, type := 3, pos := "law.go:124", after := #[{ on := 12, ground := Ground.data }, { on := 13, ground := Ground.data }, { on := 11, ground := Ground.chain }, { on := 11, ground := Ground.guard }], guard := some (11, false) }) (u := ?ux34) rfl (by decide) (fun T w' hb hd hB K hK => ?sx34) ?rx34
  case sx34 =>
    have e64 := hd 12 64 _ (by decide) (by kernel_rfl) rfl rfl
    replace e64 : T.getD 64 undef = _ := e64
    have e65 := hd 13 65 _ (by decide) (by kernel_rfl) rfl rfl
    replace e65 : T.getD 65 undef = _ := e65
    have eg := hd 11 63 _ (by decide) (by kernel_rfl) rfl rfl
    replace eg : T.getD 63 undef = .bool false := eg
    rw [if_pos (wanted_yes 11 63 false rfl rfl eg)]
    clear eg
    have hcl := hF14 w' hb
    clear hd hB
    go_simp
    go_at_call 43
    refine hcl.mono ?_
    rintro e w2 ⟨rfl, h2⟩
    exact hK _ h2
  refine DetR.is (o := { dst := some 67, op := Op.binOp BinOp.eql 3 (Operand.tmp 66) (Operand.const (Value.int IntKind.i64 1)) 3, type := 4, pos := "law.go:124", after := #[{ on := 14, ground := Ground.data }, { on := 11, ground := Ground.guard }], guard := some (11, false) }) (u := .bool true) rfl (by decide) (fun T w' hb hd hB K hK => ?sx35) ?rx35
  case sx35 =>
    have e66 := hd 14 66 _ (by decide) (by kernel_rfl) rfl rfl
    replace e66 : T.getD 66 undef = _ := e66
    have eg := hd 11 63 _ (by decide) (by kernel_rfl) rfl rfl
    replace eg : T.getD 63 undef = .bool false := eg
    rw [if_pos (wanted_yes 11 63 false rfl rfl eg)]
    clear eg
    clear hd hB
    go_simp
    exact hK _ (Below.refl _ _)
  refine DetR.is (o := { dst := some 68, op := Op.pick (Operand.tmp 63) (Operand.const (Value.bool true)) (Operand.tmp 67), type := 4, pos := "law.go:124", after := #[{ on := 11, ground := Ground.data }, { on := 15, ground := Ground.data }, { on := 7, ground := Ground.guard }], guard := some (7, true) }) (u := ?ux36) rfl (by decide) (fun T w' hb hd hB K hK => ?sx36) ?rx36
  case sx36 =>
    have e63 := hd 11 63 _ (by decide) (by kernel_rfl) rfl rfl
    replace e63 : T.getD 63 undef = _ := e63
    have e67 := hd 15 67 _ (by decide) (by kernel_rfl) rfl rfl
    replace e67 : T.getD 67 undef = _ := e67
    have eg := hd 7 59 _ (by decide) (by kernel_rfl) rfl rfl
    replace eg : T.getD 59 undef = .bool true := eg
    rw [if_pos (wanted_yes 7 59 true rfl rfl eg)]
    clear eg
    clear hd hB
    go_simp
    exact hK _ (Below.refl _ _)
  refine DetR.is (o := { dst := some 69, op := Op.pick (Operand.tmp 59) (Operand.tmp 68) (Operand.const (Value.bool false)), type := 4, pos := "law.go:124", after := #[{ on := 7, ground := Ground.data }, { on := 16, ground := Ground.data }], guard := none }) (u := ?ux37) rfl (by decide) (fun T w' hb hd hB K hK => ?sx37) ?rx37
  case sx37 =>
    have e59 := hd 7 59 _ (by decide) (by kernel_rfl) rfl rfl
    replace e59 : T.getD 59 undef = _ := e59
    have e68 := hd 16 68 _ (by decide) (by kernel_rfl) rfl rfl
    replace e68 : T.getD 68 undef = _ := e68
    rw [if_pos (wanted_none _ rfl)]
    clear hd hB
    go_simp
    exact hK _ (Below.refl _ _)
  refine DetR.is (o := { dst := some 6, op := Op.assign (Operand.tmp 69), type := 4, pos := "law.go:124", after := #[{ on := 17, ground := Ground.data }, { on := 14, ground := Ground.chain }, { on := 0, ground := Ground.phase }, { on := 1, ground := Ground.phase }, { on := 2, ground := Ground.phase }, { on := 3, ground := Ground.phase }, { on := 4, ground := Ground.phase }, { on := 5, ground := Ground.phase }, { on := 6, ground := Ground.phase }, { on := 7, ground := Ground.phase }, { on := 8, ground := Ground.phase }, { on := 9, ground := Ground.phase }, { on := 10, ground := Ground.phase }, { on := 11, ground := Ground.phase }, { on := 12, ground := Ground.phase }, { on := 13, ground := Ground.phase }, { on := 14, ground := Ground.phase }, { on := 15, ground := Ground.phase }, { on := 16, ground := Ground.phase }, { on := 17, ground := Ground.phase }], guard := none }) (u := ?ux38) rfl (by decide) (fun T w' hb hd hB K hK => ?sx38) ?rx38
  case sx38 =>
    have e69 := hd 17 69 _ (by decide) (by kernel_rfl) rfl rfl
    replace e69 : T.getD 69 undef = _ := e69
    rw [if_pos (wanted_none _ rfl)]
    clear hd hB
    go_simp
    exact hK _ (Below.refl _ _)
  refine DetR.done [some 52, some 53, some 54, some 55, some 56, some 57, some 58, some 59, some 60, some 61, some 62, some 63, some 64, some 65, some 66, some 67, some 68, some 69, some 6] (by kernel_rfl) rfl (by kernel_rfl) ?_
  intro v w' hb hv
  exact hK v w' hb (hv 18 _ (by decide) rfl)
end Go.Proofs.Ytpfddihcikiofaa.P
end

section
namespace Go.Proofs.Ytpfddihcikiofaa.P
open Go.RowKit Go.Proofs.YtpfddihcikiofaaW.PrintWords Go.Proofs.YtpfddihcikiofaaW.PrintLast Go.Proofs.YtpfddihcikiofaaW.PrintMore
set_option linter.unusedVariables false
set_option linter.unusedSimpArgs false
set_option maxHeartbeats 8000000 in
set_option maxRecDepth 100000 in
theorem KboPlaces_walk (a b : S24) (n : Int) (A : Option Addr) (c : Nat) (A' : Option Addr) (c' : Nat) (w : World) (hn : 0 ≤ n ∧ n ≤ 255)
    (hA : k24.C w A a.f1.length a.f1) (hc : a.f1.length ≤ c) (hA' : k24.C w A' b.f1.length b.f1) (hc' : b.f1.length ≤ c') :
    Calls Try.prog 13 #[.agg #[.int .i64 a.f0, .slice A a.f1.length c], .agg #[.int .i64 b.f0, .slice A' b.f1.length c'], .int .u8 n] w fun e w' => e = .returned (.bool true) ∧ Below w.heap.size w w' := by
  have hmx : Try.prog.follows .mixedOrders = true := by kernel_rfl
  obtain ⟨r1, hr1, _, _, hok1⟩ := Small_spec 11 a 20 10 (by decide) (by decide) (by decide) (by decide)
  obtain ⟨r2, hr2, _, _, hok2⟩ := Small_spec 9 b 12 8 (by decide) (by decide) (by decide) (by decide)
  obtain ⟨ka, ea⟩ := hr1.rounds
  obtain ⟨kb, eb⟩ := hr2.rounds
  have FS := Aside0.mk (And.intro ea eb)
  obtain ⟨kz, hal⟩ := alive10.rounds
  have hbA : Aside0 (∀ w1, Below w.heap.size w w1 → k24.C w1 A a.f1.length a.f1) := ⟨fun w1 h => Kd.C_below hA h⟩
  have hbB : Aside0 (∀ w1, Below w.heap.size w w1 → k24.C w1 A' b.f1.length b.f1) := ⟨fun w1 h => Kd.C_below hA' h⟩
  clear hA hA' hr1 hr2 ea eb
  go_enter Try.func13, Try.ntmps13
  by_cases e1 : r1 < 0
  · have d1 : decide (r1 < 0) = true := decide_eq_true e1
    clear e1
    go_wp2_with (first | (go_at_call 50; refine (soriteslaw06_Small.calls ka _ _ _ a.f1 20 10 r1 _ (hbA.out _ hB1) hc FS.out.1).mono ?_; rintro e w2 ⟨rfl, hb2⟩; have hB2 : Below w.heap.size w w2 := hB1.trans (hb2.mono hB1.size); have hh1 := blk_below hg1 hb2; have hh0 := blk_below hg0 hb2; have hy0 : w2.cell? ⟨w.heap.size + 1, 0, none⟩ = some (.int .i64 b.f0) := (blk_cell hh1 0).trans rfl; have hy1 : w2.cell? ⟨w.heap.size + 1, 1, none⟩ = some (.slice A' b.f1.length c') := (blk_cell hh1 1).trans rfl) | (go_at_call 40; refine (soriteslaw10_alive.calls kz true _ hal).mono ?_; rintro e w1 ⟨rfl, hb1⟩; have hs1 := hb1.size; simp only [World.size_alloc] at hs1; have hB1 : Below w.heap.size w w1 := (below_alloc (below_alloc (Below.refl _ _) _) _).trans (hb1.mono (by simp; omega)); have hg0 : w1.heap[w.heap.size]? = some (.cells #[.int .i64 a.f0, .slice A a.f1.length c] 24 (0, 0)) := blk_below (blk_alloc (heap_alloc_new _ _) _) hb1; have hg1 : w1.heap[w.heap.size + 1]? = some (.cells #[.int .i64 b.f0, .slice A' b.f1.length c'] 24 (0, 0)) := blk_below (by have := heap_alloc_new (w.alloc (.cells #[.int .i64 a.f0, .slice A a.f1.length c] 24)) (.cells #[.int .i64 b.f0, .slice A' b.f1.length c'] 24); rw [World.size_alloc] at this; exact this) hb1; have hx0 : w1.cell? ⟨w.heap.size, 0, none⟩ = some (.int .i64 a.f0) := (blk_cell hg0 0).trans rfl; have hx1 : w1.cell? ⟨w.heap.size, 1, none⟩ = some (.slice A a.f1.length c) := (blk_cell hg0 1).trans rfl))
    go_ret
    exact ⟨rfl, hB2⟩
  have d1 : decide (r1 < 0) = false := decide_eq_false e1
  by_cases e2 : r2 < 0
  · have d2 : decide (r2 < 0) = true := decide_eq_true e2
    clear e1 e2
    go_wp2_with (first | (go_at_call 50; refine (soriteslaw06_Small.calls kb _ _ _ b.f1 12 8 r2 _ (hbB.out _ hB2) hc' FS.out.2).mono ?_; rintro e w3 ⟨rfl, hb3⟩; have hB3 : Below w.heap.size w w3 := hB2.trans (hb3.mono hB2.size); have hi0 := blk_below hh0 hb3; have hi1 := blk_below hh1 hb3) | (go_at_call 50; refine (soriteslaw06_Small.calls ka _ _ _ a.f1 20 10 r1 _ (hbA.out _ hB1) hc FS.out.1).mono ?_; rintro e w2 ⟨rfl, hb2⟩; have hB2 : Below w.heap.size w w2 := hB1.trans (hb2.mono hB1.size); have hh1 := blk_below hg1 hb2; have hh0 := blk_below hg0 hb2; have hy0 : w2.cell? ⟨w.heap.size + 1, 0, none⟩ = some (.int .i64 b.f0) := (blk_cell hh1 0).trans rfl; have hy1 : w2.cell? ⟨w.heap.size + 1, 1, none⟩ = some (.slice A' b.f1.length c') := (blk_cell hh1 1).trans rfl) | (go_at_call 40; refine (soriteslaw10_alive.calls kz true _ hal).mono ?_; rintro e w1 ⟨rfl, hb1⟩; have hs1 := hb1.size; simp only [World.size_alloc] at hs1; have hB1 : Below w.heap.size w w1 := (below_alloc (below_alloc (Below.refl _ _) _) _).trans (hb1.mono (by simp; omega)); have hg0 : w1.heap[w.heap.size]? = some (.cells #[.int .i64 a.f0, .slice A a.f1.length c] 24 (0, 0)) := blk_below (blk_alloc (heap_alloc_new _ _) _) hb1; have hg1 : w1.heap[w.heap.size + 1]? = some (.cells #[.int .i64 b.f0, .slice A' b.f1.length c'] 24 (0, 0)) := blk_below (by have := heap_alloc_new (w.alloc (.cells #[.int .i64 a.f0, .slice A a.f1.length c] 24)) (.cells #[.int .i64 b.f0, .slice A' b.f1.length c'] 24); rw [World.size_alloc] at this; exact this) hb1; have hx0 : w1.cell? ⟨w.heap.size, 0, none⟩ = some (.int .i64 a.f0) := (blk_cell hg0 0).trans rfl; have hx1 : w1.cell? ⟨w.heap.size, 1, none⟩ = some (.slice A a.f1.length c) := (blk_cell hg0 1).trans rfl))
    go_ret
    exact ⟨rfl, hB3⟩
  have d2 : decide (r2 < 0) = false := decide_eq_false e2
  have hoka := hok1 (by omega)
  have hokb := hok2 (by omega)
  go_wp2_with (first | (go_at_call 50; refine (soriteslaw06_Small.calls kb _ _ _ b.f1 12 8 r2 _ (hbB.out _ hB2) hc' FS.out.2).mono ?_; rintro e w3 ⟨rfl, hb3⟩; have hB3 : Below w.heap.size w w3 := hB2.trans (hb3.mono hB2.size); have hi0 := blk_below hh0 hb3; have hi1 := blk_below hh1 hb3) | (go_at_call 50; refine (soriteslaw06_Small.calls ka _ _ _ a.f1 20 10 r1 _ (hbA.out _ hB1) hc FS.out.1).mono ?_; rintro e w2 ⟨rfl, hb2⟩; have hB2 : Below w.heap.size w w2 := hB1.trans (hb2.mono hB1.size); have hh1 := blk_below hg1 hb2; have hh0 := blk_below hg0 hb2; have hy0 : w2.cell? ⟨w.heap.size + 1, 0, none⟩ = some (.int .i64 b.f0) := (blk_cell hh1 0).trans rfl; have hy1 : w2.cell? ⟨w.heap.size + 1, 1, none⟩ = some (.slice A' b.f1.length c') := (blk_cell hh1 1).trans rfl) | (go_at_call 40; refine (soriteslaw10_alive.calls kz true _ hal).mono ?_; rintro e w1 ⟨rfl, hb1⟩; have hs1 := hb1.size; simp only [World.size_alloc] at hs1; have hB1 : Below w.heap.size w w1 := (below_alloc (below_alloc (Below.refl _ _) _) _).trans (hb1.mono (by simp; omega)); have hg0 : w1.heap[w.heap.size]? = some (.cells #[.int .i64 a.f0, .slice A a.f1.length c] 24 (0, 0)) := blk_below (blk_alloc (heap_alloc_new _ _) _) hb1; have hg1 : w1.heap[w.heap.size + 1]? = some (.cells #[.int .i64 b.f0, .slice A' b.f1.length c'] 24 (0, 0)) := blk_below (by have := heap_alloc_new (w.alloc (.cells #[.int .i64 a.f0, .slice A a.f1.length c] 24)) (.cells #[.int .i64 b.f0, .slice A' b.f1.length c'] 24); rw [World.size_alloc] at this; exact this) hb1; have hx0 : w1.cell? ⟨w.heap.size, 0, none⟩ = some (.int .i64 a.f0) := (blk_cell hg0 0).trans rfl; have hx1 : w1.cell? ⟨w.heap.size, 1, none⟩ = some (.slice A a.f1.length c) := (blk_cell hg0 1).trans rfl))
  refine of_two (x0 := a) (x1 := b) (g0 := w.heap.size) (g1 := w.heap.size + 1) (by kernel_rfl) (by kernel_rfl) rfl hi0 (hbA.out _ hB3) hc hoka.1 rfl hi1 (hbB.out _ hB3) hc' hokb.1 ?_
  intro w4 X0 q0 h0 X1 q1 h1 hb4 hge0 hx0' hq0 hC0 hge1 hx1' hq1 hC1
  have HB4 := Aside0.mk (hB3.trans (hb4.mono hB3.size))
  have HC0 := Aside0.mk hC0
  have HC1 := Aside0.mk hC1
  have HX0 := Aside0.mk hx0'
  have HX1 := Aside0.mk hx1'
  have hna : (nodes a).length ≤ 20 := by have := nodes_le a; have := hoka.2; omega
  have hnb : (nodes b).length ≤ 12 := by have := nodes_le b; have := hokb.2; omega
  have hfa := fit_of_ok a hoka.1 (by omega)
  have hfb := fit_of_ok b hokb.1 (by omega)
  have hpl := Places_is (t := a) (by omega)
  obtain ⟨ls, hls⟩ : ∃ ls, ls = (flatP [] a).map Prod.fst := ⟨_, rfl⟩
  rw [← hls] at hpl
  have hll : ls.length = (nodes a).length := by rw [hls, List.length_map, flatP_len]
  have hlp : 1 ≤ ls.length := by have := nodes_pos a; omega
  have FP := Aside0.mk (And.intro hpl (And.intro hls hll))
  have FF := Aside0.mk (And.intro hfa (And.intro hfb (And.intro hna hnb)))
  clear hbA hbB hC0 hC1 hx0' hx1' hb4 hg0 hg1 hh0 hh1 hi0 hi1 hx0 hx1 hy0 hy1 hB1 hB2 hB3 hb1 hb2 hb3 hge0 hge1 hok1 hok2 hoka hokb FS hfa hfb hna hnb hpl hls hs1 d1 d2 e1 e2
  simp only [List.setIfInBounds_toArray, List.set_cons_zero, List.set_cons_succ]
  have k00 : w4.cell? ⟨h0, 0, none⟩ = some (.int .i64 a.f0) := (blk_cell HX0.out 0).trans rfl
  have k01 : w4.cell? ⟨h0, 1, none⟩ = some (.slice X0 a.f1.length q0) := (blk_cell HX0.out 1).trans rfl
  have hj0 : 0 ≤ n % (ls.length : Int) := Int.emod_nonneg _ (by omega)
  have hj1 : n % (ls.length : Int) < ls.length := Int.emod_lt_of_pos _ (by omega)
  have hjt : (n % (ls.length : Int)).toNat < ls.length := by omega
  obtain ⟨q, hq⟩ : ∃ q, q = ls.getD (n % (ls.length : Int)).toNat [] := ⟨_, rfl⟩
  obtain ⟨s, hs⟩ : ∃ s, atT q a = some s := by
    have hm : q ∈ (flatP [] a).map Prod.fst := by rw [hq, ← FP.out.2.1, List.getD_eq_getElem?_getD, List.getElem?_eq_getElem hjt, Option.getD_some]; exact List.getElem_mem hjt
    obtain ⟨e, he, e1⟩ := List.mem_map.1 hm
    obtain ⟨q', h1, h2⟩ := flatP_at [] a e he
    refine ⟨e.2, ?_⟩
    rw [← e1, h1]
    exact h2
  have hql := at_len q a s hs
  have hsub := at_sub q a s hs
  have hfs := at_fit hs FF.out.1
  obtain ⟨z, hz⟩ := put_some q a s b hs
  have hpe := put_eqv q a b
  rw [hz] at hpe
  obtain ⟨z', hz'⟩ : ∃ z', putT q a b = some z' := by
    cases h : putT q a b with
    | none => rw [h] at hpe; exact hpe.elim
    | some z' => exact ⟨z', rfl⟩
  rw [hz'] at hpe
  have hzl := put_len q a s b z hs hz
  have hfz := put_fit hz (by have := FF.out.2.2; omega) FF.out.1 FF.out.2.1
  have hfz' := eqv_fit (eqv_symm hpe) hfz
  obtain ⟨kt, hat⟩ := (At_spec q [] a FF.out.1 (by have := FF.out.2.2.1; simp; omega)).rounds
  rw [hs] at hat
  obtain ⟨k1, ek1⟩ := (KCompare_spec a z' FF.out.1 hfz').rounds
  obtain ⟨k2, ek2⟩ := (KCompare_spec s b hfs FF.out.2.1).rounds
  obtain ⟨k3, ek3⟩ := (KCompare_spec a s FF.out.1 hfs).rounds
  have hkk : kcmp a z' = kcmp s b := (kcmp_congr (cmp_self a) hpe).trans (kcmp_put hs hz)
  rw [hkk] at ek1
  have hk3 : q ≠ [] → kcmp a s = 1 := fun h => kcmp_sub hs h
  have FK := Aside0.mk (And.intro ek1 (And.intro ek2 (And.intro ek3 hk3)))
  have FA := Aside0.mk (show term_At.f kt a.f0 a.f1 q = some (s.f0, s.f1, true) from hat)
  have FZ := Aside0.mk hz'
  have FQ := Aside0.mk hq
  have hl0 : ((ls.length : Int) == 0) = false := by rw [beq_eq_false_iff_ne]; omega
  clear hq hjt hs hql hsub hfs hz hpe hz' hzl hfz hfz' hat ek1 ek2 ek3 hkk hk3 hll
  go_wp2_with (first | (go_at_call 30; have hput := Put_any q a b (fun _ => True) X0 Aq X1 q0 cq q1 (w6.alloc (.cells #[.int .i64 s.f0, .slice As s.f1.length cs] 30)) FF.out.1 FF.out.2.1 (Kd.F_mono (F_old k30_heap HC0.out (below_alloc HB6.out _)) (fun _ _ => trivial)) hq0 (Kd.C_below HCq6.out (below_alloc (Below.refl _ _) _)) HLq.out (Kd.F_mono (F_old k30_heap HC1.out (below_alloc HB6.out _)) (fun _ _ => trivial)) hq1; rw [FZ.out] at hput; simp only [Option.getD_some, Option.isSome_some] at hput; refine hput.mono ?_; clear hput; rintro e w7 ⟨Az, cz, rfl, hlz, hFz, hb7⟩; have HB7 := Aside0.mk hb7; have HFz := Aside0.mk hFz; have HLz := Aside0.mk hlz; clear hb7 hFz hlz) | (go_at_call 27; refine (term_At.calls kt a.f0 (fun _ => True) X0 q0 a.f1 Aq cq q s.f0 s.f1 true w5 (Kd.V_mk hq0 (Kd.F_mono (F_old k30_heap HC0.out HB5.out) (fun _ _ => trivial))) HCq.out HLq.out FA.out).mono ?_; rintro e w6 ⟨v1, rfl, hV, hb6⟩; obtain ⟨As, cs, hv1, hls, hFs⟩ := hV; subst hv1; have hb46 := HB5.out.trans (hb6.mono HB5.out.size); have w6d00 : (w6.alloc (.cells #[.int .i64 s.f0, .slice As s.f1.length cs] 30)).cell? ⟨h0, 0, none⟩ = some (.int .i64 a.f0) := (blk_cell (blk_alloc (blk_below HX0.out hb46) _) 0).trans rfl; have w6d01 : (w6.alloc (.cells #[.int .i64 s.f0, .slice As s.f1.length cs] 30)).cell? ⟨h0, 1, none⟩ = some (.slice X0 a.f1.length q0) := (blk_cell (blk_alloc (blk_below HX0.out hb46) _) 1).trans rfl; have w6d10 : (w6.alloc (.cells #[.int .i64 s.f0, .slice As s.f1.length cs] 30)).cell? ⟨h1, 0, none⟩ = some (.int .i64 b.f0) := (blk_cell (blk_alloc (blk_below HX1.out hb46) _) 0).trans rfl; have w6d11 : (w6.alloc (.cells #[.int .i64 s.f0, .slice As s.f1.length cs] 30)).cell? ⟨h1, 1, none⟩ = some (.slice X1 b.f1.length q1) := (blk_cell (blk_alloc (blk_below HX1.out hb46) _) 1).trans rfl; have HB6 := Aside0.mk hb46; have HFs := Aside0.mk hFs; have HLs := Aside0.mk hls; have HCq6 := Aside0.mk (Kd.C_below HCq.out hb6); clear hFs hls hb6 hb46) | (go_at_call 23; refine (term_Places.calls _ _ _ a.f1 ls w4 HC0.out hq0 FP.out.1).mono ?_; rintro e w5 ⟨v0, rfl, hR, hb5⟩; obtain ⟨Al, cl, hv0⟩ := Kd.R_slice hR; subst hv0; obtain ⟨ad, cc, hAl, hcc0, hK, hcc⟩ := ReadsRow.get_ (Kd.R_reads' hR).2.2 [] (n % (ls.length : Int)) hj0 hj1; subst hAl; obtain ⟨Aq, cq, hce, hlq, hCq⟩ := hK; subst hce; rw [← FQ.out] at hcc hlq hCq; have hcell : w5.cell? (ad.add (n % (ls.length : Int)).toNat) = some (.slice Aq q.length cq) := (by have h9 := hcc 0 _ rfl; rw [show (Kd.slice 3 (Kd.int .i64)).sz = 1 from rfl, Nat.mul_one, Nat.add_zero] at h9; exact h9); have HCq := Aside0.mk hCq; have HLq := Aside0.mk hlq; have HB5 := Aside0.mk hb5; have w5c00 : w5.cell? ⟨h0, 0, none⟩ = some (.int .i64 a.f0) := (blk_cell (blk_below HX0.out hb5) 0).trans rfl; have w5c01 : w5.cell? ⟨h0, 1, none⟩ = some (.slice X0 a.f1.length q0) := (blk_cell (blk_below HX0.out hb5) 1).trans rfl; clear hcc hR hCq hlq hcc0 hb5))
  have hb8 := below_alloc HB7.out (.cells #[.int .i64 z'.f0, .slice Az z'.f1.length cz] 30)
  obtain ⟨w8, hw8⟩ : ∃ w8, w8 = w7.alloc (.cells #[.int .i64 z'.f0, .slice Az z'.f1.length cz] 30) := ⟨_, rfl⟩
  have hbz := heap_alloc_new w7 (.cells #[.int .i64 z'.f0, .slice Az z'.f1.length cz] 30)
  have hbs := blk_below (heap_alloc_new w6 (.cells #[.int .i64 s.f0, .slice As s.f1.length cs] 30)) hb8
  have hC8z := Kd.C_below (Kd.F_now HFz.out) (below_alloc (Below.refl _ _) (.cells #[.int .i64 z'.f0, .slice Az z'.f1.length cz] 30))
  rw [← hw8] at hb8 hbz hbs hC8z ⊢
  have hb48 : Below w4.heap.size w4 w8 := (below_alloc HB6.out (.cells #[.int .i64 s.f0, .slice As s.f1.length cs] 30)).trans (hb8.mono (Nat.le_trans HB6.out.size (by simp)))
  have hC8s := Kd.C_below (Kd.C_below (Kd.F_now HFs.out) (below_alloc (Below.refl _ _) (.cells #[.int .i64 s.f0, .slice As s.f1.length cs] 30))) hb8
  have hC80 := Kd.C_below HC0.out hb48
  have hC81 := Kd.C_below HC1.out hb48
  have hX80 := blk_below HX0.out hb48
  have hX81 := blk_below HX1.out hb48
  clear hw8 hb8 hj0 hj1 hl0 hcell
  have HB48 := Aside0.mk hb48
  by_cases hqe : q = []
  · refine KboPlaces_r10e (ga := h0) (gb := h1) (m := q.length) (k := kcmp s b) (by kernel_rfl) rfl rfl hX80 rfl hbz rfl hbs rfl hX81 ?_ ?_ (by rw [hqe]; rfl) ?_
    · intro w1 hb; exact kbo_Compare.calls k1 _ _ _ a.f1 _ _ _ z'.f1 _ w1 (Kd.C_below hC80 hb) hq0 (Kd.C_below hC8z hb) HLz.out FK.out.1
    · intro w1 hb; exact kbo_Compare.calls k2 _ _ _ s.f1 _ _ _ b.f1 _ w1 (Kd.C_below hC8s hb) HLs.out (Kd.C_below hC81 hb) hq1 FK.out.2.1
    intro v w9 hb9 hv18
    simp only [layL, Nat.reduceAdd, List.setIfInBounds_toArray, List.set_cons_zero, List.set_cons_succ, hv18]
    clear hv18
    have HB9 := Aside0.mk ((HB4.out.trans (HB48.out.mono HB4.out.size)).trans (hb9.mono (Nat.le_trans HB4.out.size HB48.out.size)))
    clear hb9 hbz hbs hC8z hC8s hC80 hC81 hX80 hX81 hb48 hqe FK
    generalize v 0 = t0
    generalize v 1 = t1
    generalize v 2 = t2
    generalize v 3 = t3
    generalize v 4 = t4
    generalize v 5 = t5
    generalize v 6 = t6
    generalize v 7 = t7
    generalize v 8 = t8
    generalize v 9 = t9
    generalize v 10 = t10
    generalize v 11 = t11
    generalize v 12 = t12
    generalize v 13 = t13
    generalize v 14 = t14
    generalize v 15 = t15
    generalize v 16 = t16
    generalize v 17 = t17
    clear v
    go_wp2
    go_ret
    exact ⟨rfl, HB9.out⟩
  · refine KboPlaces_r10n (ga := h0) (gb := h1) (m := q.length) (k := kcmp s b) (by kernel_rfl) rfl rfl hX80 rfl hbz rfl hbs rfl hX81 ?_ ?_ ?_ (by rw [beq_eq_false_iff_ne]; have := List.length_pos_iff.2 hqe; omega) ?_
    · intro w1 hb; exact kbo_Compare.calls k1 _ _ _ a.f1 _ _ _ z'.f1 _ w1 (Kd.C_below hC80 hb) hq0 (Kd.C_below hC8z hb) HLz.out FK.out.1
    · intro w1 hb; exact kbo_Compare.calls k2 _ _ _ s.f1 _ _ _ b.f1 _ w1 (Kd.C_below hC8s hb) HLs.out (Kd.C_below hC81 hb) hq1 FK.out.2.1
    · intro w1 hb
      have h9 := FK.out.2.2.1
      rw [FK.out.2.2.2 hqe] at h9
      exact kbo_Compare.calls k3 _ _ _ a.f1 _ _ _ s.f1 _ w1 (Kd.C_below hC80 hb) hq0 (Kd.C_below hC8s hb) HLs.out h9
    intro v w9 hb9 hv18
    simp only [layL, Nat.reduceAdd, List.setIfInBounds_toArray, List.set_cons_zero, List.set_cons_succ, hv18]
    clear hv18
    have HB9 := Aside0.mk ((HB4.out.trans (HB48.out.mono HB4.out.size)).trans (hb9.mono (Nat.le_trans HB4.out.size HB48.out.size)))
    clear hb9 hbz hbs hC8z hC8s hC80 hC81 hX80 hX81 hb48 hqe FK
    generalize v 0 = t0
    generalize v 1 = t1
    generalize v 2 = t2
    generalize v 3 = t3
    generalize v 4 = t4
    generalize v 5 = t5
    generalize v 6 = t6
    generalize v 7 = t7
    generalize v 8 = t8
    generalize v 9 = t9
    generalize v 10 = t10
    generalize v 11 = t11
    generalize v 12 = t12
    generalize v 13 = t13
    generalize v 14 = t14
    generalize v 15 = t15
    generalize v 16 = t16
    generalize v 17 = t17
    clear v
    go_wp2
    go_ret
    exact ⟨rfl, HB9.out⟩
end Go.Proofs.Ytpfddihcikiofaa.P
end

section
namespace Go.Proofs.Ytpfddihcikiofaa.kboPlaces
open Go.ChangeShapes Go.WideShapes Go.ChangeAt Go.RowKit
set_option linter.unusedVariables false
theorem own : ownKnob Try.prog.godebug = none := by kernel_rfl
theorem laidOut : laidOutB Try.prog = true := by kernel_rfl
set_option maxRecDepth 100000 in
theorem lifted (os : Os) (started : os.Started) (H : Type) (enc : TypeId × Value → H) :
    ReturnsInHanded {} Try.checked os 13 .any (Rows.kboPlacesSpec.pre6 enc Try.prog Try.f13 Rows.kboPlacesRow.domain false) (Rows.kboPlacesSpec.post enc Try.prog Try.f13 false true false false) := by
  refine returnsInHanded_of_change_sized (C := Try.checked) own started (by kernel_rfl) Try.func13
    (ChangeSpec.witness6 (enc := enc) (C := Try.checked) false ⟨#[], #[.agg #[.int .i64 0, .slice none 0 0], .agg #[.int .i64 0, .slice none 0 0], .int .u8 0], []⟩ 8 (by kernel_rfl) (by kernel_rfl) (by kernel_rfl) (by kernel_rfl)) ?_
  intro W base args ds gs before hval0 hW hcnd hsz0 _
  have hval : ∀ (j : Nat) t v, Try.f13.params[j]? = some t → args[j]? = some v → Value.okWide Try.prog W .any base t v := hval0
  have hW' := hW
  obtain ⟨p, q, hA0, hV, rfl, hfz, hnd⟩ := hW
  have hA : DataW.TrodAll enc Try.prog W 0 (fun _ => true) true Try.f13.params.toList args.toList ds p := hA0
  rw [Try.params13] at hA hval
  obtain ⟨v0, vs0, d0, ds0, p0, q0, hargs, rfl, rfl, h0, r0⟩ := trodAll_cons hA
  obtain ⟨v1, vs1, d1, ds1, p1, q1, rfl, rfl, rfl, h1, r1⟩ := trodAll_cons r0
  obtain ⟨v2, vs2, d2, ds2, p2, q2, rfl, rfl, rfl, h2, r2⟩ := trodAll_cons r1
  obtain ⟨rfl, rfl, rfl⟩ := trodAll_nil r2
  obtain rfl : args = #[v0, v1, v2] := by cases args; simp_all
  obtain ⟨rfl, rfl⟩ := trodVars_none hV
  have k0 := h0
  have lt0 : ∀ x ∈ p0, x.block < W.heap.size := by obtain ⟨m, hm⟩ := k0; exact DataW.trod_lt m _ _ _ hm
  obtain ⟨t0, A0, c0, rfl, hc0, hC0, hw0⟩ := P.open_T (hval 0 24 v0 rfl rfl) h0
  have k1 := h1
  have lt1 : ∀ x ∈ p1, x.block < W.heap.size := by obtain ⟨m, hm⟩ := k1; exact DataW.trod_lt m _ _ _ hm
  obtain ⟨t1, A1, c1, rfl, hc1, hC1, hw1⟩ := P.open_T (hval 1 24 v1 rfl rfl) h1
  obtain ⟨a2, rfl, rfl, rfl, w2⟩ := open_int Try.underlying5 (hval 2 5 v2 rfl rfl) h2
  clear hA0 hval0 hsz0
  refine (P.KboPlaces_walk t0 t1 a2 A0 c0 A1 c1 W (by have := w2; simp [Lit.wf, IntKind.min, IntKind.max, IntKind.signed, IntKind.bits] at this; omega) hC0 hc0 hC1 hc1).mono fun e W' ⟨he, bel⟩ => ?_
  subst he
  exact ⟨_, rfl, _, _, _, [], _, [], hW', trodAll_mk1 (shut_bool Try.underlying4 _), (trodAll_cons_mk (Below.trod laidOut (by kernel_rfl) (of_decide_eq_true (by kernel_rfl)) k0 bel lt0) (trodAll_cons_mk (Below.trod laidOut (by kernel_rfl) (of_decide_eq_true (by kernel_rfl)) k1 bel lt1) (trodAll_cons_mk (shut_int Try.underlying5 w2) trodAll_mk0))), rfl, bel.frame _, fun h => by cases h⟩
theorem over : Rows.kboPlacesRow.holds Try.pinned (OpenSpec.ofChange Rows.kboPlacesSpec) :=
  OpenClaim.holds_of_wide 13 Try.f13 rfl rfl rfl rfl rfl rfl rfl ⟨rfl, rfl, rfl, rfl, rfl⟩ rfl rfl rfl rfl rfl (by kernel_rfl) Try.func13 (by kernel_rfl)
    (of_decide_eq_true (by kernel_rfl)) (by unfold Func.isWrapper; first | (rw [if_pos (by decide +kernel)]; kernel_rfl) | (rw [if_neg (by decide +kernel)]; exact ⟨rfl, rfl⟩))
    (fun os started H enc _ => lifted os started H enc)
end Go.Proofs.Ytpfddihcikiofaa.kboPlaces
namespace Go.Proofs.Ytpfddihcikiofaa
theorem kboPlaces_holds : Rows.KboPlacesSaid := kboPlaces.over
#print axioms kboPlaces_holds
end Go.Proofs.Ytpfddihcikiofaa
end
