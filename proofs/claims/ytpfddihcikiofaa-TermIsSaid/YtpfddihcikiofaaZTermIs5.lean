/- The law TermIs holds of every input. Part 5 of 5: GTiRegs, GTermIs, LawTermIs. -/
import Derived.Test.YtpfddihcikiofaaZTermIs2
import Derived.Test.YtpfddihcikiofaaZTermIs4
import Derived.Test.YtpfddihcikiofaaRows
import Derived.WalkKit
import Derived.ProofKit
import Derived.OpenShut
import Derived.ShutString
import Derived.ChangeOld
import Derived.Below
import Derived.SizedLaws
import Derived.Test.YtpfddihcikiofaaZTermIs1
import Derived.Test.YtpfddihcikiofaaZTermIs3
section
namespace Go.Proofs.Ytpfddihcikiofaa.P
open Go.RowKit Go.Proofs.YtpfddihcikiofaaW.PrintWords Go.Proofs.YtpfddihcikiofaaW.PrintLast Go.Proofs.YtpfddihcikiofaaW.PrintMore
set_option linter.unusedVariables false
set_option linter.unusedSimpArgs false
attribute [local go_sem] max2_int min2_int max_two min_two
set_option maxHeartbeats 4000000 in
set_option maxRecDepth 100000 in
theorem TermIs_r18 {id : Nat} {a : Act} {w : World} {Q : Exit → Act → World → Prop} {ga gc : Nat} {xf xl af al : Value} {V : List Int}
    (hr : regionOk #[{ dst := some 52, op := Op.load 30 (Operand.tmp 7), type := 30, pos := "law.go:80", after := #[], guard := none }, { dst := some 53, op := Op.call { callee := Callee.value (Operand.func 32), args := #[Operand.tmp 52], argTypes := #[30] }, type := 25, pos := "law.go:80", after := #[{ on := 0, ground := Ground.data }], guard := none }, { dst := some 54, op := Op.load 24 (Operand.tmp 3), type := 24, pos := "law.go:80", after := #[], guard := none }, { dst := some 55, op := Op.call { callee := Callee.value (Operand.func 48), args := #[Operand.tmp 54], argTypes := #[24] }, type := 25, pos := "law.go:80", after := #[{ on := 2, ground := Ground.data }, { on := 1, ground := Ground.chain }], guard := none }, { dst := some 13, op := Op.assign (Operand.tmp 53), type := 25, pos := "law.go:80", after := #[{ on := 1, ground := Ground.data }, { on := 3, ground := Ground.chain }, { on := 0, ground := Ground.phase }, { on := 1, ground := Ground.phase }, { on := 2, ground := Ground.textOnly Departure.lateStores }, { on := 3, ground := Ground.textOnly Departure.lateStoresUnsure }], guard := none }, { dst := some 14, op := Op.assign (Operand.tmp 55), type := 25, pos := "law.go:80", after := #[{ on := 3, ground := Ground.data }, { on := 4, ground := Ground.chain }, { on := 0, ground := Ground.phase }, { on := 1, ground := Ground.phase }, { on := 2, ground := Ground.phase }, { on := 3, ground := Ground.phase }, { on := 4, ground := Ground.phase }], guard := none }] a.tmps.size = true)
    (hT7 : a.tmps.getD 7 undef = .pointer (some ⟨ga, 0, none⟩)) (hX7 : w.heap[ga]? = some (.cells #[xf, xl] 30 (0, 0)))
    (hT3 : a.tmps.getD 3 undef = .pointer (some ⟨gc, 0, none⟩)) (hX3 : w.heap[gc]? = some (.cells #[af, al] 24 (0, 0)))
    (hF1 : ∀ w1, Below w.heap.size w w1 → Calls Try.prog 32 #[.agg #[xf, xl]] w1 fun e w2 => ∃ u, e = .returned u ∧ RowTold (Kd.int .i64) V u w2 ∧ Below w1.heap.size w1 w2)
    (hF3 : ∀ w1, Below w.heap.size w w1 → Calls Try.prog 48 #[.agg #[af, al]] w1 fun e w2 => ∃ u, e = .returned u ∧ RowTold (Kd.int .i64) V u w2 ∧ Below w1.heap.size w1 w2)
    (hK : ∀ v w' Av cv Aw cw, Below w.heap.size w w' → v 4 = .slice Av V.length cv → v 5 = .slice Aw V.length cw → V.length ≤ cv → V.length ≤ cw → Kd.C (Kd.int .i64) w' Av V.length V → Kd.C (Kd.int .i64) w' Aw V.length V → Q .normal { tmps := layL [some 52, some 53, some 54, some 55, some 13, some 14] 0 v a.tmps, defers := a.defers } w') :
    (Code.region id #[{ dst := some 52, op := Op.load 30 (Operand.tmp 7), type := 30, pos := "law.go:80", after := #[], guard := none }, { dst := some 53, op := Op.call { callee := Callee.value (Operand.func 32), args := #[Operand.tmp 52], argTypes := #[30] }, type := 25, pos := "law.go:80", after := #[{ on := 0, ground := Ground.data }], guard := none }, { dst := some 54, op := Op.load 24 (Operand.tmp 3), type := 24, pos := "law.go:80", after := #[], guard := none }, { dst := some 55, op := Op.call { callee := Callee.value (Operand.func 48), args := #[Operand.tmp 54], argTypes := #[24] }, type := 25, pos := "law.go:80", after := #[{ on := 2, ground := Ground.data }, { on := 1, ground := Ground.chain }], guard := none }, { dst := some 13, op := Op.assign (Operand.tmp 53), type := 25, pos := "law.go:80", after := #[{ on := 1, ground := Ground.data }, { on := 3, ground := Ground.chain }, { on := 0, ground := Ground.phase }, { on := 1, ground := Ground.phase }, { on := 2, ground := Ground.textOnly Departure.lateStores }, { on := 3, ground := Ground.textOnly Departure.lateStoresUnsure }], guard := none }, { dst := some 14, op := Op.assign (Operand.tmp 55), type := 25, pos := "law.go:80", after := #[{ on := 3, ground := Ground.data }, { on := 4, ground := Ground.chain }, { on := 0, ground := Ground.phase }, { on := 1, ground := Ground.phase }, { on := 2, ground := Ground.phase }, { on := 3, ground := Ground.phase }, { on := 4, ground := Ground.phase }], guard := none }] true).wp Try.prog Q a w := by
  have hmx : Try.prog.follows .mixedOrders = true := by kernel_rfl
  refine region_detR 6 hmx hr (by kernel_rfl) ?_
  refine DetR.is (o := { dst := some 52, op := Op.load 30 (Operand.tmp 7), type := 30, pos := "law.go:80", after := #[], guard := none }) (u := ?ux1) rfl (by decide) (fun T w' hb hd hB K hK => ?sx1) ?rx1
  case sx1 =>
    have e7 := (hB 7 (by kernel_rfl)).trans hT7
    have q7_0 : w'.cell? ⟨ga, 0, none⟩ = some (xf) := (blk_cell (blk_below hX7 hb) 0).trans rfl
    have q7_1 : w'.cell? ⟨ga, 1, none⟩ = some (xl) := (blk_cell (blk_below hX7 hb) 1).trans rfl
    rw [if_pos (wanted_none _ rfl)]
    clear hd hB
    go_simp
    exact hK _ (Below.refl _ _)
  refine DetR.cons (o := { dst := some 53, op := Op.call { callee := Callee.value (Operand.func 32), args := #[Operand.tmp 52], argTypes := #[30] }, type := 25, pos := "law.go:80", after := #[{ on := 0, ground := Ground.data }], guard := none }) (RowTold (Kd.int .i64) V) rfl (by decide) (RowTold.grows _ _) (fun T w' hb hd hB K hK => ?sx2) ?rx2
  case sx2 =>
    have e52 := hd 0 52 _ (by decide) (by kernel_rfl) rfl rfl
    replace e52 : T.getD 52 undef = _ := e52
    rw [if_pos (wanted_none _ rfl)]
    have hcl := hF1 w' hb
    clear hd hB
    go_simp
    go_at_call 32
    refine hcl.mono ?_
    rintro e w2 ⟨u, rfl, h1, h2⟩
    exact hK _ _ h2 h1
  refine DetR.is (o := { dst := some 54, op := Op.load 24 (Operand.tmp 3), type := 24, pos := "law.go:80", after := #[], guard := none }) (u := ?ux3) rfl (by decide) (fun T w' hb hd hB K hK => ?sx3) ?rx3
  case sx3 =>
    have e3 := (hB 3 (by kernel_rfl)).trans hT3
    have q3_0 : w'.cell? ⟨gc, 0, none⟩ = some (af) := (blk_cell (blk_below hX3 hb) 0).trans rfl
    have q3_1 : w'.cell? ⟨gc, 1, none⟩ = some (al) := (blk_cell (blk_below hX3 hb) 1).trans rfl
    rw [if_pos (wanted_none _ rfl)]
    clear hd hB
    go_simp
    exact hK _ (Below.refl _ _)
  refine DetR.cons (o := { dst := some 55, op := Op.call { callee := Callee.value (Operand.func 48), args := #[Operand.tmp 54], argTypes := #[24] }, type := 25, pos := "law.go:80", after := #[{ on := 2, ground := Ground.data }, { on := 1, ground := Ground.chain }], guard := none }) (RowTold (Kd.int .i64) V) rfl (by decide) (RowTold.grows _ _) (fun T w' hb hd hB K hK => ?sx4) ?rx4
  case sx4 =>
    have e54 := hd 2 54 _ (by decide) (by kernel_rfl) rfl rfl
    replace e54 : T.getD 54 undef = _ := e54
    rw [if_pos (wanted_none _ rfl)]
    have hcl := hF3 w' hb
    clear hd hB
    go_simp
    go_at_call 48
    refine hcl.mono ?_
    rintro e w2 ⟨u, rfl, h1, h2⟩
    exact hK _ _ h2 h1
  refine DetR.cons (o := { dst := some 13, op := Op.assign (Operand.tmp 53), type := 25, pos := "law.go:80", after := #[{ on := 1, ground := Ground.data }, { on := 3, ground := Ground.chain }, { on := 0, ground := Ground.phase }, { on := 1, ground := Ground.phase }, { on := 2, ground := Ground.textOnly Departure.lateStores }, { on := 3, ground := Ground.textOnly Departure.lateStoresUnsure }], guard := none }) (RowTold (Kd.int .i64) V) rfl (by decide) (RowTold.grows _ _) (fun T w' hb hd hB K hK => ?sx5) ?rx5
  case sx5 =>
    obtain ⟨A53, c53, e53, hl53, hC53⟩ := (hd 1 53 _ (by decide) (by kernel_rfl) rfl rfl)
    rw [if_pos (wanted_none _ rfl)]
    clear hd hB
    go_simp
    exact hK _ _ (Below.refl _ _) ⟨_, _, rfl, by assumption, by assumption⟩
  refine DetR.cons (o := { dst := some 14, op := Op.assign (Operand.tmp 55), type := 25, pos := "law.go:80", after := #[{ on := 3, ground := Ground.data }, { on := 4, ground := Ground.chain }, { on := 0, ground := Ground.phase }, { on := 1, ground := Ground.phase }, { on := 2, ground := Ground.phase }, { on := 3, ground := Ground.phase }, { on := 4, ground := Ground.phase }], guard := none }) (RowTold (Kd.int .i64) V) rfl (by decide) (RowTold.grows _ _) (fun T w' hb hd hB K hK => ?sx6) ?rx6
  case sx6 =>
    obtain ⟨A55, c55, e55, hl55, hC55⟩ := (hd 3 55 _ (by decide) (by kernel_rfl) rfl rfl)
    rw [if_pos (wanted_none _ rfl)]
    clear hd hB
    go_simp
    exact hK _ _ (Below.refl _ _) ⟨_, _, rfl, by assumption, by assumption⟩
  refine DetR.done [some 52, some 53, some 54, some 55, some 13, some 14] (by kernel_rfl) rfl (by kernel_rfl) ?_
  intro v w' hb hv
  obtain ⟨Av, cv, h1, h2, h3⟩ := hv 4 _ (by decide) rfl
  obtain ⟨Aw, cw, h4, h5, h6⟩ := hv 5 _ (by decide) rfl
  exact hK v w' Av cv Aw cw hb h1 h4 h2 h5 h3 h6
set_option maxHeartbeats 4000000 in
set_option maxRecDepth 100000 in
theorem TermIs_r23 {id : Nat} {a : Act} {w : World} {Q : Exit → Act → World → Prop} {Av Aw : Addr} {nv cv cw : Nat} {i x : Int}
    (hr : regionOk #[{ dst := some 62, op := Op.move (Operand.tmp 16), type := 3, pos := "law.go:83", after := #[], guard := none }, { dst := some 63, op := Op.move (Operand.tmp 13), type := 25, pos := "law.go:83", after := #[], guard := none }, { dst := some 64, op := Op.call { callee := Callee.builtin Builtin.len, args := #[Operand.tmp 63], argTypes := #[25] }, type := 3, pos := "law.go:83", after := #[{ on := 1, ground := Ground.data }], guard := none }, { dst := some 65, op := Op.binOp BinOp.geq 3 (Operand.tmp 62) (Operand.tmp 64) 3, type := 4, pos := "law.go:83", after := #[{ on := 0, ground := Ground.data }, { on := 2, ground := Ground.data }], guard := none }, { dst := some 66, op := Op.move (Operand.tmp 65), type := 4, pos := "law.go:83", after := #[{ on := 3, ground := Ground.data }], guard := none }, { dst := some 67, op := Op.move (Operand.tmp 13), type := 25, pos := "law.go:83", after := #[{ on := 4, ground := Ground.guard }], guard := some (4, false) }, { dst := some 68, op := Op.move (Operand.tmp 16), type := 3, pos := "law.go:83", after := #[{ on := 4, ground := Ground.guard }], guard := some (4, false) }, { dst := some 69, op := Op.indexAddr 25 (Operand.tmp 67) (Operand.tmp 68), type := 0, pos := "law.go:83", after := #[{ on := 5, ground := Ground.data }, { on := 6, ground := Ground.data }, { on := 4, ground := Ground.guard }], guard := some (4, false) }, { dst := some 70, op := Op.load 3 (Operand.tmp 69), type := 3, pos := "law.go:83", after := #[{ on := 7, ground := Ground.data }, { on := 4, ground := Ground.guard }], guard := some (4, false) }, { dst := some 71, op := Op.move (Operand.tmp 14), type := 25, pos := "law.go:83", after := #[{ on := 4, ground := Ground.guard }], guard := some (4, false) }, { dst := some 72, op := Op.move (Operand.tmp 16), type := 3, pos := "law.go:83", after := #[{ on := 4, ground := Ground.guard }], guard := some (4, false) }, { dst := some 73, op := Op.indexAddr 25 (Operand.tmp 71) (Operand.tmp 72), type := 0, pos := "law.go:83", after := #[{ on := 9, ground := Ground.data }, { on := 10, ground := Ground.data }, { on := 4, ground := Ground.guard }], guard := some (4, false) }, { dst := some 74, op := Op.load 3 (Operand.tmp 73), type := 3, pos := "law.go:83", after := #[{ on := 11, ground := Ground.data }, { on := 4, ground := Ground.guard }], guard := some (4, false) }, { dst := some 75, op := Op.binOp BinOp.neq 3 (Operand.tmp 70) (Operand.tmp 74) 3, type := 4, pos := "law.go:83", after := #[{ on := 8, ground := Ground.data }, { on := 12, ground := Ground.data }, { on := 4, ground := Ground.guard }], guard := some (4, false) }, { dst := some 76, op := Op.pick (Operand.tmp 66) (Operand.const (Value.bool true)) (Operand.tmp 75), type := 4, pos := "law.go:83", after := #[{ on := 4, ground := Ground.data }, { on := 13, ground := Ground.data }], guard := none }] a.tmps.size = true)
    (hT13 : a.tmps.getD 13 undef = .slice (some Av) nv cv)
    (hT14 : a.tmps.getD 14 undef = .slice (some Aw) nv cw)
    (hT16 : a.tmps.getD 16 undef = .int .i64 i)
    (h1 : 0 ≤ i) (h2 : i < (nv : Int)) (hge : decide ((nv : Int) ≤ i) = false) (hz : w.cell? (Av.add i.toNat) = some (.int .i64 x)) (hp : w.cell? (Aw.add i.toNat) = some (.int .i64 x))
    (hK : ∀ v w', Below w.heap.size w w' → v 14 = .bool false → Q .normal { tmps := layL [some 62, some 63, some 64, some 65, some 66, some 67, some 68, some 69, some 70, some 71, some 72, some 73, some 74, some 75, some 76] 0 v a.tmps, defers := a.defers } w') :
    (Code.region id #[{ dst := some 62, op := Op.move (Operand.tmp 16), type := 3, pos := "law.go:83", after := #[], guard := none }, { dst := some 63, op := Op.move (Operand.tmp 13), type := 25, pos := "law.go:83", after := #[], guard := none }, { dst := some 64, op := Op.call { callee := Callee.builtin Builtin.len, args := #[Operand.tmp 63], argTypes := #[25] }, type := 3, pos := "law.go:83", after := #[{ on := 1, ground := Ground.data }], guard := none }, { dst := some 65, op := Op.binOp BinOp.geq 3 (Operand.tmp 62) (Operand.tmp 64) 3, type := 4, pos := "law.go:83", after := #[{ on := 0, ground := Ground.data }, { on := 2, ground := Ground.data }], guard := none }, { dst := some 66, op := Op.move (Operand.tmp 65), type := 4, pos := "law.go:83", after := #[{ on := 3, ground := Ground.data }], guard := none }, { dst := some 67, op := Op.move (Operand.tmp 13), type := 25, pos := "law.go:83", after := #[{ on := 4, ground := Ground.guard }], guard := some (4, false) }, { dst := some 68, op := Op.move (Operand.tmp 16), type := 3, pos := "law.go:83", after := #[{ on := 4, ground := Ground.guard }], guard := some (4, false) }, { dst := some 69, op := Op.indexAddr 25 (Operand.tmp 67) (Operand.tmp 68), type := 0, pos := "law.go:83", after := #[{ on := 5, ground := Ground.data }, { on := 6, ground := Ground.data }, { on := 4, ground := Ground.guard }], guard := some (4, false) }, { dst := some 70, op := Op.load 3 (Operand.tmp 69), type := 3, pos := "law.go:83", after := #[{ on := 7, ground := Ground.data }, { on := 4, ground := Ground.guard }], guard := some (4, false) }, { dst := some 71, op := Op.move (Operand.tmp 14), type := 25, pos := "law.go:83", after := #[{ on := 4, ground := Ground.guard }], guard := some (4, false) }, { dst := some 72, op := Op.move (Operand.tmp 16), type := 3, pos := "law.go:83", after := #[{ on := 4, ground := Ground.guard }], guard := some (4, false) }, { dst := some 73, op := Op.indexAddr 25 (Operand.tmp 71) (Operand.tmp 72), type := 0, pos := "law.go:83", after := #[{ on := 9, ground := Ground.data }, { on := 10, ground := Ground.data }, { on := 4, ground := Ground.guard }], guard := some (4, false) }, { dst := some 74, op := Op.load 3 (Operand.tmp 73), type := 3, pos := "law.go:83", after := #[{ on := 11, ground := Ground.data }, { on := 4, ground := Ground.guard }], guard := some (4, false) }, { dst := some 75, op := Op.binOp BinOp.neq 3 (Operand.tmp 70) (Operand.tmp 74) 3, type := 4, pos := "law.go:83", after := #[{ on := 8, ground := Ground.data }, { on := 12, ground := Ground.data }, { on := 4, ground := Ground.guard }], guard := some (4, false) }, { dst := some 76, op := Op.pick (Operand.tmp 66) (Operand.const (Value.bool true)) (Operand.tmp 75), type := 4, pos := "law.go:83", after := #[{ on := 4, ground := Ground.data }, { on := 13, ground := Ground.data }], guard := none }] true).wp Try.prog Q a w := by
  have hmx : Try.prog.follows .mixedOrders = true := by kernel_rfl
  refine region_detR 15 hmx hr (by kernel_rfl) ?_
  refine DetR.is (o := { dst := some 62, op := Op.move (Operand.tmp 16), type := 3, pos := "law.go:83", after := #[], guard := none }) (u := ?ux7) rfl (by decide) (fun T w' hb hd hB K hK => ?sx7) ?rx7
  case sx7 =>
    have e16 := (hB 16 (by kernel_rfl)).trans hT16
    rw [if_pos (wanted_none _ rfl)]
    clear hd hB
    go_simp
    exact hK _ (Below.refl _ _)
  refine DetR.is (o := { dst := some 63, op := Op.move (Operand.tmp 13), type := 25, pos := "law.go:83", after := #[], guard := none }) (u := ?ux8) rfl (by decide) (fun T w' hb hd hB K hK => ?sx8) ?rx8
  case sx8 =>
    have e13 := (hB 13 (by kernel_rfl)).trans hT13
    rw [if_pos (wanted_none _ rfl)]
    clear hd hB
    go_simp
    exact hK _ (Below.refl _ _)
  refine DetR.is (o := { dst := some 64, op := Op.call { callee := Callee.builtin Builtin.len, args := #[Operand.tmp 63], argTypes := #[25] }, type := 3, pos := "law.go:83", after := #[{ on := 1, ground := Ground.data }], guard := none }) (u := ?ux9) rfl (by decide) (fun T w' hb hd hB K hK => ?sx9) ?rx9
  case sx9 =>
    have e63 := hd 1 63 _ (by decide) (by kernel_rfl) rfl rfl
    replace e63 : T.getD 63 undef = _ := e63
    rw [if_pos (wanted_none _ rfl)]
    clear hd hB
    go_simp
    exact hK _ (Below.refl _ _)
  refine DetR.is (o := { dst := some 65, op := Op.binOp BinOp.geq 3 (Operand.tmp 62) (Operand.tmp 64) 3, type := 4, pos := "law.go:83", after := #[{ on := 0, ground := Ground.data }, { on := 2, ground := Ground.data }], guard := none }) (u := .bool false) rfl (by decide) (fun T w' hb hd hB K hK => ?sx10) ?rx10
  case sx10 =>
    have e62 := hd 0 62 _ (by decide) (by kernel_rfl) rfl rfl
    replace e62 : T.getD 62 undef = _ := e62
    have e64 := hd 2 64 _ (by decide) (by kernel_rfl) rfl rfl
    replace e64 : T.getD 64 undef = _ := e64
    rw [if_pos (wanted_none _ rfl)]
    clear hd hB
    go_simp
    try rw [hge]
    exact hK _ (Below.refl _ _)
  refine DetR.is (o := { dst := some 66, op := Op.move (Operand.tmp 65), type := 4, pos := "law.go:83", after := #[{ on := 3, ground := Ground.data }], guard := none }) (u := .bool false) rfl (by decide) (fun T w' hb hd hB K hK => ?sx11) ?rx11
  case sx11 =>
    have e65 := hd 3 65 _ (by decide) (by kernel_rfl) rfl rfl
    replace e65 : T.getD 65 undef = _ := e65
    rw [if_pos (wanted_none _ rfl)]
    clear hd hB
    go_simp
    exact hK _ (Below.refl _ _)
  refine DetR.is (o := { dst := some 67, op := Op.move (Operand.tmp 13), type := 25, pos := "law.go:83", after := #[{ on := 4, ground := Ground.guard }], guard := some (4, false) }) (u := ?ux12) rfl (by decide) (fun T w' hb hd hB K hK => ?sx12) ?rx12
  case sx12 =>
    have e13 := (hB 13 (by kernel_rfl)).trans hT13
    have eg := hd 4 66 _ (by decide) (by kernel_rfl) rfl rfl
    replace eg : T.getD 66 undef = .bool false := eg
    rw [if_pos (wanted_yes 4 66 false rfl rfl eg)]
    clear eg
    clear hd hB
    go_simp
    exact hK _ (Below.refl _ _)
  refine DetR.is (o := { dst := some 68, op := Op.move (Operand.tmp 16), type := 3, pos := "law.go:83", after := #[{ on := 4, ground := Ground.guard }], guard := some (4, false) }) (u := ?ux13) rfl (by decide) (fun T w' hb hd hB K hK => ?sx13) ?rx13
  case sx13 =>
    have e16 := (hB 16 (by kernel_rfl)).trans hT16
    have eg := hd 4 66 _ (by decide) (by kernel_rfl) rfl rfl
    replace eg : T.getD 66 undef = .bool false := eg
    rw [if_pos (wanted_yes 4 66 false rfl rfl eg)]
    clear eg
    clear hd hB
    go_simp
    exact hK _ (Below.refl _ _)
  refine DetR.is (o := { dst := some 69, op := Op.indexAddr 25 (Operand.tmp 67) (Operand.tmp 68), type := 0, pos := "law.go:83", after := #[{ on := 5, ground := Ground.data }, { on := 6, ground := Ground.data }, { on := 4, ground := Ground.guard }], guard := some (4, false) }) (u := .pointer (some (Av.add i.toNat))) rfl (by decide) (fun T w' hb hd hB K hK => ?sx14) ?rx14
  case sx14 =>
    have e67 := hd 5 67 _ (by decide) (by kernel_rfl) rfl rfl
    replace e67 : T.getD 67 undef = _ := e67
    have e68 := hd 6 68 _ (by decide) (by kernel_rfl) rfl rfl
    replace e68 : T.getD 68 undef = _ := e68
    have eg := hd 4 66 _ (by decide) (by kernel_rfl) rfl rfl
    replace eg : T.getD 66 undef = .bool false := eg
    rw [if_pos (wanted_yes 4 66 false rfl rfl eg)]
    clear eg
    clear hd hB
    go_simp
    exact hK _ (Below.refl _ _)
  refine DetR.is (o := { dst := some 70, op := Op.load 3 (Operand.tmp 69), type := 3, pos := "law.go:83", after := #[{ on := 7, ground := Ground.data }, { on := 4, ground := Ground.guard }], guard := some (4, false) }) (u := ?ux15) rfl (by decide) (fun T w' hb hd hB K hK => ?sx15) ?rx15
  case sx15 =>
    have e69 := hd 7 69 _ (by decide) (by kernel_rfl) rfl rfl
    replace e69 : T.getD 69 undef = _ := e69
    have eg := hd 4 66 _ (by decide) (by kernel_rfl) rfl rfl
    replace eg : T.getD 66 undef = .bool false := eg
    rw [if_pos (wanted_yes 4 66 false rfl rfl eg)]
    clear eg
    have hz' := (hb.cell (cell_lt' hz)).trans hz
    have hp' := (hb.cell (cell_lt' hp)).trans hp
    clear hd hB
    go_simp
    exact hK _ (Below.refl _ _)
  refine DetR.is (o := { dst := some 71, op := Op.move (Operand.tmp 14), type := 25, pos := "law.go:83", after := #[{ on := 4, ground := Ground.guard }], guard := some (4, false) }) (u := ?ux16) rfl (by decide) (fun T w' hb hd hB K hK => ?sx16) ?rx16
  case sx16 =>
    have e14 := (hB 14 (by kernel_rfl)).trans hT14
    have eg := hd 4 66 _ (by decide) (by kernel_rfl) rfl rfl
    replace eg : T.getD 66 undef = .bool false := eg
    rw [if_pos (wanted_yes 4 66 false rfl rfl eg)]
    clear eg
    clear hd hB
    go_simp
    exact hK _ (Below.refl _ _)
  refine DetR.is (o := { dst := some 72, op := Op.move (Operand.tmp 16), type := 3, pos := "law.go:83", after := #[{ on := 4, ground := Ground.guard }], guard := some (4, false) }) (u := ?ux17) rfl (by decide) (fun T w' hb hd hB K hK => ?sx17) ?rx17
  case sx17 =>
    have e16 := (hB 16 (by kernel_rfl)).trans hT16
    have eg := hd 4 66 _ (by decide) (by kernel_rfl) rfl rfl
    replace eg : T.getD 66 undef = .bool false := eg
    rw [if_pos (wanted_yes 4 66 false rfl rfl eg)]
    clear eg
    clear hd hB
    go_simp
    exact hK _ (Below.refl _ _)
  refine DetR.is (o := { dst := some 73, op := Op.indexAddr 25 (Operand.tmp 71) (Operand.tmp 72), type := 0, pos := "law.go:83", after := #[{ on := 9, ground := Ground.data }, { on := 10, ground := Ground.data }, { on := 4, ground := Ground.guard }], guard := some (4, false) }) (u := .pointer (some (Aw.add i.toNat))) rfl (by decide) (fun T w' hb hd hB K hK => ?sx18) ?rx18
  case sx18 =>
    have e71 := hd 9 71 _ (by decide) (by kernel_rfl) rfl rfl
    replace e71 : T.getD 71 undef = _ := e71
    have e72 := hd 10 72 _ (by decide) (by kernel_rfl) rfl rfl
    replace e72 : T.getD 72 undef = _ := e72
    have eg := hd 4 66 _ (by decide) (by kernel_rfl) rfl rfl
    replace eg : T.getD 66 undef = .bool false := eg
    rw [if_pos (wanted_yes 4 66 false rfl rfl eg)]
    clear eg
    clear hd hB
    go_simp
    exact hK _ (Below.refl _ _)
  refine DetR.is (o := { dst := some 74, op := Op.load 3 (Operand.tmp 73), type := 3, pos := "law.go:83", after := #[{ on := 11, ground := Ground.data }, { on := 4, ground := Ground.guard }], guard := some (4, false) }) (u := ?ux19) rfl (by decide) (fun T w' hb hd hB K hK => ?sx19) ?rx19
  case sx19 =>
    have e73 := hd 11 73 _ (by decide) (by kernel_rfl) rfl rfl
    replace e73 : T.getD 73 undef = _ := e73
    have eg := hd 4 66 _ (by decide) (by kernel_rfl) rfl rfl
    replace eg : T.getD 66 undef = .bool false := eg
    rw [if_pos (wanted_yes 4 66 false rfl rfl eg)]
    clear eg
    have hz' := (hb.cell (cell_lt' hz)).trans hz
    have hp' := (hb.cell (cell_lt' hp)).trans hp
    clear hd hB
    go_simp
    exact hK _ (Below.refl _ _)
  refine DetR.is (o := { dst := some 75, op := Op.binOp BinOp.neq 3 (Operand.tmp 70) (Operand.tmp 74) 3, type := 4, pos := "law.go:83", after := #[{ on := 8, ground := Ground.data }, { on := 12, ground := Ground.data }, { on := 4, ground := Ground.guard }], guard := some (4, false) }) (u := .bool false) rfl (by decide) (fun T w' hb hd hB K hK => ?sx20) ?rx20
  case sx20 =>
    have e70 := hd 8 70 _ (by decide) (by kernel_rfl) rfl rfl
    replace e70 : T.getD 70 undef = _ := e70
    have e74 := hd 12 74 _ (by decide) (by kernel_rfl) rfl rfl
    replace e74 : T.getD 74 undef = _ := e74
    have eg := hd 4 66 _ (by decide) (by kernel_rfl) rfl rfl
    replace eg : T.getD 66 undef = .bool false := eg
    rw [if_pos (wanted_yes 4 66 false rfl rfl eg)]
    clear eg
    clear hd hB
    go_simp
    try simp only [bne_self_eq_false]
    exact hK _ (Below.refl _ _)
  refine DetR.is (o := { dst := some 76, op := Op.pick (Operand.tmp 66) (Operand.const (Value.bool true)) (Operand.tmp 75), type := 4, pos := "law.go:83", after := #[{ on := 4, ground := Ground.data }, { on := 13, ground := Ground.data }], guard := none }) (u := .bool false) rfl (by decide) (fun T w' hb hd hB K hK => ?sx21) ?rx21
  case sx21 =>
    have e66 := hd 4 66 _ (by decide) (by kernel_rfl) rfl rfl
    replace e66 : T.getD 66 undef = _ := e66
    have e75 := hd 13 75 _ (by decide) (by kernel_rfl) rfl rfl
    replace e75 : T.getD 75 undef = _ := e75
    rw [if_pos (wanted_none _ rfl)]
    clear hd hB
    go_simp
    exact hK _ (Below.refl _ _)
  refine DetR.done [some 62, some 63, some 64, some 65, some 66, some 67, some 68, some 69, some 70, some 71, some 72, some 73, some 74, some 75, some 76] (by kernel_rfl) rfl (by kernel_rfl) ?_
  intro v w' hb hv
  exact hK v w' hb (hv 14 _ (by decide) rfl)
set_option maxHeartbeats 4000000 in
set_option maxRecDepth 100000 in
theorem TermIs_r26 {id : Nat} {a : Act} {w : World} {Q : Exit → Act → World → Prop} {f k tp cf df : Int} {s : Bool} {ga gb gc nl cl cn nv cv cw : Nat} {xf xl yf yl af al : Value} {Al Av Aw : Option Addr} {cs : List S30} {ds : List S24}
    (hr : regionOk #[{ dst := some 83, op := Op.load 30 (Operand.tmp 7), type := 30, pos := "law.go:88", after := #[], guard := none }, { dst := some 84, op := Op.load 30 (Operand.tmp 8), type := 30, pos := "law.go:88", after := #[], guard := none }, { dst := some 85, op := Op.call { callee := Callee.value (Operand.func 37), args := #[Operand.tmp 83, Operand.tmp 84], argTypes := #[30, 30] }, type := 4, pos := "law.go:88", after := #[{ on := 0, ground := Ground.data }, { on := 1, ground := Ground.data }], guard := none }, { dst := some 86, op := Op.move (Operand.tmp 9), type := 3, pos := "law.go:88", after := #[], guard := none }, { dst := some 87, op := Op.binOp BinOp.eql 3 (Operand.tmp 86) (Operand.const (Value.int IntKind.i64 0)) 3, type := 4, pos := "law.go:88", after := #[{ on := 3, ground := Ground.data }], guard := none }, { dst := some 88, op := Op.binOp BinOp.eql 4 (Operand.tmp 85) (Operand.tmp 87) 4, type := 4, pos := "law.go:88", after := #[{ on := 2, ground := Ground.data }, { on := 4, ground := Ground.data }], guard := none }, { dst := some 89, op := Op.move (Operand.tmp 88), type := 4, pos := "law.go:88", after := #[{ on := 5, ground := Ground.data }, { on := 2, ground := Ground.chain }], guard := none }, { dst := some 90, op := Op.load 30 (Operand.tmp 7), type := 30, pos := "law.go:88", after := #[{ on := 6, ground := Ground.guard }], guard := some (6, true) }, { dst := some 91, op := Op.load 30 (Operand.tmp 8), type := 30, pos := "law.go:88", after := #[{ on := 6, ground := Ground.guard }], guard := some (6, true) }, { dst := some 92, op := Op.call { callee := Callee.value (Operand.func 36), args := #[Operand.tmp 90, Operand.tmp 91], argTypes := #[30, 30] }, type := 3, pos := "law.go:88", after := #[{ on := 7, ground := Ground.data }, { on := 8, ground := Ground.data }, { on := 6, ground := Ground.chain }, { on := 6, ground := Ground.guard }], guard := some (6, true) }, { dst := some 93, op := Op.move (Operand.tmp 9), type := 3, pos := "law.go:88", after := #[{ on := 6, ground := Ground.guard }], guard := some (6, true) }, { dst := some 94, op := Op.binOp BinOp.eql 3 (Operand.tmp 92) (Operand.tmp 93) 3, type := 4, pos := "law.go:88", after := #[{ on := 9, ground := Ground.data }, { on := 10, ground := Ground.data }, { on := 6, ground := Ground.guard }], guard := some (6, true) }, { dst := some 95, op := Op.pick (Operand.tmp 89) (Operand.tmp 94) (Operand.const (Value.bool false)), type := 4, pos := "law.go:88", after := #[{ on := 6, ground := Ground.data }, { on := 11, ground := Ground.data }], guard := none }, { dst := some 96, op := Op.move (Operand.tmp 95), type := 4, pos := "law.go:88", after := #[{ on := 12, ground := Ground.data }, { on := 9, ground := Ground.chain }], guard := none }, { dst := some 97, op := Op.load 30 (Operand.tmp 7), type := 30, pos := "law.go:88", after := #[{ on := 13, ground := Ground.guard }], guard := some (13, true) }, { dst := some 98, op := Op.call { callee := Callee.value (Operand.func 34), args := #[Operand.tmp 97], argTypes := #[30] }, type := 3, pos := "law.go:88", after := #[{ on := 14, ground := Ground.data }, { on := 13, ground := Ground.chain }, { on := 13, ground := Ground.guard }], guard := some (13, true) }, { dst := some 99, op := Op.move (Operand.tmp 10), type := 22, pos := "law.go:88", after := #[{ on := 13, ground := Ground.guard }], guard := some (13, true) }, { dst := some 100, op := Op.call { callee := Callee.builtin Builtin.len, args := #[Operand.tmp 99], argTypes := #[22] }, type := 3, pos := "law.go:88", after := #[{ on := 16, ground := Ground.data }, { on := 13, ground := Ground.guard }], guard := some (13, true) }, { dst := some 101, op := Op.binOp BinOp.eql 3 (Operand.tmp 98) (Operand.tmp 100) 3, type := 4, pos := "law.go:88", after := #[{ on := 15, ground := Ground.data }, { on := 17, ground := Ground.data }, { on := 13, ground := Ground.guard }], guard := some (13, true) }, { dst := some 102, op := Op.pick (Operand.tmp 96) (Operand.tmp 101) (Operand.const (Value.bool false)), type := 4, pos := "law.go:88", after := #[{ on := 13, ground := Ground.data }, { on := 18, ground := Ground.data }], guard := none }, { dst := some 103, op := Op.move (Operand.tmp 102), type := 4, pos := "law.go:88", after := #[{ on := 19, ground := Ground.data }, { on := 15, ground := Ground.chain }], guard := none }, { dst := some 104, op := Op.move (Operand.tmp 13), type := 25, pos := "law.go:88", after := #[{ on := 20, ground := Ground.guard }], guard := some (20, true) }, { dst := some 105, op := Op.call { callee := Callee.builtin Builtin.len, args := #[Operand.tmp 104], argTypes := #[25] }, type := 3, pos := "law.go:88", after := #[{ on := 21, ground := Ground.data }, { on := 20, ground := Ground.guard }], guard := some (20, true) }, { dst := some 106, op := Op.move (Operand.tmp 14), type := 25, pos := "law.go:88", after := #[{ on := 20, ground := Ground.guard }], guard := some (20, true) }, { dst := some 107, op := Op.call { callee := Callee.builtin Builtin.len, args := #[Operand.tmp 106], argTypes := #[25] }, type := 3, pos := "law.go:88", after := #[{ on := 23, ground := Ground.data }, { on := 20, ground := Ground.guard }], guard := some (20, true) }, { dst := some 108, op := Op.binOp BinOp.eql 3 (Operand.tmp 105) (Operand.tmp 107) 3, type := 4, pos := "law.go:88", after := #[{ on := 22, ground := Ground.data }, { on := 24, ground := Ground.data }, { on := 20, ground := Ground.guard }], guard := some (20, true) }, { dst := some 109, op := Op.pick (Operand.tmp 103) (Operand.tmp 108) (Operand.const (Value.bool false)), type := 4, pos := "law.go:88", after := #[{ on := 20, ground := Ground.data }, { on := 25, ground := Ground.data }], guard := none }, { dst := some 110, op := Op.move (Operand.tmp 109), type := 4, pos := "law.go:88", after := #[{ on := 26, ground := Ground.data }, { on := 20, ground := Ground.chain }], guard := none }, { dst := some 111, op := Op.load 30 (Operand.tmp 7), type := 30, pos := "law.go:88", after := #[{ on := 27, ground := Ground.guard }], guard := some (27, true) }, { dst := some 112, op := Op.call { callee := Callee.value (Operand.func 33), args := #[Operand.tmp 111], argTypes := #[30] }, type := 3, pos := "law.go:88", after := #[{ on := 28, ground := Ground.data }, { on := 27, ground := Ground.chain }, { on := 27, ground := Ground.guard }], guard := some (27, true) }, { dst := some 113, op := Op.move (Operand.tmp 15), type := 3, pos := "law.go:88", after := #[{ on := 27, ground := Ground.guard }], guard := some (27, true) }, { dst := some 114, op := Op.binOp BinOp.eql 3 (Operand.tmp 112) (Operand.tmp 113) 3, type := 4, pos := "law.go:88", after := #[{ on := 29, ground := Ground.data }, { on := 30, ground := Ground.data }, { on := 27, ground := Ground.guard }], guard := some (27, true) }, { dst := some 115, op := Op.pick (Operand.tmp 110) (Operand.tmp 114) (Operand.const (Value.bool false)), type := 4, pos := "law.go:88", after := #[{ on := 27, ground := Ground.data }, { on := 31, ground := Ground.data }], guard := none }, { dst := some 116, op := Op.move (Operand.tmp 115), type := 4, pos := "law.go:88", after := #[{ on := 32, ground := Ground.data }, { on := 29, ground := Ground.chain }], guard := none }, { dst := some 117, op := Op.load 30 (Operand.tmp 7), type := 30, pos := "law.go:88", after := #[{ on := 33, ground := Ground.guard }], guard := some (33, true) }, { dst := some 118, op := Op.move (Operand.tmp 2), type := 3, pos := "law.go:88", after := #[{ on := 33, ground := Ground.guard }], guard := some (33, true) }, { dst := some 119, op := Op.call { callee := Callee.value (Operand.func 35), args := #[Operand.tmp 117, Operand.tmp 118], argTypes := #[30, 3] }, type := 3, pos := "law.go:88", after := #[{ on := 34, ground := Ground.data }, { on := 35, ground := Ground.data }, { on := 33, ground := Ground.chain }, { on := 33, ground := Ground.guard }], guard := some (33, true) }, { dst := some 120, op := Op.move (Operand.tmp 11), type := 3, pos := "law.go:88", after := #[{ on := 33, ground := Ground.guard }], guard := some (33, true) }, { dst := some 121, op := Op.binOp BinOp.eql 3 (Operand.tmp 119) (Operand.tmp 120) 3, type := 4, pos := "law.go:88", after := #[{ on := 36, ground := Ground.data }, { on := 37, ground := Ground.data }, { on := 33, ground := Ground.guard }], guard := some (33, true) }, { dst := some 122, op := Op.pick (Operand.tmp 116) (Operand.tmp 121) (Operand.const (Value.bool false)), type := 4, pos := "law.go:88", after := #[{ on := 33, ground := Ground.data }, { on := 38, ground := Ground.data }], guard := none }, { dst := some 123, op := Op.move (Operand.tmp 122), type := 4, pos := "law.go:88", after := #[{ on := 39, ground := Ground.data }, { on := 36, ground := Ground.chain }], guard := none }, { dst := some 124, op := Op.load 30 (Operand.tmp 7), type := 30, pos := "law.go:88", after := #[{ on := 40, ground := Ground.guard }], guard := some (40, true) }, { dst := some 125, op := Op.call { callee := Callee.value (Operand.func 38), args := #[Operand.tmp 124], argTypes := #[30] }, type := 30, pos := "law.go:88", after := #[{ on := 41, ground := Ground.data }, { on := 40, ground := Ground.chain }, { on := 40, ground := Ground.guard }], guard := some (40, true) }, { dst := some 126, op := Op.call { callee := Callee.value (Operand.func 29), args := #[Operand.tmp 125], argTypes := #[30] }, type := 24, pos := "law.go:88", after := #[{ on := 42, ground := Ground.data }, { on := 42, ground := Ground.chain }, { on := 40, ground := Ground.guard }], guard := some (40, true) }, { dst := some 127, op := Op.load 24 (Operand.tmp 3), type := 24, pos := "law.go:88", after := #[{ on := 40, ground := Ground.guard }], guard := some (40, true) }, { dst := some 128, op := Op.call { callee := Callee.value (Operand.func 28), args := #[Operand.tmp 126, Operand.tmp 127], argTypes := #[24, 24] }, type := 4, pos := "law.go:88", after := #[{ on := 43, ground := Ground.data }, { on := 44, ground := Ground.data }, { on := 43, ground := Ground.chain }, { on := 40, ground := Ground.guard }], guard := some (40, true) }, { dst := some 129, op := Op.pick (Operand.tmp 123) (Operand.tmp 128) (Operand.const (Value.bool false)), type := 4, pos := "law.go:88", after := #[{ on := 40, ground := Ground.data }, { on := 45, ground := Ground.data }], guard := none }, { dst := some 6, op := Op.assign (Operand.tmp 129), type := 4, pos := "law.go:88", after := #[{ on := 46, ground := Ground.data }, { on := 45, ground := Ground.chain }, { on := 0, ground := Ground.phase }, { on := 1, ground := Ground.phase }, { on := 2, ground := Ground.phase }, { on := 3, ground := Ground.phase }, { on := 4, ground := Ground.phase }, { on := 5, ground := Ground.phase }, { on := 6, ground := Ground.phase }, { on := 7, ground := Ground.phase }, { on := 8, ground := Ground.phase }, { on := 9, ground := Ground.phase }, { on := 10, ground := Ground.phase }, { on := 11, ground := Ground.phase }, { on := 12, ground := Ground.phase }, { on := 13, ground := Ground.phase }, { on := 14, ground := Ground.phase }, { on := 15, ground := Ground.phase }, { on := 16, ground := Ground.phase }, { on := 17, ground := Ground.phase }, { on := 18, ground := Ground.phase }, { on := 19, ground := Ground.phase }, { on := 20, ground := Ground.phase }, { on := 21, ground := Ground.phase }, { on := 22, ground := Ground.phase }, { on := 23, ground := Ground.phase }, { on := 24, ground := Ground.phase }, { on := 25, ground := Ground.phase }, { on := 26, ground := Ground.phase }, { on := 27, ground := Ground.phase }, { on := 28, ground := Ground.phase }, { on := 29, ground := Ground.phase }, { on := 30, ground := Ground.phase }, { on := 31, ground := Ground.phase }, { on := 32, ground := Ground.phase }, { on := 33, ground := Ground.phase }, { on := 34, ground := Ground.phase }, { on := 35, ground := Ground.phase }, { on := 36, ground := Ground.phase }, { on := 37, ground := Ground.phase }, { on := 38, ground := Ground.phase }, { on := 39, ground := Ground.phase }, { on := 40, ground := Ground.phase }, { on := 41, ground := Ground.phase }, { on := 42, ground := Ground.phase }, { on := 43, ground := Ground.phase }, { on := 44, ground := Ground.phase }, { on := 45, ground := Ground.phase }, { on := 46, ground := Ground.phase }], guard := none }] a.tmps.size = true)
    (hT2 : a.tmps.getD 2 undef = .int .i64 f)
    (hT9 : a.tmps.getD 9 undef = .int .i64 k)
    (hT10 : a.tmps.getD 10 undef = .slice Al nl cl)
    (hT11 : a.tmps.getD 11 undef = .int .i64 (cn : Int))
    (hT13 : a.tmps.getD 13 undef = .slice Av nv cv)
    (hT14 : a.tmps.getD 14 undef = .slice Aw nv cw)
    (hT15 : a.tmps.getD 15 undef = .int .i64 tp)
    (hT7 : a.tmps.getD 7 undef = .pointer (some ⟨ga, 0, none⟩)) (hX7 : w.heap[ga]? = some (.cells #[xf, xl] 30 (0, 0)))
    (hT8 : a.tmps.getD 8 undef = .pointer (some ⟨gb, 0, none⟩)) (hX8 : w.heap[gb]? = some (.cells #[yf, yl] 30 (0, 0)))
    (hT3 : a.tmps.getD 3 undef = .pointer (some ⟨gc, 0, none⟩)) (hX3 : w.heap[gc]? = some (.cells #[af, al] 24 (0, 0)))
    (hF2 : ∀ w1, Below w.heap.size w w1 → Calls Try.prog 37 #[.agg #[xf, xl], .agg #[yf, yl]] w1 fun e w2 => e = .returned (.bool s) ∧ Below w1.heap.size w1 w2)
    (hF9 : ∀ w1, Below w.heap.size w w1 → Calls Try.prog 36 #[.agg #[xf, xl], .agg #[yf, yl]] w1 fun e w2 => e = .returned (.int .i64 k) ∧ Below w1.heap.size w1 w2)
    (hF15 : ∀ w1, Below w.heap.size w w1 → Calls Try.prog 34 #[.agg #[xf, xl]] w1 fun e w2 => e = .returned (.int .i64 (nl : Int)) ∧ Below w1.heap.size w1 w2)
    (hF29 : ∀ w1, Below w.heap.size w w1 → Calls Try.prog 33 #[.agg #[xf, xl]] w1 fun e w2 => e = .returned (.int .i64 tp) ∧ Below w1.heap.size w1 w2)
    (hF36 : ∀ w1, Below w.heap.size w w1 → Calls Try.prog 35 #[.agg #[xf, xl], .int .i64 f] w1 fun e w2 => e = .returned (.int .i64 (cn : Int)) ∧ Below w1.heap.size w1 w2)
    (hF42 : ∀ w1, Below w.heap.size w w1 → Calls Try.prog 38 #[.agg #[xf, xl]] w1 fun e w2 => ∃ u, e = .returned u ∧ TermTold k30 cf cs u w2 ∧ Below w1.heap.size w1 w2)
    (hk : (k == 0) = s)
    (hT : ∀ (w1 : World) (A : Option Addr) (c : Nat), Below w.heap.size w w1 → cs.length ≤ c → k30.C w1 A cs.length cs → Calls Try.prog 29 #[.agg #[.int .i64 cf, .slice A cs.length c]] w1 fun e w2 => ∃ u, e = .returned u ∧ TermTold k24 df ds u w2 ∧ Below w1.heap.size w1 w2)
    (hS : ∀ (w1 : World) (A : Option Addr) (c : Nat), Below w.heap.size w w1 → ds.length ≤ c → k24.C w1 A ds.length ds → Calls Try.prog 28 #[.agg #[.int .i64 df, .slice A ds.length c], .agg #[af, al]] w1 fun e w2 => e = .returned (.bool true) ∧ Below w1.heap.size w1 w2)
    (hK : ∀ v w', Below w.heap.size w w' → v 47 = .bool true → Q .normal { tmps := layL [some 83, some 84, some 85, some 86, some 87, some 88, some 89, some 90, some 91, some 92, some 93, some 94, some 95, some 96, some 97, some 98, some 99, some 100, some 101, some 102, some 103, some 104, some 105, some 106, some 107, some 108, some 109, some 110, some 111, some 112, some 113, some 114, some 115, some 116, some 117, some 118, some 119, some 120, some 121, some 122, some 123, some 124, some 125, some 126, some 127, some 128, some 129, some 6] 0 v a.tmps, defers := a.defers } w') :
    (Code.region id #[{ dst := some 83, op := Op.load 30 (Operand.tmp 7), type := 30, pos := "law.go:88", after := #[], guard := none }, { dst := some 84, op := Op.load 30 (Operand.tmp 8), type := 30, pos := "law.go:88", after := #[], guard := none }, { dst := some 85, op := Op.call { callee := Callee.value (Operand.func 37), args := #[Operand.tmp 83, Operand.tmp 84], argTypes := #[30, 30] }, type := 4, pos := "law.go:88", after := #[{ on := 0, ground := Ground.data }, { on := 1, ground := Ground.data }], guard := none }, { dst := some 86, op := Op.move (Operand.tmp 9), type := 3, pos := "law.go:88", after := #[], guard := none }, { dst := some 87, op := Op.binOp BinOp.eql 3 (Operand.tmp 86) (Operand.const (Value.int IntKind.i64 0)) 3, type := 4, pos := "law.go:88", after := #[{ on := 3, ground := Ground.data }], guard := none }, { dst := some 88, op := Op.binOp BinOp.eql 4 (Operand.tmp 85) (Operand.tmp 87) 4, type := 4, pos := "law.go:88", after := #[{ on := 2, ground := Ground.data }, { on := 4, ground := Ground.data }], guard := none }, { dst := some 89, op := Op.move (Operand.tmp 88), type := 4, pos := "law.go:88", after := #[{ on := 5, ground := Ground.data }, { on := 2, ground := Ground.chain }], guard := none }, { dst := some 90, op := Op.load 30 (Operand.tmp 7), type := 30, pos := "law.go:88", after := #[{ on := 6, ground := Ground.guard }], guard := some (6, true) }, { dst := some 91, op := Op.load 30 (Operand.tmp 8), type := 30, pos := "law.go:88", after := #[{ on := 6, ground := Ground.guard }], guard := some (6, true) }, { dst := some 92, op := Op.call { callee := Callee.value (Operand.func 36), args := #[Operand.tmp 90, Operand.tmp 91], argTypes := #[30, 30] }, type := 3, pos := "law.go:88", after := #[{ on := 7, ground := Ground.data }, { on := 8, ground := Ground.data }, { on := 6, ground := Ground.chain }, { on := 6, ground := Ground.guard }], guard := some (6, true) }, { dst := some 93, op := Op.move (Operand.tmp 9), type := 3, pos := "law.go:88", after := #[{ on := 6, ground := Ground.guard }], guard := some (6, true) }, { dst := some 94, op := Op.binOp BinOp.eql 3 (Operand.tmp 92) (Operand.tmp 93) 3, type := 4, pos := "law.go:88", after := #[{ on := 9, ground := Ground.data }, { on := 10, ground := Ground.data }, { on := 6, ground := Ground.guard }], guard := some (6, true) }, { dst := some 95, op := Op.pick (Operand.tmp 89) (Operand.tmp 94) (Operand.const (Value.bool false)), type := 4, pos := "law.go:88", after := #[{ on := 6, ground := Ground.data }, { on := 11, ground := Ground.data }], guard := none }, { dst := some 96, op := Op.move (Operand.tmp 95), type := 4, pos := "law.go:88", after := #[{ on := 12, ground := Ground.data }, { on := 9, ground := Ground.chain }], guard := none }, { dst := some 97, op := Op.load 30 (Operand.tmp 7), type := 30, pos := "law.go:88", after := #[{ on := 13, ground := Ground.guard }], guard := some (13, true) }, { dst := some 98, op := Op.call { callee := Callee.value (Operand.func 34), args := #[Operand.tmp 97], argTypes := #[30] }, type := 3, pos := "law.go:88", after := #[{ on := 14, ground := Ground.data }, { on := 13, ground := Ground.chain }, { on := 13, ground := Ground.guard }], guard := some (13, true) }, { dst := some 99, op := Op.move (Operand.tmp 10), type := 22, pos := "law.go:88", after := #[{ on := 13, ground := Ground.guard }], guard := some (13, true) }, { dst := some 100, op := Op.call { callee := Callee.builtin Builtin.len, args := #[Operand.tmp 99], argTypes := #[22] }, type := 3, pos := "law.go:88", after := #[{ on := 16, ground := Ground.data }, { on := 13, ground := Ground.guard }], guard := some (13, true) }, { dst := some 101, op := Op.binOp BinOp.eql 3 (Operand.tmp 98) (Operand.tmp 100) 3, type := 4, pos := "law.go:88", after := #[{ on := 15, ground := Ground.data }, { on := 17, ground := Ground.data }, { on := 13, ground := Ground.guard }], guard := some (13, true) }, { dst := some 102, op := Op.pick (Operand.tmp 96) (Operand.tmp 101) (Operand.const (Value.bool false)), type := 4, pos := "law.go:88", after := #[{ on := 13, ground := Ground.data }, { on := 18, ground := Ground.data }], guard := none }, { dst := some 103, op := Op.move (Operand.tmp 102), type := 4, pos := "law.go:88", after := #[{ on := 19, ground := Ground.data }, { on := 15, ground := Ground.chain }], guard := none }, { dst := some 104, op := Op.move (Operand.tmp 13), type := 25, pos := "law.go:88", after := #[{ on := 20, ground := Ground.guard }], guard := some (20, true) }, { dst := some 105, op := Op.call { callee := Callee.builtin Builtin.len, args := #[Operand.tmp 104], argTypes := #[25] }, type := 3, pos := "law.go:88", after := #[{ on := 21, ground := Ground.data }, { on := 20, ground := Ground.guard }], guard := some (20, true) }, { dst := some 106, op := Op.move (Operand.tmp 14), type := 25, pos := "law.go:88", after := #[{ on := 20, ground := Ground.guard }], guard := some (20, true) }, { dst := some 107, op := Op.call { callee := Callee.builtin Builtin.len, args := #[Operand.tmp 106], argTypes := #[25] }, type := 3, pos := "law.go:88", after := #[{ on := 23, ground := Ground.data }, { on := 20, ground := Ground.guard }], guard := some (20, true) }, { dst := some 108, op := Op.binOp BinOp.eql 3 (Operand.tmp 105) (Operand.tmp 107) 3, type := 4, pos := "law.go:88", after := #[{ on := 22, ground := Ground.data }, { on := 24, ground := Ground.data }, { on := 20, ground := Ground.guard }], guard := some (20, true) }, { dst := some 109, op := Op.pick (Operand.tmp 103) (Operand.tmp 108) (Operand.const (Value.bool false)), type := 4, pos := "law.go:88", after := #[{ on := 20, ground := Ground.data }, { on := 25, ground := Ground.data }], guard := none }, { dst := some 110, op := Op.move (Operand.tmp 109), type := 4, pos := "law.go:88", after := #[{ on := 26, ground := Ground.data }, { on := 20, ground := Ground.chain }], guard := none }, { dst := some 111, op := Op.load 30 (Operand.tmp 7), type := 30, pos := "law.go:88", after := #[{ on := 27, ground := Ground.guard }], guard := some (27, true) }, { dst := some 112, op := Op.call { callee := Callee.value (Operand.func 33), args := #[Operand.tmp 111], argTypes := #[30] }, type := 3, pos := "law.go:88", after := #[{ on := 28, ground := Ground.data }, { on := 27, ground := Ground.chain }, { on := 27, ground := Ground.guard }], guard := some (27, true) }, { dst := some 113, op := Op.move (Operand.tmp 15), type := 3, pos := "law.go:88", after := #[{ on := 27, ground := Ground.guard }], guard := some (27, true) }, { dst := some 114, op := Op.binOp BinOp.eql 3 (Operand.tmp 112) (Operand.tmp 113) 3, type := 4, pos := "law.go:88", after := #[{ on := 29, ground := Ground.data }, { on := 30, ground := Ground.data }, { on := 27, ground := Ground.guard }], guard := some (27, true) }, { dst := some 115, op := Op.pick (Operand.tmp 110) (Operand.tmp 114) (Operand.const (Value.bool false)), type := 4, pos := "law.go:88", after := #[{ on := 27, ground := Ground.data }, { on := 31, ground := Ground.data }], guard := none }, { dst := some 116, op := Op.move (Operand.tmp 115), type := 4, pos := "law.go:88", after := #[{ on := 32, ground := Ground.data }, { on := 29, ground := Ground.chain }], guard := none }, { dst := some 117, op := Op.load 30 (Operand.tmp 7), type := 30, pos := "law.go:88", after := #[{ on := 33, ground := Ground.guard }], guard := some (33, true) }, { dst := some 118, op := Op.move (Operand.tmp 2), type := 3, pos := "law.go:88", after := #[{ on := 33, ground := Ground.guard }], guard := some (33, true) }, { dst := some 119, op := Op.call { callee := Callee.value (Operand.func 35), args := #[Operand.tmp 117, Operand.tmp 118], argTypes := #[30, 3] }, type := 3, pos := "law.go:88", after := #[{ on := 34, ground := Ground.data }, { on := 35, ground := Ground.data }, { on := 33, ground := Ground.chain }, { on := 33, ground := Ground.guard }], guard := some (33, true) }, { dst := some 120, op := Op.move (Operand.tmp 11), type := 3, pos := "law.go:88", after := #[{ on := 33, ground := Ground.guard }], guard := some (33, true) }, { dst := some 121, op := Op.binOp BinOp.eql 3 (Operand.tmp 119) (Operand.tmp 120) 3, type := 4, pos := "law.go:88", after := #[{ on := 36, ground := Ground.data }, { on := 37, ground := Ground.data }, { on := 33, ground := Ground.guard }], guard := some (33, true) }, { dst := some 122, op := Op.pick (Operand.tmp 116) (Operand.tmp 121) (Operand.const (Value.bool false)), type := 4, pos := "law.go:88", after := #[{ on := 33, ground := Ground.data }, { on := 38, ground := Ground.data }], guard := none }, { dst := some 123, op := Op.move (Operand.tmp 122), type := 4, pos := "law.go:88", after := #[{ on := 39, ground := Ground.data }, { on := 36, ground := Ground.chain }], guard := none }, { dst := some 124, op := Op.load 30 (Operand.tmp 7), type := 30, pos := "law.go:88", after := #[{ on := 40, ground := Ground.guard }], guard := some (40, true) }, { dst := some 125, op := Op.call { callee := Callee.value (Operand.func 38), args := #[Operand.tmp 124], argTypes := #[30] }, type := 30, pos := "law.go:88", after := #[{ on := 41, ground := Ground.data }, { on := 40, ground := Ground.chain }, { on := 40, ground := Ground.guard }], guard := some (40, true) }, { dst := some 126, op := Op.call { callee := Callee.value (Operand.func 29), args := #[Operand.tmp 125], argTypes := #[30] }, type := 24, pos := "law.go:88", after := #[{ on := 42, ground := Ground.data }, { on := 42, ground := Ground.chain }, { on := 40, ground := Ground.guard }], guard := some (40, true) }, { dst := some 127, op := Op.load 24 (Operand.tmp 3), type := 24, pos := "law.go:88", after := #[{ on := 40, ground := Ground.guard }], guard := some (40, true) }, { dst := some 128, op := Op.call { callee := Callee.value (Operand.func 28), args := #[Operand.tmp 126, Operand.tmp 127], argTypes := #[24, 24] }, type := 4, pos := "law.go:88", after := #[{ on := 43, ground := Ground.data }, { on := 44, ground := Ground.data }, { on := 43, ground := Ground.chain }, { on := 40, ground := Ground.guard }], guard := some (40, true) }, { dst := some 129, op := Op.pick (Operand.tmp 123) (Operand.tmp 128) (Operand.const (Value.bool false)), type := 4, pos := "law.go:88", after := #[{ on := 40, ground := Ground.data }, { on := 45, ground := Ground.data }], guard := none }, { dst := some 6, op := Op.assign (Operand.tmp 129), type := 4, pos := "law.go:88", after := #[{ on := 46, ground := Ground.data }, { on := 45, ground := Ground.chain }, { on := 0, ground := Ground.phase }, { on := 1, ground := Ground.phase }, { on := 2, ground := Ground.phase }, { on := 3, ground := Ground.phase }, { on := 4, ground := Ground.phase }, { on := 5, ground := Ground.phase }, { on := 6, ground := Ground.phase }, { on := 7, ground := Ground.phase }, { on := 8, ground := Ground.phase }, { on := 9, ground := Ground.phase }, { on := 10, ground := Ground.phase }, { on := 11, ground := Ground.phase }, { on := 12, ground := Ground.phase }, { on := 13, ground := Ground.phase }, { on := 14, ground := Ground.phase }, { on := 15, ground := Ground.phase }, { on := 16, ground := Ground.phase }, { on := 17, ground := Ground.phase }, { on := 18, ground := Ground.phase }, { on := 19, ground := Ground.phase }, { on := 20, ground := Ground.phase }, { on := 21, ground := Ground.phase }, { on := 22, ground := Ground.phase }, { on := 23, ground := Ground.phase }, { on := 24, ground := Ground.phase }, { on := 25, ground := Ground.phase }, { on := 26, ground := Ground.phase }, { on := 27, ground := Ground.phase }, { on := 28, ground := Ground.phase }, { on := 29, ground := Ground.phase }, { on := 30, ground := Ground.phase }, { on := 31, ground := Ground.phase }, { on := 32, ground := Ground.phase }, { on := 33, ground := Ground.phase }, { on := 34, ground := Ground.phase }, { on := 35, ground := Ground.phase }, { on := 36, ground := Ground.phase }, { on := 37, ground := Ground.phase }, { on := 38, ground := Ground.phase }, { on := 39, ground := Ground.phase }, { on := 40, ground := Ground.phase }, { on := 41, ground := Ground.phase }, { on := 42, ground := Ground.phase }, { on := 43, ground := Ground.phase }, { on := 44, ground := Ground.phase }, { on := 45, ground := Ground.phase }, { on := 46, ground := Ground.phase }], guard := none }] true).wp Try.prog Q a w := by
  have hmx : Try.prog.follows .mixedOrders = true := by kernel_rfl
  refine region_detR 48 hmx hr (by kernel_rfl) ?_
  refine DetR.is (o := { dst := some 83, op := Op.load 30 (Operand.tmp 7), type := 30, pos := "law.go:88", after := #[], guard := none }) (u := ?ux22) rfl (by decide) (fun T w' hb hd hB K hK => ?sx22) ?rx22
  case sx22 =>
    have e7 := (hB 7 (by kernel_rfl)).trans hT7
    have q7_0 : w'.cell? ⟨ga, 0, none⟩ = some (xf) := (blk_cell (blk_below hX7 hb) 0).trans rfl
    have q7_1 : w'.cell? ⟨ga, 1, none⟩ = some (xl) := (blk_cell (blk_below hX7 hb) 1).trans rfl
    rw [if_pos (wanted_none _ rfl)]
    clear hd hB
    go_simp
    exact hK _ (Below.refl _ _)
  refine DetR.is (o := { dst := some 84, op := Op.load 30 (Operand.tmp 8), type := 30, pos := "law.go:88", after := #[], guard := none }) (u := ?ux23) rfl (by decide) (fun T w' hb hd hB K hK => ?sx23) ?rx23
  case sx23 =>
    have e8 := (hB 8 (by kernel_rfl)).trans hT8
    have q8_0 : w'.cell? ⟨gb, 0, none⟩ = some (yf) := (blk_cell (blk_below hX8 hb) 0).trans rfl
    have q8_1 : w'.cell? ⟨gb, 1, none⟩ = some (yl) := (blk_cell (blk_below hX8 hb) 1).trans rfl
    rw [if_pos (wanted_none _ rfl)]
    clear hd hB
    go_simp
    exact hK _ (Below.refl _ _)
  refine DetR.is (o := { dst := some 85, op := Op.call { callee := Callee.value (Operand.func 37), args := #[Operand.tmp 83, Operand.tmp 84], argTypes := #[30, 30] }, type := 4, pos := "law.go:88", after := #[{ on := 0, ground := Ground.data }, { on := 1, ground := Ground.data }], guard := none }) (u := ?ux24) rfl (by decide) (fun T w' hb hd hB K hK => ?sx24) ?rx24
  case sx24 =>
    have e83 := hd 0 83 _ (by decide) (by kernel_rfl) rfl rfl
    replace e83 : T.getD 83 undef = _ := e83
    have e84 := hd 1 84 _ (by decide) (by kernel_rfl) rfl rfl
    replace e84 : T.getD 84 undef = _ := e84
    rw [if_pos (wanted_none _ rfl)]
    have hcl := hF2 w' hb
    clear hd hB
    go_simp
    go_at_call 37
    refine hcl.mono ?_
    rintro e w2 ⟨rfl, h2⟩
    exact hK _ h2
  refine DetR.is (o := { dst := some 86, op := Op.move (Operand.tmp 9), type := 3, pos := "law.go:88", after := #[], guard := none }) (u := ?ux25) rfl (by decide) (fun T w' hb hd hB K hK => ?sx25) ?rx25
  case sx25 =>
    have e9 := (hB 9 (by kernel_rfl)).trans hT9
    rw [if_pos (wanted_none _ rfl)]
    clear hd hB
    go_simp
    exact hK _ (Below.refl _ _)
  refine DetR.is (o := { dst := some 87, op := Op.binOp BinOp.eql 3 (Operand.tmp 86) (Operand.const (Value.int IntKind.i64 0)) 3, type := 4, pos := "law.go:88", after := #[{ on := 3, ground := Ground.data }], guard := none }) (u := .bool s) rfl (by decide) (fun T w' hb hd hB K hK => ?sx26) ?rx26
  case sx26 =>
    have e86 := hd 3 86 _ (by decide) (by kernel_rfl) rfl rfl
    replace e86 : T.getD 86 undef = _ := e86
    rw [if_pos (wanted_none _ rfl)]
    clear hd hB
    go_simp
    try rw [hk]
    exact hK _ (Below.refl _ _)
  refine DetR.is (o := { dst := some 88, op := Op.binOp BinOp.eql 4 (Operand.tmp 85) (Operand.tmp 87) 4, type := 4, pos := "law.go:88", after := #[{ on := 2, ground := Ground.data }, { on := 4, ground := Ground.data }], guard := none }) (u := .bool true) rfl (by decide) (fun T w' hb hd hB K hK => ?sx27) ?rx27
  case sx27 =>
    have e85 := hd 2 85 _ (by decide) (by kernel_rfl) rfl rfl
    replace e85 : T.getD 85 undef = _ := e85
    have e87 := hd 4 87 _ (by decide) (by kernel_rfl) rfl rfl
    replace e87 : T.getD 87 undef = _ := e87
    rw [if_pos (wanted_none _ rfl)]
    clear hd hB
    go_simp
    try simp only [beq_self_eq_true]
    exact hK _ (Below.refl _ _)
  refine DetR.is (o := { dst := some 89, op := Op.move (Operand.tmp 88), type := 4, pos := "law.go:88", after := #[{ on := 5, ground := Ground.data }, { on := 2, ground := Ground.chain }], guard := none }) (u := .bool true) rfl (by decide) (fun T w' hb hd hB K hK => ?sx28) ?rx28
  case sx28 =>
    have e88 := hd 5 88 _ (by decide) (by kernel_rfl) rfl rfl
    replace e88 : T.getD 88 undef = _ := e88
    rw [if_pos (wanted_none _ rfl)]
    clear hd hB
    go_simp
    exact hK _ (Below.refl _ _)
  refine DetR.is (o := { dst := some 90, op := Op.load 30 (Operand.tmp 7), type := 30, pos := "law.go:88", after := #[{ on := 6, ground := Ground.guard }], guard := some (6, true) }) (u := ?ux29) rfl (by decide) (fun T w' hb hd hB K hK => ?sx29) ?rx29
  case sx29 =>
    have e7 := (hB 7 (by kernel_rfl)).trans hT7
    have q7_0 : w'.cell? ⟨ga, 0, none⟩ = some (xf) := (blk_cell (blk_below hX7 hb) 0).trans rfl
    have q7_1 : w'.cell? ⟨ga, 1, none⟩ = some (xl) := (blk_cell (blk_below hX7 hb) 1).trans rfl
    have eg := hd 6 89 _ (by decide) (by kernel_rfl) rfl rfl
    replace eg : T.getD 89 undef = .bool true := eg
    rw [if_pos (wanted_yes 6 89 true rfl rfl eg)]
    clear eg
    clear hd hB
    go_simp
    exact hK _ (Below.refl _ _)
  refine DetR.is (o := { dst := some 91, op := Op.load 30 (Operand.tmp 8), type := 30, pos := "law.go:88", after := #[{ on := 6, ground := Ground.guard }], guard := some (6, true) }) (u := ?ux30) rfl (by decide) (fun T w' hb hd hB K hK => ?sx30) ?rx30
  case sx30 =>
    have e8 := (hB 8 (by kernel_rfl)).trans hT8
    have q8_0 : w'.cell? ⟨gb, 0, none⟩ = some (yf) := (blk_cell (blk_below hX8 hb) 0).trans rfl
    have q8_1 : w'.cell? ⟨gb, 1, none⟩ = some (yl) := (blk_cell (blk_below hX8 hb) 1).trans rfl
    have eg := hd 6 89 _ (by decide) (by kernel_rfl) rfl rfl
    replace eg : T.getD 89 undef = .bool true := eg
    rw [if_pos (wanted_yes 6 89 true rfl rfl eg)]
    clear eg
    clear hd hB
    go_simp
    exact hK _ (Below.refl _ _)
  refine DetR.is (o := { dst := some 92, op := Op.call { callee := Callee.value (Operand.func 36), args := #[Operand.tmp 90, Operand.tmp 91], argTypes := #[30, 30] }, type := 3, pos := "law.go:88", after := #[{ on := 7, ground := Ground.data }, { on := 8, ground := Ground.data }, { on := 6, ground := Ground.chain }, { on := 6, ground := Ground.guard }], guard := some (6, true) }) (u := ?ux31) rfl (by decide) (fun T w' hb hd hB K hK => ?sx31) ?rx31
  case sx31 =>
    have e90 := hd 7 90 _ (by decide) (by kernel_rfl) rfl rfl
    replace e90 : T.getD 90 undef = _ := e90
    have e91 := hd 8 91 _ (by decide) (by kernel_rfl) rfl rfl
    replace e91 : T.getD 91 undef = _ := e91
    have eg := hd 6 89 _ (by decide) (by kernel_rfl) rfl rfl
    replace eg : T.getD 89 undef = .bool true := eg
    rw [if_pos (wanted_yes 6 89 true rfl rfl eg)]
    clear eg
    have hcl := hF9 w' hb
    clear hd hB
    go_simp
    go_at_call 36
    refine hcl.mono ?_
    rintro e w2 ⟨rfl, h2⟩
    exact hK _ h2
  refine DetR.is (o := { dst := some 93, op := Op.move (Operand.tmp 9), type := 3, pos := "law.go:88", after := #[{ on := 6, ground := Ground.guard }], guard := some (6, true) }) (u := ?ux32) rfl (by decide) (fun T w' hb hd hB K hK => ?sx32) ?rx32
  case sx32 =>
    have e9 := (hB 9 (by kernel_rfl)).trans hT9
    have eg := hd 6 89 _ (by decide) (by kernel_rfl) rfl rfl
    replace eg : T.getD 89 undef = .bool true := eg
    rw [if_pos (wanted_yes 6 89 true rfl rfl eg)]
    clear eg
    clear hd hB
    go_simp
    exact hK _ (Below.refl _ _)
  refine DetR.is (o := { dst := some 94, op := Op.binOp BinOp.eql 3 (Operand.tmp 92) (Operand.tmp 93) 3, type := 4, pos := "law.go:88", after := #[{ on := 9, ground := Ground.data }, { on := 10, ground := Ground.data }, { on := 6, ground := Ground.guard }], guard := some (6, true) }) (u := .bool true) rfl (by decide) (fun T w' hb hd hB K hK => ?sx33) ?rx33
  case sx33 =>
    have e92 := hd 9 92 _ (by decide) (by kernel_rfl) rfl rfl
    replace e92 : T.getD 92 undef = _ := e92
    have e93 := hd 10 93 _ (by decide) (by kernel_rfl) rfl rfl
    replace e93 : T.getD 93 undef = _ := e93
    have eg := hd 6 89 _ (by decide) (by kernel_rfl) rfl rfl
    replace eg : T.getD 89 undef = .bool true := eg
    rw [if_pos (wanted_yes 6 89 true rfl rfl eg)]
    clear eg
    clear hd hB
    go_simp
    try simp only [beq_self_eq_true]
    exact hK _ (Below.refl _ _)
  refine DetR.is (o := { dst := some 95, op := Op.pick (Operand.tmp 89) (Operand.tmp 94) (Operand.const (Value.bool false)), type := 4, pos := "law.go:88", after := #[{ on := 6, ground := Ground.data }, { on := 11, ground := Ground.data }], guard := none }) (u := ?ux34) rfl (by decide) (fun T w' hb hd hB K hK => ?sx34) ?rx34
  case sx34 =>
    have e89 := hd 6 89 _ (by decide) (by kernel_rfl) rfl rfl
    replace e89 : T.getD 89 undef = _ := e89
    have e94 := hd 11 94 _ (by decide) (by kernel_rfl) rfl rfl
    replace e94 : T.getD 94 undef = _ := e94
    rw [if_pos (wanted_none _ rfl)]
    clear hd hB
    go_simp
    exact hK _ (Below.refl _ _)
  refine DetR.is (o := { dst := some 96, op := Op.move (Operand.tmp 95), type := 4, pos := "law.go:88", after := #[{ on := 12, ground := Ground.data }, { on := 9, ground := Ground.chain }], guard := none }) (u := .bool true) rfl (by decide) (fun T w' hb hd hB K hK => ?sx35) ?rx35
  case sx35 =>
    have e95 := hd 12 95 _ (by decide) (by kernel_rfl) rfl rfl
    replace e95 : T.getD 95 undef = _ := e95
    rw [if_pos (wanted_none _ rfl)]
    clear hd hB
    go_simp
    exact hK _ (Below.refl _ _)
  refine DetR.is (o := { dst := some 97, op := Op.load 30 (Operand.tmp 7), type := 30, pos := "law.go:88", after := #[{ on := 13, ground := Ground.guard }], guard := some (13, true) }) (u := ?ux36) rfl (by decide) (fun T w' hb hd hB K hK => ?sx36) ?rx36
  case sx36 =>
    have e7 := (hB 7 (by kernel_rfl)).trans hT7
    have q7_0 : w'.cell? ⟨ga, 0, none⟩ = some (xf) := (blk_cell (blk_below hX7 hb) 0).trans rfl
    have q7_1 : w'.cell? ⟨ga, 1, none⟩ = some (xl) := (blk_cell (blk_below hX7 hb) 1).trans rfl
    have eg := hd 13 96 _ (by decide) (by kernel_rfl) rfl rfl
    replace eg : T.getD 96 undef = .bool true := eg
    rw [if_pos (wanted_yes 13 96 true rfl rfl eg)]
    clear eg
    clear hd hB
    go_simp
    exact hK _ (Below.refl _ _)
  refine DetR.is (o := { dst := some 98, op := Op.call { callee := Callee.value (Operand.func 34), args := #[Operand.tmp 97], argTypes := #[30] }, type := 3, pos := "law.go:88", after := #[{ on := 14, ground := Ground.data }, { on := 13, ground := Ground.chain }, { on := 13, ground := Ground.guard }], guard := some (13, true) }) (u := ?ux37) rfl (by decide) (fun T w' hb hd hB K hK => ?sx37) ?rx37
  case sx37 =>
    have e97 := hd 14 97 _ (by decide) (by kernel_rfl) rfl rfl
    replace e97 : T.getD 97 undef = _ := e97
    have eg := hd 13 96 _ (by decide) (by kernel_rfl) rfl rfl
    replace eg : T.getD 96 undef = .bool true := eg
    rw [if_pos (wanted_yes 13 96 true rfl rfl eg)]
    clear eg
    have hcl := hF15 w' hb
    clear hd hB
    go_simp
    go_at_call 34
    refine hcl.mono ?_
    rintro e w2 ⟨rfl, h2⟩
    exact hK _ h2
  refine DetR.is (o := { dst := some 99, op := Op.move (Operand.tmp 10), type := 22, pos := "law.go:88", after := #[{ on := 13, ground := Ground.guard }], guard := some (13, true) }) (u := ?ux38) rfl (by decide) (fun T w' hb hd hB K hK => ?sx38) ?rx38
  case sx38 =>
    have e10 := (hB 10 (by kernel_rfl)).trans hT10
    have eg := hd 13 96 _ (by decide) (by kernel_rfl) rfl rfl
    replace eg : T.getD 96 undef = .bool true := eg
    rw [if_pos (wanted_yes 13 96 true rfl rfl eg)]
    clear eg
    clear hd hB
    go_simp
    exact hK _ (Below.refl _ _)
  refine DetR.is (o := { dst := some 100, op := Op.call { callee := Callee.builtin Builtin.len, args := #[Operand.tmp 99], argTypes := #[22] }, type := 3, pos := "law.go:88", after := #[{ on := 16, ground := Ground.data }, { on := 13, ground := Ground.guard }], guard := some (13, true) }) (u := ?ux39) rfl (by decide) (fun T w' hb hd hB K hK => ?sx39) ?rx39
  case sx39 =>
    have e99 := hd 16 99 _ (by decide) (by kernel_rfl) rfl rfl
    replace e99 : T.getD 99 undef = _ := e99
    have eg := hd 13 96 _ (by decide) (by kernel_rfl) rfl rfl
    replace eg : T.getD 96 undef = .bool true := eg
    rw [if_pos (wanted_yes 13 96 true rfl rfl eg)]
    clear eg
    clear hd hB
    go_simp
    exact hK _ (Below.refl _ _)
  refine DetR.is (o := { dst := some 101, op := Op.binOp BinOp.eql 3 (Operand.tmp 98) (Operand.tmp 100) 3, type := 4, pos := "law.go:88", after := #[{ on := 15, ground := Ground.data }, { on := 17, ground := Ground.data }, { on := 13, ground := Ground.guard }], guard := some (13, true) }) (u := .bool true) rfl (by decide) (fun T w' hb hd hB K hK => ?sx40) ?rx40
  case sx40 =>
    have e98 := hd 15 98 _ (by decide) (by kernel_rfl) rfl rfl
    replace e98 : T.getD 98 undef = _ := e98
    have e100 := hd 17 100 _ (by decide) (by kernel_rfl) rfl rfl
    replace e100 : T.getD 100 undef = _ := e100
    have eg := hd 13 96 _ (by decide) (by kernel_rfl) rfl rfl
    replace eg : T.getD 96 undef = .bool true := eg
    rw [if_pos (wanted_yes 13 96 true rfl rfl eg)]
    clear eg
    clear hd hB
    go_simp
    try simp only [beq_self_eq_true]
    exact hK _ (Below.refl _ _)
  refine DetR.is (o := { dst := some 102, op := Op.pick (Operand.tmp 96) (Operand.tmp 101) (Operand.const (Value.bool false)), type := 4, pos := "law.go:88", after := #[{ on := 13, ground := Ground.data }, { on := 18, ground := Ground.data }], guard := none }) (u := ?ux41) rfl (by decide) (fun T w' hb hd hB K hK => ?sx41) ?rx41
  case sx41 =>
    have e96 := hd 13 96 _ (by decide) (by kernel_rfl) rfl rfl
    replace e96 : T.getD 96 undef = _ := e96
    have e101 := hd 18 101 _ (by decide) (by kernel_rfl) rfl rfl
    replace e101 : T.getD 101 undef = _ := e101
    rw [if_pos (wanted_none _ rfl)]
    clear hd hB
    go_simp
    exact hK _ (Below.refl _ _)
  refine DetR.is (o := { dst := some 103, op := Op.move (Operand.tmp 102), type := 4, pos := "law.go:88", after := #[{ on := 19, ground := Ground.data }, { on := 15, ground := Ground.chain }], guard := none }) (u := .bool true) rfl (by decide) (fun T w' hb hd hB K hK => ?sx42) ?rx42
  case sx42 =>
    have e102 := hd 19 102 _ (by decide) (by kernel_rfl) rfl rfl
    replace e102 : T.getD 102 undef = _ := e102
    rw [if_pos (wanted_none _ rfl)]
    clear hd hB
    go_simp
    exact hK _ (Below.refl _ _)
  refine DetR.is (o := { dst := some 104, op := Op.move (Operand.tmp 13), type := 25, pos := "law.go:88", after := #[{ on := 20, ground := Ground.guard }], guard := some (20, true) }) (u := ?ux43) rfl (by decide) (fun T w' hb hd hB K hK => ?sx43) ?rx43
  case sx43 =>
    have e13 := (hB 13 (by kernel_rfl)).trans hT13
    have eg := hd 20 103 _ (by decide) (by kernel_rfl) rfl rfl
    replace eg : T.getD 103 undef = .bool true := eg
    rw [if_pos (wanted_yes 20 103 true rfl rfl eg)]
    clear eg
    clear hd hB
    go_simp
    exact hK _ (Below.refl _ _)
  refine DetR.is (o := { dst := some 105, op := Op.call { callee := Callee.builtin Builtin.len, args := #[Operand.tmp 104], argTypes := #[25] }, type := 3, pos := "law.go:88", after := #[{ on := 21, ground := Ground.data }, { on := 20, ground := Ground.guard }], guard := some (20, true) }) (u := ?ux44) rfl (by decide) (fun T w' hb hd hB K hK => ?sx44) ?rx44
  case sx44 =>
    have e104 := hd 21 104 _ (by decide) (by kernel_rfl) rfl rfl
    replace e104 : T.getD 104 undef = _ := e104
    have eg := hd 20 103 _ (by decide) (by kernel_rfl) rfl rfl
    replace eg : T.getD 103 undef = .bool true := eg
    rw [if_pos (wanted_yes 20 103 true rfl rfl eg)]
    clear eg
    clear hd hB
    go_simp
    exact hK _ (Below.refl _ _)
  refine DetR.is (o := { dst := some 106, op := Op.move (Operand.tmp 14), type := 25, pos := "law.go:88", after := #[{ on := 20, ground := Ground.guard }], guard := some (20, true) }) (u := ?ux45) rfl (by decide) (fun T w' hb hd hB K hK => ?sx45) ?rx45
  case sx45 =>
    have e14 := (hB 14 (by kernel_rfl)).trans hT14
    have eg := hd 20 103 _ (by decide) (by kernel_rfl) rfl rfl
    replace eg : T.getD 103 undef = .bool true := eg
    rw [if_pos (wanted_yes 20 103 true rfl rfl eg)]
    clear eg
    clear hd hB
    go_simp
    exact hK _ (Below.refl _ _)
  refine DetR.is (o := { dst := some 107, op := Op.call { callee := Callee.builtin Builtin.len, args := #[Operand.tmp 106], argTypes := #[25] }, type := 3, pos := "law.go:88", after := #[{ on := 23, ground := Ground.data }, { on := 20, ground := Ground.guard }], guard := some (20, true) }) (u := ?ux46) rfl (by decide) (fun T w' hb hd hB K hK => ?sx46) ?rx46
  case sx46 =>
    have e106 := hd 23 106 _ (by decide) (by kernel_rfl) rfl rfl
    replace e106 : T.getD 106 undef = _ := e106
    have eg := hd 20 103 _ (by decide) (by kernel_rfl) rfl rfl
    replace eg : T.getD 103 undef = .bool true := eg
    rw [if_pos (wanted_yes 20 103 true rfl rfl eg)]
    clear eg
    clear hd hB
    go_simp
    exact hK _ (Below.refl _ _)
  refine DetR.is (o := { dst := some 108, op := Op.binOp BinOp.eql 3 (Operand.tmp 105) (Operand.tmp 107) 3, type := 4, pos := "law.go:88", after := #[{ on := 22, ground := Ground.data }, { on := 24, ground := Ground.data }, { on := 20, ground := Ground.guard }], guard := some (20, true) }) (u := .bool true) rfl (by decide) (fun T w' hb hd hB K hK => ?sx47) ?rx47
  case sx47 =>
    have e105 := hd 22 105 _ (by decide) (by kernel_rfl) rfl rfl
    replace e105 : T.getD 105 undef = _ := e105
    have e107 := hd 24 107 _ (by decide) (by kernel_rfl) rfl rfl
    replace e107 : T.getD 107 undef = _ := e107
    have eg := hd 20 103 _ (by decide) (by kernel_rfl) rfl rfl
    replace eg : T.getD 103 undef = .bool true := eg
    rw [if_pos (wanted_yes 20 103 true rfl rfl eg)]
    clear eg
    clear hd hB
    go_simp
    try simp only [beq_self_eq_true]
    exact hK _ (Below.refl _ _)
  refine DetR.is (o := { dst := some 109, op := Op.pick (Operand.tmp 103) (Operand.tmp 108) (Operand.const (Value.bool false)), type := 4, pos := "law.go:88", after := #[{ on := 20, ground := Ground.data }, { on := 25, ground := Ground.data }], guard := none }) (u := ?ux48) rfl (by decide) (fun T w' hb hd hB K hK => ?sx48) ?rx48
  case sx48 =>
    have e103 := hd 20 103 _ (by decide) (by kernel_rfl) rfl rfl
    replace e103 : T.getD 103 undef = _ := e103
    have e108 := hd 25 108 _ (by decide) (by kernel_rfl) rfl rfl
    replace e108 : T.getD 108 undef = _ := e108
    rw [if_pos (wanted_none _ rfl)]
    clear hd hB
    go_simp
    exact hK _ (Below.refl _ _)
  refine DetR.is (o := { dst := some 110, op := Op.move (Operand.tmp 109), type := 4, pos := "law.go:88", after := #[{ on := 26, ground := Ground.data }, { on := 20, ground := Ground.chain }], guard := none }) (u := .bool true) rfl (by decide) (fun T w' hb hd hB K hK => ?sx49) ?rx49
  case sx49 =>
    have e109 := hd 26 109 _ (by decide) (by kernel_rfl) rfl rfl
    replace e109 : T.getD 109 undef = _ := e109
    rw [if_pos (wanted_none _ rfl)]
    clear hd hB
    go_simp
    exact hK _ (Below.refl _ _)
  refine DetR.is (o := { dst := some 111, op := Op.load 30 (Operand.tmp 7), type := 30, pos := "law.go:88", after := #[{ on := 27, ground := Ground.guard }], guard := some (27, true) }) (u := ?ux50) rfl (by decide) (fun T w' hb hd hB K hK => ?sx50) ?rx50
  case sx50 =>
    have e7 := (hB 7 (by kernel_rfl)).trans hT7
    have q7_0 : w'.cell? ⟨ga, 0, none⟩ = some (xf) := (blk_cell (blk_below hX7 hb) 0).trans rfl
    have q7_1 : w'.cell? ⟨ga, 1, none⟩ = some (xl) := (blk_cell (blk_below hX7 hb) 1).trans rfl
    have eg := hd 27 110 _ (by decide) (by kernel_rfl) rfl rfl
    replace eg : T.getD 110 undef = .bool true := eg
    rw [if_pos (wanted_yes 27 110 true rfl rfl eg)]
    clear eg
    clear hd hB
    go_simp
    exact hK _ (Below.refl _ _)
  refine DetR.is (o := { dst := some 112, op := Op.call { callee := Callee.value (Operand.func 33), args := #[Operand.tmp 111], argTypes := #[30] }, type := 3, pos := "law.go:88", after := #[{ on := 28, ground := Ground.data }, { on := 27, ground := Ground.chain }, { on := 27, ground := Ground.guard }], guard := some (27, true) }) (u := ?ux51) rfl (by decide) (fun T w' hb hd hB K hK => ?sx51) ?rx51
  case sx51 =>
    have e111 := hd 28 111 _ (by decide) (by kernel_rfl) rfl rfl
    replace e111 : T.getD 111 undef = _ := e111
    have eg := hd 27 110 _ (by decide) (by kernel_rfl) rfl rfl
    replace eg : T.getD 110 undef = .bool true := eg
    rw [if_pos (wanted_yes 27 110 true rfl rfl eg)]
    clear eg
    have hcl := hF29 w' hb
    clear hd hB
    go_simp
    go_at_call 33
    refine hcl.mono ?_
    rintro e w2 ⟨rfl, h2⟩
    exact hK _ h2
  refine DetR.is (o := { dst := some 113, op := Op.move (Operand.tmp 15), type := 3, pos := "law.go:88", after := #[{ on := 27, ground := Ground.guard }], guard := some (27, true) }) (u := ?ux52) rfl (by decide) (fun T w' hb hd hB K hK => ?sx52) ?rx52
  case sx52 =>
    have e15 := (hB 15 (by kernel_rfl)).trans hT15
    have eg := hd 27 110 _ (by decide) (by kernel_rfl) rfl rfl
    replace eg : T.getD 110 undef = .bool true := eg
    rw [if_pos (wanted_yes 27 110 true rfl rfl eg)]
    clear eg
    clear hd hB
    go_simp
    exact hK _ (Below.refl _ _)
  refine DetR.is (o := { dst := some 114, op := Op.binOp BinOp.eql 3 (Operand.tmp 112) (Operand.tmp 113) 3, type := 4, pos := "law.go:88", after := #[{ on := 29, ground := Ground.data }, { on := 30, ground := Ground.data }, { on := 27, ground := Ground.guard }], guard := some (27, true) }) (u := .bool true) rfl (by decide) (fun T w' hb hd hB K hK => ?sx53) ?rx53
  case sx53 =>
    have e112 := hd 29 112 _ (by decide) (by kernel_rfl) rfl rfl
    replace e112 : T.getD 112 undef = _ := e112
    have e113 := hd 30 113 _ (by decide) (by kernel_rfl) rfl rfl
    replace e113 : T.getD 113 undef = _ := e113
    have eg := hd 27 110 _ (by decide) (by kernel_rfl) rfl rfl
    replace eg : T.getD 110 undef = .bool true := eg
    rw [if_pos (wanted_yes 27 110 true rfl rfl eg)]
    clear eg
    clear hd hB
    go_simp
    try simp only [beq_self_eq_true]
    exact hK _ (Below.refl _ _)
  refine DetR.is (o := { dst := some 115, op := Op.pick (Operand.tmp 110) (Operand.tmp 114) (Operand.const (Value.bool false)), type := 4, pos := "law.go:88", after := #[{ on := 27, ground := Ground.data }, { on := 31, ground := Ground.data }], guard := none }) (u := ?ux54) rfl (by decide) (fun T w' hb hd hB K hK => ?sx54) ?rx54
  case sx54 =>
    have e110 := hd 27 110 _ (by decide) (by kernel_rfl) rfl rfl
    replace e110 : T.getD 110 undef = _ := e110
    have e114 := hd 31 114 _ (by decide) (by kernel_rfl) rfl rfl
    replace e114 : T.getD 114 undef = _ := e114
    rw [if_pos (wanted_none _ rfl)]
    clear hd hB
    go_simp
    exact hK _ (Below.refl _ _)
  refine DetR.is (o := { dst := some 116, op := Op.move (Operand.tmp 115), type := 4, pos := "law.go:88", after := #[{ on := 32, ground := Ground.data }, { on := 29, ground := Ground.chain }], guard := none }) (u := .bool true) rfl (by decide) (fun T w' hb hd hB K hK => ?sx55) ?rx55
  case sx55 =>
    have e115 := hd 32 115 _ (by decide) (by kernel_rfl) rfl rfl
    replace e115 : T.getD 115 undef = _ := e115
    rw [if_pos (wanted_none _ rfl)]
    clear hd hB
    go_simp
    exact hK _ (Below.refl _ _)
  refine DetR.is (o := { dst := some 117, op := Op.load 30 (Operand.tmp 7), type := 30, pos := "law.go:88", after := #[{ on := 33, ground := Ground.guard }], guard := some (33, true) }) (u := ?ux56) rfl (by decide) (fun T w' hb hd hB K hK => ?sx56) ?rx56
  case sx56 =>
    have e7 := (hB 7 (by kernel_rfl)).trans hT7
    have q7_0 : w'.cell? ⟨ga, 0, none⟩ = some (xf) := (blk_cell (blk_below hX7 hb) 0).trans rfl
    have q7_1 : w'.cell? ⟨ga, 1, none⟩ = some (xl) := (blk_cell (blk_below hX7 hb) 1).trans rfl
    have eg := hd 33 116 _ (by decide) (by kernel_rfl) rfl rfl
    replace eg : T.getD 116 undef = .bool true := eg
    rw [if_pos (wanted_yes 33 116 true rfl rfl eg)]
    clear eg
    clear hd hB
    go_simp
    exact hK _ (Below.refl _ _)
  refine DetR.is (o := { dst := some 118, op := Op.move (Operand.tmp 2), type := 3, pos := "law.go:88", after := #[{ on := 33, ground := Ground.guard }], guard := some (33, true) }) (u := ?ux57) rfl (by decide) (fun T w' hb hd hB K hK => ?sx57) ?rx57
  case sx57 =>
    have e2 := (hB 2 (by kernel_rfl)).trans hT2
    have eg := hd 33 116 _ (by decide) (by kernel_rfl) rfl rfl
    replace eg : T.getD 116 undef = .bool true := eg
    rw [if_pos (wanted_yes 33 116 true rfl rfl eg)]
    clear eg
    clear hd hB
    go_simp
    exact hK _ (Below.refl _ _)
  refine DetR.is (o := { dst := some 119, op := Op.call { callee := Callee.value (Operand.func 35), args := #[Operand.tmp 117, Operand.tmp 118], argTypes := #[30, 3] }, type := 3, pos := "law.go:88", after := #[{ on := 34, ground := Ground.data }, { on := 35, ground := Ground.data }, { on := 33, ground := Ground.chain }, { on := 33, ground := Ground.guard }], guard := some (33, true) }) (u := ?ux58) rfl (by decide) (fun T w' hb hd hB K hK => ?sx58) ?rx58
  case sx58 =>
    have e117 := hd 34 117 _ (by decide) (by kernel_rfl) rfl rfl
    replace e117 : T.getD 117 undef = _ := e117
    have e118 := hd 35 118 _ (by decide) (by kernel_rfl) rfl rfl
    replace e118 : T.getD 118 undef = _ := e118
    have eg := hd 33 116 _ (by decide) (by kernel_rfl) rfl rfl
    replace eg : T.getD 116 undef = .bool true := eg
    rw [if_pos (wanted_yes 33 116 true rfl rfl eg)]
    clear eg
    have hcl := hF36 w' hb
    clear hd hB
    go_simp
    go_at_call 35
    refine hcl.mono ?_
    rintro e w2 ⟨rfl, h2⟩
    exact hK _ h2
  refine DetR.is (o := { dst := some 120, op := Op.move (Operand.tmp 11), type := 3, pos := "law.go:88", after := #[{ on := 33, ground := Ground.guard }], guard := some (33, true) }) (u := ?ux59) rfl (by decide) (fun T w' hb hd hB K hK => ?sx59) ?rx59
  case sx59 =>
    have e11 := (hB 11 (by kernel_rfl)).trans hT11
    have eg := hd 33 116 _ (by decide) (by kernel_rfl) rfl rfl
    replace eg : T.getD 116 undef = .bool true := eg
    rw [if_pos (wanted_yes 33 116 true rfl rfl eg)]
    clear eg
    clear hd hB
    go_simp
    exact hK _ (Below.refl _ _)
  refine DetR.is (o := { dst := some 121, op := Op.binOp BinOp.eql 3 (Operand.tmp 119) (Operand.tmp 120) 3, type := 4, pos := "law.go:88", after := #[{ on := 36, ground := Ground.data }, { on := 37, ground := Ground.data }, { on := 33, ground := Ground.guard }], guard := some (33, true) }) (u := .bool true) rfl (by decide) (fun T w' hb hd hB K hK => ?sx60) ?rx60
  case sx60 =>
    have e119 := hd 36 119 _ (by decide) (by kernel_rfl) rfl rfl
    replace e119 : T.getD 119 undef = _ := e119
    have e120 := hd 37 120 _ (by decide) (by kernel_rfl) rfl rfl
    replace e120 : T.getD 120 undef = _ := e120
    have eg := hd 33 116 _ (by decide) (by kernel_rfl) rfl rfl
    replace eg : T.getD 116 undef = .bool true := eg
    rw [if_pos (wanted_yes 33 116 true rfl rfl eg)]
    clear eg
    clear hd hB
    go_simp
    try simp only [beq_self_eq_true]
    exact hK _ (Below.refl _ _)
  refine DetR.is (o := { dst := some 122, op := Op.pick (Operand.tmp 116) (Operand.tmp 121) (Operand.const (Value.bool false)), type := 4, pos := "law.go:88", after := #[{ on := 33, ground := Ground.data }, { on := 38, ground := Ground.data }], guard := none }) (u := ?ux61) rfl (by decide) (fun T w' hb hd hB K hK => ?sx61) ?rx61
  case sx61 =>
    have e116 := hd 33 116 _ (by decide) (by kernel_rfl) rfl rfl
    replace e116 : T.getD 116 undef = _ := e116
    have e121 := hd 38 121 _ (by decide) (by kernel_rfl) rfl rfl
    replace e121 : T.getD 121 undef = _ := e121
    rw [if_pos (wanted_none _ rfl)]
    clear hd hB
    go_simp
    exact hK _ (Below.refl _ _)
  refine DetR.is (o := { dst := some 123, op := Op.move (Operand.tmp 122), type := 4, pos := "law.go:88", after := #[{ on := 39, ground := Ground.data }, { on := 36, ground := Ground.chain }], guard := none }) (u := .bool true) rfl (by decide) (fun T w' hb hd hB K hK => ?sx62) ?rx62
  case sx62 =>
    have e122 := hd 39 122 _ (by decide) (by kernel_rfl) rfl rfl
    replace e122 : T.getD 122 undef = _ := e122
    rw [if_pos (wanted_none _ rfl)]
    clear hd hB
    go_simp
    exact hK _ (Below.refl _ _)
  refine DetR.is (o := { dst := some 124, op := Op.load 30 (Operand.tmp 7), type := 30, pos := "law.go:88", after := #[{ on := 40, ground := Ground.guard }], guard := some (40, true) }) (u := ?ux63) rfl (by decide) (fun T w' hb hd hB K hK => ?sx63) ?rx63
  case sx63 =>
    have e7 := (hB 7 (by kernel_rfl)).trans hT7
    have q7_0 : w'.cell? ⟨ga, 0, none⟩ = some (xf) := (blk_cell (blk_below hX7 hb) 0).trans rfl
    have q7_1 : w'.cell? ⟨ga, 1, none⟩ = some (xl) := (blk_cell (blk_below hX7 hb) 1).trans rfl
    have eg := hd 40 123 _ (by decide) (by kernel_rfl) rfl rfl
    replace eg : T.getD 123 undef = .bool true := eg
    rw [if_pos (wanted_yes 40 123 true rfl rfl eg)]
    clear eg
    clear hd hB
    go_simp
    exact hK _ (Below.refl _ _)
  refine DetR.cons (o := { dst := some 125, op := Op.call { callee := Callee.value (Operand.func 38), args := #[Operand.tmp 124], argTypes := #[30] }, type := 30, pos := "law.go:88", after := #[{ on := 41, ground := Ground.data }, { on := 40, ground := Ground.chain }, { on := 40, ground := Ground.guard }], guard := some (40, true) }) (TermTold k30 cf cs) rfl (by decide) (TermTold.grows _ _ _) (fun T w' hb hd hB K hK => ?sx64) ?rx64
  case sx64 =>
    have e124 := hd 41 124 _ (by decide) (by kernel_rfl) rfl rfl
    replace e124 : T.getD 124 undef = _ := e124
    have eg := hd 40 123 _ (by decide) (by kernel_rfl) rfl rfl
    replace eg : T.getD 123 undef = .bool true := eg
    rw [if_pos (wanted_yes 40 123 true rfl rfl eg)]
    clear eg
    have hcl := hF42 w' hb
    clear hd hB
    go_simp
    go_at_call 38
    refine hcl.mono ?_
    rintro e w2 ⟨u, rfl, h1, h2⟩
    exact hK _ _ h2 h1
  refine DetR.cons (o := { dst := some 126, op := Op.call { callee := Callee.value (Operand.func 29), args := #[Operand.tmp 125], argTypes := #[30] }, type := 24, pos := "law.go:88", after := #[{ on := 42, ground := Ground.data }, { on := 42, ground := Ground.chain }, { on := 40, ground := Ground.guard }], guard := some (40, true) }) (TermTold k24 df ds) rfl (by decide) (TermTold.grows _ _ _) (fun T w' hb hd hB K hK => ?sx65) ?rx65
  case sx65 =>
    obtain ⟨A125, c125, e125, hl125, hC125⟩ := (hd 42 125 _ (by decide) (by kernel_rfl) rfl rfl)
    have eg := hd 40 123 _ (by decide) (by kernel_rfl) rfl rfl
    replace eg : T.getD 123 undef = .bool true := eg
    rw [if_pos (wanted_yes 40 123 true rfl rfl eg)]
    clear eg
    have hcl := hT w' A125 c125 hb hl125 hC125
    clear hd hB
    go_simp
    go_at_call 29
    refine hcl.mono ?_
    rintro e w2 ⟨u, rfl, h1, h2⟩
    exact hK _ _ h2 h1
  refine DetR.is (o := { dst := some 127, op := Op.load 24 (Operand.tmp 3), type := 24, pos := "law.go:88", after := #[{ on := 40, ground := Ground.guard }], guard := some (40, true) }) (u := ?ux66) rfl (by decide) (fun T w' hb hd hB K hK => ?sx66) ?rx66
  case sx66 =>
    have e3 := (hB 3 (by kernel_rfl)).trans hT3
    have q3_0 : w'.cell? ⟨gc, 0, none⟩ = some (af) := (blk_cell (blk_below hX3 hb) 0).trans rfl
    have q3_1 : w'.cell? ⟨gc, 1, none⟩ = some (al) := (blk_cell (blk_below hX3 hb) 1).trans rfl
    have eg := hd 40 123 _ (by decide) (by kernel_rfl) rfl rfl
    replace eg : T.getD 123 undef = .bool true := eg
    rw [if_pos (wanted_yes 40 123 true rfl rfl eg)]
    clear eg
    clear hd hB
    go_simp
    exact hK _ (Below.refl _ _)
  refine DetR.is (o := { dst := some 128, op := Op.call { callee := Callee.value (Operand.func 28), args := #[Operand.tmp 126, Operand.tmp 127], argTypes := #[24, 24] }, type := 4, pos := "law.go:88", after := #[{ on := 43, ground := Ground.data }, { on := 44, ground := Ground.data }, { on := 43, ground := Ground.chain }, { on := 40, ground := Ground.guard }], guard := some (40, true) }) (u := ?ux67) rfl (by decide) (fun T w' hb hd hB K hK => ?sx67) ?rx67
  case sx67 =>
    obtain ⟨A126, c126, e126, hl126, hC126⟩ := (hd 43 126 _ (by decide) (by kernel_rfl) rfl rfl)
    have e127 := hd 44 127 _ (by decide) (by kernel_rfl) rfl rfl
    replace e127 : T.getD 127 undef = _ := e127
    have eg := hd 40 123 _ (by decide) (by kernel_rfl) rfl rfl
    replace eg : T.getD 123 undef = .bool true := eg
    rw [if_pos (wanted_yes 40 123 true rfl rfl eg)]
    clear eg
    have hcl := hS w' A126 c126 hb hl126 hC126
    clear hd hB
    go_simp
    go_at_call 28
    refine hcl.mono ?_
    rintro e w2 ⟨rfl, h2⟩
    exact hK _ h2
  refine DetR.is (o := { dst := some 129, op := Op.pick (Operand.tmp 123) (Operand.tmp 128) (Operand.const (Value.bool false)), type := 4, pos := "law.go:88", after := #[{ on := 40, ground := Ground.data }, { on := 45, ground := Ground.data }], guard := none }) (u := ?ux68) rfl (by decide) (fun T w' hb hd hB K hK => ?sx68) ?rx68
  case sx68 =>
    have e123 := hd 40 123 _ (by decide) (by kernel_rfl) rfl rfl
    replace e123 : T.getD 123 undef = _ := e123
    have e128 := hd 45 128 _ (by decide) (by kernel_rfl) rfl rfl
    replace e128 : T.getD 128 undef = _ := e128
    rw [if_pos (wanted_none _ rfl)]
    clear hd hB
    go_simp
    exact hK _ (Below.refl _ _)
  refine DetR.is (o := { dst := some 6, op := Op.assign (Operand.tmp 129), type := 4, pos := "law.go:88", after := #[{ on := 46, ground := Ground.data }, { on := 45, ground := Ground.chain }, { on := 0, ground := Ground.phase }, { on := 1, ground := Ground.phase }, { on := 2, ground := Ground.phase }, { on := 3, ground := Ground.phase }, { on := 4, ground := Ground.phase }, { on := 5, ground := Ground.phase }, { on := 6, ground := Ground.phase }, { on := 7, ground := Ground.phase }, { on := 8, ground := Ground.phase }, { on := 9, ground := Ground.phase }, { on := 10, ground := Ground.phase }, { on := 11, ground := Ground.phase }, { on := 12, ground := Ground.phase }, { on := 13, ground := Ground.phase }, { on := 14, ground := Ground.phase }, { on := 15, ground := Ground.phase }, { on := 16, ground := Ground.phase }, { on := 17, ground := Ground.phase }, { on := 18, ground := Ground.phase }, { on := 19, ground := Ground.phase }, { on := 20, ground := Ground.phase }, { on := 21, ground := Ground.phase }, { on := 22, ground := Ground.phase }, { on := 23, ground := Ground.phase }, { on := 24, ground := Ground.phase }, { on := 25, ground := Ground.phase }, { on := 26, ground := Ground.phase }, { on := 27, ground := Ground.phase }, { on := 28, ground := Ground.phase }, { on := 29, ground := Ground.phase }, { on := 30, ground := Ground.phase }, { on := 31, ground := Ground.phase }, { on := 32, ground := Ground.phase }, { on := 33, ground := Ground.phase }, { on := 34, ground := Ground.phase }, { on := 35, ground := Ground.phase }, { on := 36, ground := Ground.phase }, { on := 37, ground := Ground.phase }, { on := 38, ground := Ground.phase }, { on := 39, ground := Ground.phase }, { on := 40, ground := Ground.phase }, { on := 41, ground := Ground.phase }, { on := 42, ground := Ground.phase }, { on := 43, ground := Ground.phase }, { on := 44, ground := Ground.phase }, { on := 45, ground := Ground.phase }, { on := 46, ground := Ground.phase }], guard := none }) (u := ?ux69) rfl (by decide) (fun T w' hb hd hB K hK => ?sx69) ?rx69
  case sx69 =>
    have e129 := hd 46 129 _ (by decide) (by kernel_rfl) rfl rfl
    replace e129 : T.getD 129 undef = _ := e129
    rw [if_pos (wanted_none _ rfl)]
    clear hd hB
    go_simp
    exact hK _ (Below.refl _ _)
  refine DetR.done [some 83, some 84, some 85, some 86, some 87, some 88, some 89, some 90, some 91, some 92, some 93, some 94, some 95, some 96, some 97, some 98, some 99, some 100, some 101, some 102, some 103, some 104, some 105, some 106, some 107, some 108, some 109, some 110, some 111, some 112, some 113, some 114, some 115, some 116, some 117, some 118, some 119, some 120, some 121, some 122, some 123, some 124, some 125, some 126, some 127, some 128, some 129, some 6] (by kernel_rfl) rfl (by kernel_rfl) ?_
  intro v w' hb hv
  exact hK v w' hb (hv 47 _ (by decide) rfl)
end Go.Proofs.Ytpfddihcikiofaa.P
end

section
namespace Go.Proofs.Ytpfddihcikiofaa.P
open Go.RowKit Go.Proofs.YtpfddihcikiofaaW.PrintWords Go.Proofs.YtpfddihcikiofaaW.PrintLast Go.Proofs.YtpfddihcikiofaaW.PrintMore
set_option linter.unusedVariables false
set_option linter.unusedSimpArgs false
attribute [local go_sem] max2_int min2_int max_two min_two
theorem eqv_nums0 : ∀ a b : S30, cmpT a b = 0 → (nodes a).map (·.f0) = (nodes b).map (·.f0) := by
  refine S30.ind ?_
  intro f l ih b h
  obtain ⟨g, m⟩ := b
  obtain ⟨rfl, h2⟩ := cmp_zero h
  by_cases hf : f < 0
  · simp [nodes, hf]
  · obtain ⟨h3, h4⟩ := h2 hf
    have key : ∀ (l m : List S30), (∀ x ∈ l, ∀ y, cmpT x y = 0 → (nodes x).map (·.f0) = (nodes y).map (·.f0)) → l.length = m.length → cmpTs l m = 0 → (nodess l).map (·.f0) = (nodess m).map (·.f0) := by
      intro l
      induction l with
      | nil => intro m _ hl _; cases m with
        | nil => rfl
        | cons => simp at hl
      | cons x l ihl =>
        intro m h hl hc
        cases m with
        | nil => simp at hl
        | cons y m =>
          rw [cmpTs] at hc
          split at hc
          · rename_i h0
            rw [nodess, nodess, List.map_append, List.map_append, h x (by simp) y h0, ihl m (fun x hx => h x (by simp [hx])) (by simpa using hl) hc]
          · rename_i h0; contradiction
    have := key l m (fun x hx y => ih x hx y) h3 h4
    simp [nodes, hf, this]
theorem eqv_fit0 (a : S30) (ha : fit a) : fit (cloneT a) := by
  have h0 := cmp_clone a
  have h1 := eqv_nums0 (cloneT a) a h0
  refine ⟨by rw [cmp_len _ _ h0]; exact ha.1, fun x hx => ?_⟩
  have h2 : x.f0 ∈ (nodes (cloneT a)).map (·.f0) := List.mem_map_of_mem hx
  rw [h1, List.mem_map] at h2
  obtain ⟨y, hy, e⟩ := h2
  rw [← e]
  exact ha.2 y hy
theorem clone2 (a : S30) : cmpT (cloneT (cloneT a)) a = 0 := by
  have h1 := cmp_clone (cloneT a)
  have h2 := cmp_clone a
  have := cmp_trans (cloneT (cloneT a)) (cloneT a) a (by omega) (by omega)
  exact this.2.2 ⟨h1, h2⟩
set_option maxHeartbeats 8000000 in
set_option maxRecDepth 100000 in
theorem TermIs_walk (a b : S24) (f : Int) (A : Option Addr) (c : Nat) (A' : Option Addr) (c' : Nat) (w : World) (hf : -9223372036854775808 ≤ f ∧ f ≤ 9223372036854775807)
    (hA : k24.C w A a.f1.length a.f1) (hc : a.f1.length ≤ c) (hA' : k24.C w A' b.f1.length b.f1) (hc' : b.f1.length ≤ c') :
    Calls Try.prog 9 #[.agg #[.int .i64 a.f0, .slice A a.f1.length c], .agg #[.int .i64 b.f0, .slice A' b.f1.length c'], .int .i64 f] w fun e w' => e = .returned (.bool true) ∧ Below w.heap.size w w' := by
  have hmx : Try.prog.follows .mixedOrders = true := by kernel_rfl
  obtain ⟨ok, hFine, hok⟩ := Fine_spec [a, b] (by simp)
  obtain ⟨kF, hF⟩ := hFine.rounds
  have hbA : Aside0 (∀ w1, Below w.heap.size w w1 → k24.C w1 A a.f1.length a.f1) := ⟨fun w1 h => Kd.C_below hA h⟩
  have hbB : Aside0 (∀ w1, Below w.heap.size w w1 → k24.C w1 A' b.f1.length b.f1) := ⟨fun w1 h => Kd.C_below hA' h⟩
  clear hA hA' hFine
  go_enter Try.func9, Try.ntmps9
  cases ok with
  | false =>
    go_wp2_with (first | (go_at_call 20; refine (soriteslaw06_alive.calls true _ alive06).mono ?_; rintro e w1 ⟨rfl, hb1⟩; have hs1 := hb1.size; simp only [World.size_alloc] at hs1; have hB1 : Below w.heap.size w w1 := (below_alloc (below_alloc (Below.refl _ _) _) _).trans (hb1.mono (by simp; omega)); have hg0 : w1.heap[w.heap.size]? = some (.cells #[.int .i64 a.f0, .slice A a.f1.length c] 24 (0, 0)) := blk_below (blk_alloc (heap_alloc_new _ _) _) hb1; have hg1 : w1.heap[w.heap.size + 1]? = some (.cells #[.int .i64 b.f0, .slice A' b.f1.length c'] 24 (0, 0)) := blk_below (by have := heap_alloc_new (w.alloc (.cells #[.int .i64 a.f0, .slice A a.f1.length c] 24)) (.cells #[.int .i64 b.f0, .slice A' b.f1.length c'] 24); rw [World.size_alloc] at this; exact this) hb1; have hx0 : w1.cell? ⟨w.heap.size, 0, none⟩ = some (.int .i64 a.f0) := (blk_cell hg0 0).trans rfl; have hx1 : w1.cell? ⟨w.heap.size, 1, none⟩ = some (.slice A a.f1.length c) := (blk_cell hg0 1).trans rfl; have hy0 : w1.cell? ⟨w.heap.size + 1, 0, none⟩ = some (.int .i64 b.f0) := (blk_cell hg1 0).trans rfl; have hy1 : w1.cell? ⟨w.heap.size + 1, 1, none⟩ = some (.slice A' b.f1.length c') := (blk_cell hg1 1).trans rfl) | (go_at_call 21; refine (soriteslaw06_Fine.calls kF _ 2 [a, b] _ _ (C2 k24 rfl (K24 (hbA.out _ (below_alloc hB1 _)) hc) (K24 (hbB.out _ (below_alloc hB1 _)) hc') (heap_alloc_new _ _)) (by simp) hF).mono ?_; rintro e w2 ⟨rfl, hb2⟩; have hB2 : Below w.heap.size w w2 := (below_alloc hB1 _).trans (hb2.mono (by simp; omega)); have hh0 := blk_below (blk_alloc hg0 _) hb2; have hh1 := blk_below (blk_alloc hg1 _) hb2))
    go_ret
    exact ⟨rfl, hB2⟩
  | true =>
    go_wp2_with (first | (go_at_call 20; refine (soriteslaw06_alive.calls true _ alive06).mono ?_; rintro e w1 ⟨rfl, hb1⟩; have hs1 := hb1.size; simp only [World.size_alloc] at hs1; have hB1 : Below w.heap.size w w1 := (below_alloc (below_alloc (Below.refl _ _) _) _).trans (hb1.mono (by simp; omega)); have hg0 : w1.heap[w.heap.size]? = some (.cells #[.int .i64 a.f0, .slice A a.f1.length c] 24 (0, 0)) := blk_below (blk_alloc (heap_alloc_new _ _) _) hb1; have hg1 : w1.heap[w.heap.size + 1]? = some (.cells #[.int .i64 b.f0, .slice A' b.f1.length c'] 24 (0, 0)) := blk_below (by have := heap_alloc_new (w.alloc (.cells #[.int .i64 a.f0, .slice A a.f1.length c] 24)) (.cells #[.int .i64 b.f0, .slice A' b.f1.length c'] 24); rw [World.size_alloc] at this; exact this) hb1; have hx0 : w1.cell? ⟨w.heap.size, 0, none⟩ = some (.int .i64 a.f0) := (blk_cell hg0 0).trans rfl; have hx1 : w1.cell? ⟨w.heap.size, 1, none⟩ = some (.slice A a.f1.length c) := (blk_cell hg0 1).trans rfl; have hy0 : w1.cell? ⟨w.heap.size + 1, 0, none⟩ = some (.int .i64 b.f0) := (blk_cell hg1 0).trans rfl; have hy1 : w1.cell? ⟨w.heap.size + 1, 1, none⟩ = some (.slice A' b.f1.length c') := (blk_cell hg1 1).trans rfl) | (go_at_call 21; refine (soriteslaw06_Fine.calls kF _ 2 [a, b] _ _ (C2 k24 rfl (K24 (hbA.out _ (below_alloc hB1 _)) hc) (K24 (hbB.out _ (below_alloc hB1 _)) hc') (heap_alloc_new _ _)) (by simp) hF).mono ?_; rintro e w2 ⟨rfl, hb2⟩; have hB2 : Below w.heap.size w w2 := (below_alloc hB1 _).trans (hb2.mono (by simp; omega)); have hh0 := blk_below (blk_alloc hg0 _) hb2; have hh1 := blk_below (blk_alloc hg1 _) hb2))
    have hoka := hok trivial a (by simp)
    have hokb := hok trivial b (by simp)
    refine of_two (x0 := a) (x1 := b) (g0 := w.heap.size) (g1 := w.heap.size + 1) (by kernel_rfl) (by kernel_rfl) rfl hh0 (hbA.out _ hB2) hc hoka.1 rfl hh1 (hbB.out _ hB2) hc' hokb.1 ?_
    intro w3 X0 q0 h0 X1 q1 h1 hb3 hge0 hx0' hq0 hC0 hge1 hx1' hq1 hC1
    have HB3 := Aside0.mk (hB2.trans (hb3.mono hB2.size))
    have HC0 := Aside0.mk hC0
    have HC1 := Aside0.mk hC1
    have HX0 := Aside0.mk hx0'
    have HX1 := Aside0.mk hx1'
    have hna := Nat.le_trans (nodes_le a) hoka.2
    have hnb := Nat.le_trans (nodes_le b) hokb.2
    have hfa := fit_of_ok a hoka.1 (by omega)
    have hfb := fit_of_ok b hokb.1 (by omega)
    obtain ⟨ns, hns⟩ : ∃ x, x = nodes a := ⟨_, rfl⟩
    have hnl : ns.length ≤ 60 := by rw [hns]; exact hna
    obtain ⟨ks, es⟩ := (RSame_spec a b hfa).rounds
    obtain ⟨kl, el⟩ := (RLess_spec a b hfa).rounds
    obtain ⟨kf, ef⟩ := (RFlat_spec a hfa).rounds
    obtain ⟨kv, ev⟩ := (RVars_spec a hfa).rounds
    have ev2 := Vars_is (t := a) (by omega)
    have ez := Size_is (t := a) (by omega)
    have ec := Count_is (t := a) f (by omega)
    have ecmp := Cmp_of a b
    have esm := Same_of a b
    obtain ⟨kt, et⟩ := (Top_spec a (by rw [flatP_len]; omega)).rounds
    obtain ⟨kc, ecl⟩ := (Clone_fit a hfa).rounds
    have hfc := eqv_fit0 a hfa
    obtain ⟨kT, eT⟩ := (To_spec (cloneT a) hfc).rounds
    have hfc2 := eqv_fit0 (cloneT a) hfc
    obtain ⟨kS, eS⟩ := (RSame_spec (cloneT (cloneT a)) a hfc2).rounds
    have hcc : cmpT (cloneT (cloneT a)) a = 0 := clone2 a
    rw [hcc] at eS
    have hrng := cmp_range a b
    obtain ⟨cm, hcm⟩ : ∃ x, x = cmpT a b := ⟨_, rfl⟩
    obtain ⟨V, hV⟩ : ∃ x, x = varsN (nodes a) := ⟨_, rfl⟩
    have hVl : V.length ≤ 60 := by
      have := varsN_len (nodes a) []
      rw [hV]
      unfold varsN
      simp only [List.length_nil] at this
      omega
    rw [← hcm] at es el ecmp esm hrng
    rw [← hns] at ef ez ec
    rw [← hV] at ev ev2 et
    have HG := Aside0.mk (And.intro (blk_below hh0 hb3) (blk_below hh1 hb3))
    have HA := Aside0.mk (And.intro (hbA.out _ HB3.out) (hbB.out _ HB3.out))
    have FR := Aside0.mk (And.intro ez (And.intro ec (And.intro ecmp (And.intro esm (And.intro et (And.intro ecl (And.intro eT eS)))))))
    have FV := Aside0.mk (And.intro ev ev2)
    have k20 : w3.cell? ⟨w.heap.size, 0, none⟩ = some (.int .i64 a.f0) := (blk_cell HG.out.1 0).trans rfl
    have k21 : w3.cell? ⟨w.heap.size, 1, none⟩ = some (.slice A a.f1.length c) := (blk_cell HG.out.1 1).trans rfl
    have k30_ : w3.cell? ⟨w.heap.size + 1, 0, none⟩ = some (.int .i64 b.f0) := (blk_cell HG.out.2 0).trans rfl
    have k31 : w3.cell? ⟨w.heap.size + 1, 1, none⟩ = some (.slice A' b.f1.length c') := (blk_cell HG.out.2 1).trans rfl
    clear hfa hfb hns ev ev2 ez ec ecmp esm et ecl eT eS hfc hfc2 hcc hcm hV hoka hokb hok hna hnb hbA hbB hC0 hC1 hx0' hx1' hb3 hg0 hg1 hh0 hh1 hx0 hx1 hy0 hy1 hB1 hB2 hb1 hb2 hF hge0 hge1
    simp only [List.setIfInBounds_toArray, List.set_cons_zero, List.set_cons_succ]
    rcases hrng with hcm | hcm | hcm
    · subst hcm
      have FE := Aside0.mk (And.intro (show soritesref06_Same.f ks a.f0 a.f1 b.f0 b.f1 = some false from es) (And.intro (show soritesref06_Less.f kl a.f0 a.f1 b.f0 b.f1 = some true from el) (And.intro ef hnl)))
      clear es el ef
      go_wp2_with (first | (go_at_call 26; refine (soritesref06_Flat.calls kf a.f0 (fun _ => True) A c a.f1 ns u2 (Kd.V_mk hc (Kd.F_mono (F_old k24_heap HA.out.1 HU2.out) (fun _ _ => trivial))) FE.out.2.2.1).mono ?_; rintro e w5 ⟨v0, rfl, hN, hb⟩; obtain ⟨Al, cl, hv0, hlc, hCl⟩ := Kd.N_reads hN; subst hv0; have HB5 := Aside0.mk (HU2.out.trans (hb.mono HU2.out.size)); have HCl := Aside0.mk hCl; clear hN hlc hCl hb) | (go_at_call 47; refine (soritesref06_Less.calls kl _ _ _ a.f1 _ _ _ b.f1 true u1 (Kd.C_below HA.out.1 HU1.out) hc (Kd.C_below HA.out.2 HU1.out) hc' FE.out.2.1).mono ?_; rintro e u2 ⟨rfl, hb⟩; have HU2 := Aside0.mk (HU1.out.trans (hb.mono HU1.out.size)); have u2c00 : u2.cell? ⟨h0, 0, none⟩ = some (.int .i64 a.f0) := (blk_cell (blk_below HX0.out HU2.out) 0).trans rfl; have u2c01 : u2.cell? ⟨h0, 1, none⟩ = some (.slice X0 a.f1.length q0) := (blk_cell (blk_below HX0.out HU2.out) 1).trans rfl; have u2c10 : u2.cell? ⟨h1, 0, none⟩ = some (.int .i64 b.f0) := (blk_cell (blk_below HX1.out HU2.out) 0).trans rfl; have u2c11 : u2.cell? ⟨h1, 1, none⟩ = some (.slice X1 b.f1.length q1) := (blk_cell (blk_below HX1.out HU2.out) 1).trans rfl; have u2c20 : u2.cell? ⟨w.heap.size, 0, none⟩ = some (.int .i64 a.f0) := (blk_cell (blk_below HG.out.1 HU2.out) 0).trans rfl; have u2c21 : u2.cell? ⟨w.heap.size, 1, none⟩ = some (.slice A a.f1.length c) := (blk_cell (blk_below HG.out.1 HU2.out) 1).trans rfl; have u2c30 : u2.cell? ⟨w.heap.size + 1, 0, none⟩ = some (.int .i64 b.f0) := (blk_cell (blk_below HG.out.2 HU2.out) 0).trans rfl; have u2c31 : u2.cell? ⟨w.heap.size + 1, 1, none⟩ = some (.slice A' b.f1.length c') := (blk_cell (blk_below HG.out.2 HU2.out) 1).trans rfl; clear hb) | (go_at_call 28; refine (soritesref06_Same.calls ks _ _ _ a.f1 _ _ _ b.f1 false w3 HA.out.1 hc HA.out.2 hc' FE.out.1).mono ?_; rintro e u1 ⟨rfl, hb⟩; have HU1 := Aside0.mk hb; have u1c00 : u1.cell? ⟨h0, 0, none⟩ = some (.int .i64 a.f0) := (blk_cell (blk_below HX0.out HU1.out) 0).trans rfl; have u1c01 : u1.cell? ⟨h0, 1, none⟩ = some (.slice X0 a.f1.length q0) := (blk_cell (blk_below HX0.out HU1.out) 1).trans rfl; have u1c10 : u1.cell? ⟨h1, 0, none⟩ = some (.int .i64 b.f0) := (blk_cell (blk_below HX1.out HU1.out) 0).trans rfl; have u1c11 : u1.cell? ⟨h1, 1, none⟩ = some (.slice X1 b.f1.length q1) := (blk_cell (blk_below HX1.out HU1.out) 1).trans rfl; have u1c20 : u1.cell? ⟨w.heap.size, 0, none⟩ = some (.int .i64 a.f0) := (blk_cell (blk_below HG.out.1 HU1.out) 0).trans rfl; have u1c21 : u1.cell? ⟨w.heap.size, 1, none⟩ = some (.slice A a.f1.length c) := (blk_cell (blk_below HG.out.1 HU1.out) 1).trans rfl; have u1c30 : u1.cell? ⟨w.heap.size + 1, 0, none⟩ = some (.int .i64 b.f0) := (blk_cell (blk_below HG.out.2 HU1.out) 0).trans rfl; have u1c31 : u1.cell? ⟨w.heap.size + 1, 1, none⟩ = some (.slice A' b.f1.length c') := (blk_cell (blk_below HG.out.2 HU1.out) 1).trans rfl; clear hb))
      have hnl0 := FE.out.2.2.2
      have HX0' := Aside0.mk (blk_below HX0.out HB5.out)
      have HX1' := Aside0.mk (blk_below HX1.out HB5.out)
      have HG' := Aside0.mk (blk_below HG.out.1 HB5.out)
      have D0 := Aside0.mk (Kd.C_below HC0.out HB5.out)
      have D1 := Aside0.mk (Kd.C_below HC1.out HB5.out)
      have DA := Aside0.mk (Kd.C_below HA.out.1 HB5.out)
      have HB0 := Aside0.mk (HB3.out.trans (HB5.out.mono HB3.out.size))
      clear FE HX0 HX1 HG HC0 HC1 HA HB3 k20 k21 k30_ k31 HU1 HU2
      go_loopw [11, 12] (fun cv i wr => ∃ k : Nat, k ≤ ns.length ∧ i = .int .i64 k ∧ cv = .int .i64 (countN f (ns.take k) : Int) ∧ Aside0 (Below w5.heap.size w5 wr)) (fun cv i wr => ns.length - (intOf i).toNat)
      case atStart => exact ⟨0, Nat.zero_le _, rfl, rfl, ⟨Below.refl _ _⟩⟩
      case round =>
        obtain ⟨k, hk, rfl, rfl, hb⟩ := hrel
        by_cases hlt : k < ns.length
        · obtain ⟨ad, A1, c1, hAl, hx0, _, _, _⟩ := at_T24 (Kd.C_below HCl.out hb.out) (k : Int) (by omega) (by omega)
          subst hAl
          rw [show rd_T24 ns (k : Int) = ns[k] from rdC_at ns k hlt] at hx0
          rw [Int.toNat_natCast] at hx0
          have htk : countN f (ns.take (k + 1)) = countN f (ns.take k) + (if ns[k].f0 = f then 1 else 0) := by
            rw [List.take_succ_eq_append_getElem hlt, countN_append]
            congr 1
            unfold countN
            by_cases he : ns[k].f0 = f
            · simp [he]
            · simp [he]
          have hcl := countN_le f (ns.take k)
          rw [List.length_take] at hcl
          generalize ns[k].f0 = g0 at hx0 htk
          obtain ⟨cn, hcn⟩ : ∃ x, x = countN f (ns.take k) := ⟨_, rfl⟩
          rw [← hcn] at htk hcl
          simp only [← hcn]
          have HTK := Aside0.mk htk
          have HCN := Aside0.mk hcn
          have HCL := Aside0.mk hcl
          clear htk hcn hcl
          have hu24 := Try.underlying24
          have hu22 := Try.underlying22
          by_cases he : g0 = f
          · have hd : (g0 == f) = true := by simpa using he
            go_wp2
            go_roundw
            case rel => exact ⟨k + 1, by omega, by go_num, by (have h9 := HCL.out; rw [HTK.out, if_pos he]; first | (rw [w64 _ (by omega)]; rfl) | (rw [i64_w, w64 _ (by omega)]; rfl)), hb⟩
            case measure => simp [intOf]; omega
          · have hd : (g0 == f) = false := by simpa using he
            go_wp2
            go_roundw
            case rel => exact ⟨k + 1, by omega, by go_num, by rw [HTK.out, if_neg he]; rfl, hb⟩
            case measure => simp [intOf]; omega
        · have hke : k = ns.length := by omega
          subst hke
          simp only [List.take_length]
          go_wp2
          refine TermIs_r18 (ga := h0) (gc := w.heap.size) (V := V) (by kernel_rfl) rfl (blk_below HX0'.out hb.out) rfl (blk_below HG'.out hb.out) ?_ ?_ ?_
          · intro w1 hb1; exact (term_Vars.calls _ _ _ a.f1 V w1 (Kd.C_below (Kd.C_below D0.out hb.out) hb1) hq0 FV.out.2).mono (fun e w2 ⟨v1, h1, h2, h3⟩ => ⟨v1, h1, RowTold.of h2, h3⟩)
          · intro w1 hb1; exact (soritesref06_Vars.calls kv _ _ _ a.f1 V w1 (Kd.C_below (Kd.C_below DA.out hb.out) hb1) hc FV.out.1).mono (fun e w2 ⟨v1, h1, h2, h3⟩ => ⟨v1, h1, RowTold.of h2, h3⟩)
          intro v w6 Av cv Aw cw hb6 hv4 hv5 hl1 hl2 hC1 hC2
          simp only [layL, Nat.reduceAdd, List.setIfInBounds_toArray, List.set_cons_zero, List.set_cons_succ, hv4, hv5]
          clear hv4 hv5
          generalize v 0 = p0
          generalize v 1 = p1
          generalize v 2 = p2
          generalize v 3 = p3
          clear v
          have HCv := Aside0.mk (And.intro hC1 hC2)
          have HB6 := Aside0.mk (hb.out.trans (hb6.mono hb.out.size))
          clear hl1 hl2 hC1 hC2 hb6
          go_wp2
          go_loopw [15, 16] (fun tv i wr2 => ∃ k : Nat, k ≤ V.length ∧ i = .int .i64 k ∧ tv = .int .i64 ((V.take k).foldl mx (-1)) ∧ Aside0 (Below w6.heap.size w6 wr2)) (fun tv i wr2 => V.length - (intOf i).toNat)
          case atStart => exact ⟨0, Nat.zero_le _, rfl, rfl, ⟨Below.refl _ _⟩⟩
          case round =>
            obtain ⟨k, hk, rfl, rfl, hb7⟩ := hrel
            by_cases hlt : k < V.length
            · obtain ⟨av, cc, hAv, hcc0, hK, hcc⟩ := ReadsRow.get_ (Kd.C_below HCv.out.1 hb7.out) 0 (k : Int) (by omega) (by omega)
              obtain ⟨aw, dd, hAw, hdd0, hL, hdd⟩ := ReadsRow.get_ (Kd.C_below HCv.out.2 hb7.out) 0 (k : Int) (by omega) (by omega)
              subst hAv hAw
              have hK' : cc = [.int .i64 (V.getD (k : Int).toNat 0)] := hK
              have hL' : dd = [.int .i64 (V.getD (k : Int).toNat 0)] := hL
              subst hK' hL'
              rw [Int.toNat_natCast] at hcc hdd
              obtain ⟨x, hx⟩ : ∃ x, x = V.getD k 0 := ⟨_, rfl⟩
              rw [← hx] at hcc hdd
              have hcv : wr.cell? (av.add k) = some (.int .i64 x) := by have h9 := hcc 0 _ rfl; rw [show (Kd.int .i64).sz = 1 from rfl, Nat.mul_one, Nat.add_zero] at h9; exact h9
              have hcw : wr.cell? (aw.add k) = some (.int .i64 x) := by have h9 := hdd 0 _ rfl; rw [show (Kd.int .i64).sz = 1 from rfl, Nat.mul_one, Nat.add_zero] at h9; exact h9
              have htk : (V.take (k + 1)).foldl mx (-1) = mx ((V.take k).foldl mx (-1)) x := by
                rw [List.take_succ_eq_append_getElem hlt, List.foldl_append, hx, List.getD_eq_getElem?_getD, List.getElem?_eq_getElem hlt]
                rfl
              obtain ⟨tk, htk0⟩ : ∃ y, y = (V.take k).foldl mx (-1) := ⟨_, rfl⟩
              rw [← htk0] at htk
              simp only [← htk0]
              have HTK2 := Aside0.mk htk
              have HCW := Aside0.mk hcw
              have HTK0 := Aside0.mk htk0
              clear hcc hdd hcc0 hdd0 hx htk htk0
              go_wp2
              refine TermIs_r23 (Av := av) (Aw := aw) (nv := V.length) (i := (k : Int)) (x := x) (by kernel_rfl) rfl rfl rfl (by omega) (by omega) (decide_eq_false (by omega)) (by rw [Int.toNat_natCast]; exact hcv) (by rw [Int.toNat_natCast]; exact HCW.out) ?_
              intro v w8 hb8 hv14
              simp only [layL, Nat.reduceAdd, List.setIfInBounds_toArray, List.set_cons_zero, List.set_cons_succ, hv14]
              clear hv14 hcv hcw
              generalize v 0 = pr0
              generalize v 1 = pr1
              generalize v 2 = pr2
              generalize v 3 = pr3
              generalize v 4 = pr4
              generalize v 5 = pr5
              generalize v 6 = pr6
              generalize v 7 = pr7
              generalize v 8 = pr8
              generalize v 9 = pr9
              generalize v 10 = pr10
              generalize v 11 = pr11
              generalize v 12 = pr12
              generalize v 13 = pr13
              clear v
              have hcw8 := (hb8.cell (cell_lt' HCW.out)).trans HCW.out
              have HB8 := Aside0.mk (hb7.out.trans (hb8.mono hb7.out.size))
              clear hb8
              go_wp2
              go_roundw
              case rel => exact ⟨k + 1, by omega, by go_num, by (rw [HTK2.out]; rfl), HB8⟩
              case measure => simp [intOf]; omega
            · have hke : k = V.length := by omega
              subst hke
              simp only [List.take_length]
              go_wp2
              have hbw := HB6.out.trans (hb7.out.mono HB6.out.size)
              have E0 := Aside0.mk (Kd.C_below D0.out hbw)
              have E1 := Aside0.mk (Kd.C_below D1.out hbw)
              have EA := Aside0.mk (Kd.C_below DA.out hbw)
              refine TermIs_r26 (f := f) (k := (-1)) (s := false) (tp := V.foldl mx (-1)) (ga := h0) (gb := h1) (gc := w.heap.size) (nl := ns.length) (cn := countN f ns) (cf := (cloneT a).f0) (cs := (cloneT a).f1) (df := (cloneT (cloneT a)).f0) (ds := (cloneT (cloneT a)).f1) (by kernel_rfl) rfl rfl rfl rfl rfl rfl rfl rfl (blk_below HX0'.out hbw) rfl (blk_below HX1'.out hbw) rfl (blk_below HG'.out hbw) ?_ ?_ ?_ ?_ ?_ ?_ (by decide) ?_ ?_ ?_
              · intro w1 hb1; exact term_Same.calls _ _ _ a.f1 _ _ _ b.f1 _ w1 (Kd.C_below E0.out hb1) hq0 (Kd.C_below E1.out hb1) hq1 FR.out.2.2.2.1
              · intro w1 hb1; exact term_Compare.calls _ _ _ a.f1 _ _ _ b.f1 _ w1 (Kd.C_below E0.out hb1) hq0 (Kd.C_below E1.out hb1) hq1 FR.out.2.2.1
              · intro w1 hb1; exact term_Size.calls _ _ _ a.f1 _ w1 (Kd.C_below E0.out hb1) hq0 FR.out.1
              · intro w1 hb1; exact term_Top.calls kt _ _ _ a.f1 _ w1 (Kd.C_below E0.out hb1) hq0 FR.out.2.2.2.2.1
              · intro w1 hb1; exact term_Count.calls _ _ _ a.f1 f _ w1 (Kd.C_below E0.out hb1) hq0 FR.out.2.1
              · intro w1 hb1; exact (term_Clone.calls kc _ _ _ a.f1 _ _ w1 (Kd.C_below E0.out hb1) hq0 FR.out.2.2.2.2.2.1).mono (fun e w2 ⟨v1, h1, h2, h3⟩ => ⟨_, h1, TermTold.of h2, h3⟩)
              · intro w1 Ac cc hb1 hl hC; exact (soriteslaw06_To.calls kT _ _ _ (cloneT a).f1 _ _ w1 hC hl FR.out.2.2.2.2.2.2.1).mono (fun e w2 ⟨v1, h1, h2, h3⟩ => ⟨_, h1, TermTold.of h2, h3⟩)
              · intro w1 Ac cc hb1 hl hC; exact soritesref06_Same.calls kS _ _ _ (cloneT (cloneT a)).f1 _ _ _ a.f1 true w1 hC hl (Kd.C_below EA.out hb1) hc FR.out.2.2.2.2.2.2.2
              intro v w9 hb9 hv47
              simp only [layL, Nat.reduceAdd, List.setIfInBounds_toArray, List.set_cons_zero, List.set_cons_succ, hv47]
              clear hv47
              have HB9 := Aside0.mk (HB0.out.trans ((hbw.trans (hb9.mono hbw.size)).mono HB0.out.size))
              clear hb9 hbw
              generalize v 0 = pf0
              generalize v 1 = pf1
              generalize v 2 = pf2
              generalize v 3 = pf3
              generalize v 4 = pf4
              generalize v 5 = pf5
              generalize v 6 = pf6
              generalize v 7 = pf7
              generalize v 8 = pf8
              generalize v 9 = pf9
              generalize v 10 = pf10
              generalize v 11 = pf11
              generalize v 12 = pf12
              generalize v 13 = pf13
              generalize v 14 = pf14
              generalize v 15 = pf15
              generalize v 16 = pf16
              generalize v 17 = pf17
              generalize v 18 = pf18
              generalize v 19 = pf19
              generalize v 20 = pf20
              generalize v 21 = pf21
              generalize v 22 = pf22
              generalize v 23 = pf23
              generalize v 24 = pf24
              generalize v 25 = pf25
              generalize v 26 = pf26
              generalize v 27 = pf27
              generalize v 28 = pf28
              generalize v 29 = pf29
              generalize v 30 = pf30
              generalize v 31 = pf31
              generalize v 32 = pf32
              generalize v 33 = pf33
              generalize v 34 = pf34
              generalize v 35 = pf35
              generalize v 36 = pf36
              generalize v 37 = pf37
              generalize v 38 = pf38
              generalize v 39 = pf39
              generalize v 40 = pf40
              generalize v 41 = pf41
              generalize v 42 = pf42
              generalize v 43 = pf43
              generalize v 44 = pf44
              generalize v 45 = pf45
              generalize v 46 = pf46
              clear v
              go_wp2
              go_ret
              exact ⟨rfl, HB9.out⟩
    · subst hcm
      have FE := Aside0.mk (And.intro (show soritesref06_Same.f ks a.f0 a.f1 b.f0 b.f1 = some true from es) (And.intro trivial (And.intro ef hnl)))
      clear es el ef
      go_wp2_with (first | (go_at_call 26; refine (soritesref06_Flat.calls kf a.f0 (fun _ => True) A c a.f1 ns u1 (Kd.V_mk hc (Kd.F_mono (F_old k24_heap HA.out.1 HU1.out) (fun _ _ => trivial))) FE.out.2.2.1).mono ?_; rintro e w5 ⟨v0, rfl, hN, hb⟩; obtain ⟨Al, cl, hv0, hlc, hCl⟩ := Kd.N_reads hN; subst hv0; have HB5 := Aside0.mk (HU1.out.trans (hb.mono HU1.out.size)); have HCl := Aside0.mk hCl; clear hN hlc hCl hb) | (go_at_call 28; refine (soritesref06_Same.calls ks _ _ _ a.f1 _ _ _ b.f1 true w3 HA.out.1 hc HA.out.2 hc' FE.out.1).mono ?_; rintro e u1 ⟨rfl, hb⟩; have HU1 := Aside0.mk hb; have u1c00 : u1.cell? ⟨h0, 0, none⟩ = some (.int .i64 a.f0) := (blk_cell (blk_below HX0.out HU1.out) 0).trans rfl; have u1c01 : u1.cell? ⟨h0, 1, none⟩ = some (.slice X0 a.f1.length q0) := (blk_cell (blk_below HX0.out HU1.out) 1).trans rfl; have u1c10 : u1.cell? ⟨h1, 0, none⟩ = some (.int .i64 b.f0) := (blk_cell (blk_below HX1.out HU1.out) 0).trans rfl; have u1c11 : u1.cell? ⟨h1, 1, none⟩ = some (.slice X1 b.f1.length q1) := (blk_cell (blk_below HX1.out HU1.out) 1).trans rfl; have u1c20 : u1.cell? ⟨w.heap.size, 0, none⟩ = some (.int .i64 a.f0) := (blk_cell (blk_below HG.out.1 HU1.out) 0).trans rfl; have u1c21 : u1.cell? ⟨w.heap.size, 1, none⟩ = some (.slice A a.f1.length c) := (blk_cell (blk_below HG.out.1 HU1.out) 1).trans rfl; have u1c30 : u1.cell? ⟨w.heap.size + 1, 0, none⟩ = some (.int .i64 b.f0) := (blk_cell (blk_below HG.out.2 HU1.out) 0).trans rfl; have u1c31 : u1.cell? ⟨w.heap.size + 1, 1, none⟩ = some (.slice A' b.f1.length c') := (blk_cell (blk_below HG.out.2 HU1.out) 1).trans rfl; clear hb))
      have hnl0 := FE.out.2.2.2
      have HX0' := Aside0.mk (blk_below HX0.out HB5.out)
      have HX1' := Aside0.mk (blk_below HX1.out HB5.out)
      have HG' := Aside0.mk (blk_below HG.out.1 HB5.out)
      have D0 := Aside0.mk (Kd.C_below HC0.out HB5.out)
      have D1 := Aside0.mk (Kd.C_below HC1.out HB5.out)
      have DA := Aside0.mk (Kd.C_below HA.out.1 HB5.out)
      have HB0 := Aside0.mk (HB3.out.trans (HB5.out.mono HB3.out.size))
      clear FE HX0 HX1 HG HC0 HC1 HA HB3 k20 k21 k30_ k31 HU1
      go_loopw [11, 12] (fun cv i wr => ∃ k : Nat, k ≤ ns.length ∧ i = .int .i64 k ∧ cv = .int .i64 (countN f (ns.take k) : Int) ∧ Aside0 (Below w5.heap.size w5 wr)) (fun cv i wr => ns.length - (intOf i).toNat)
      case atStart => exact ⟨0, Nat.zero_le _, rfl, rfl, ⟨Below.refl _ _⟩⟩
      case round =>
        obtain ⟨k, hk, rfl, rfl, hb⟩ := hrel
        by_cases hlt : k < ns.length
        · obtain ⟨ad, A1, c1, hAl, hx0, _, _, _⟩ := at_T24 (Kd.C_below HCl.out hb.out) (k : Int) (by omega) (by omega)
          subst hAl
          rw [show rd_T24 ns (k : Int) = ns[k] from rdC_at ns k hlt] at hx0
          rw [Int.toNat_natCast] at hx0
          have htk : countN f (ns.take (k + 1)) = countN f (ns.take k) + (if ns[k].f0 = f then 1 else 0) := by
            rw [List.take_succ_eq_append_getElem hlt, countN_append]
            congr 1
            unfold countN
            by_cases he : ns[k].f0 = f
            · simp [he]
            · simp [he]
          have hcl := countN_le f (ns.take k)
          rw [List.length_take] at hcl
          generalize ns[k].f0 = g0 at hx0 htk
          obtain ⟨cn, hcn⟩ : ∃ x, x = countN f (ns.take k) := ⟨_, rfl⟩
          rw [← hcn] at htk hcl
          simp only [← hcn]
          have HTK := Aside0.mk htk
          have HCN := Aside0.mk hcn
          have HCL := Aside0.mk hcl
          clear htk hcn hcl
          have hu24 := Try.underlying24
          have hu22 := Try.underlying22
          by_cases he : g0 = f
          · have hd : (g0 == f) = true := by simpa using he
            go_wp2
            go_roundw
            case rel => exact ⟨k + 1, by omega, by go_num, by (have h9 := HCL.out; rw [HTK.out, if_pos he]; first | (rw [w64 _ (by omega)]; rfl) | (rw [i64_w, w64 _ (by omega)]; rfl)), hb⟩
            case measure => simp [intOf]; omega
          · have hd : (g0 == f) = false := by simpa using he
            go_wp2
            go_roundw
            case rel => exact ⟨k + 1, by omega, by go_num, by rw [HTK.out, if_neg he]; rfl, hb⟩
            case measure => simp [intOf]; omega
        · have hke : k = ns.length := by omega
          subst hke
          simp only [List.take_length]
          go_wp2
          refine TermIs_r18 (ga := h0) (gc := w.heap.size) (V := V) (by kernel_rfl) rfl (blk_below HX0'.out hb.out) rfl (blk_below HG'.out hb.out) ?_ ?_ ?_
          · intro w1 hb1; exact (term_Vars.calls _ _ _ a.f1 V w1 (Kd.C_below (Kd.C_below D0.out hb.out) hb1) hq0 FV.out.2).mono (fun e w2 ⟨v1, h1, h2, h3⟩ => ⟨v1, h1, RowTold.of h2, h3⟩)
          · intro w1 hb1; exact (soritesref06_Vars.calls kv _ _ _ a.f1 V w1 (Kd.C_below (Kd.C_below DA.out hb.out) hb1) hc FV.out.1).mono (fun e w2 ⟨v1, h1, h2, h3⟩ => ⟨v1, h1, RowTold.of h2, h3⟩)
          intro v w6 Av cv Aw cw hb6 hv4 hv5 hl1 hl2 hC1 hC2
          simp only [layL, Nat.reduceAdd, List.setIfInBounds_toArray, List.set_cons_zero, List.set_cons_succ, hv4, hv5]
          clear hv4 hv5
          generalize v 0 = p0
          generalize v 1 = p1
          generalize v 2 = p2
          generalize v 3 = p3
          clear v
          have HCv := Aside0.mk (And.intro hC1 hC2)
          have HB6 := Aside0.mk (hb.out.trans (hb6.mono hb.out.size))
          clear hl1 hl2 hC1 hC2 hb6
          go_wp2
          go_loopw [15, 16] (fun tv i wr2 => ∃ k : Nat, k ≤ V.length ∧ i = .int .i64 k ∧ tv = .int .i64 ((V.take k).foldl mx (-1)) ∧ Aside0 (Below w6.heap.size w6 wr2)) (fun tv i wr2 => V.length - (intOf i).toNat)
          case atStart => exact ⟨0, Nat.zero_le _, rfl, rfl, ⟨Below.refl _ _⟩⟩
          case round =>
            obtain ⟨k, hk, rfl, rfl, hb7⟩ := hrel
            by_cases hlt : k < V.length
            · obtain ⟨av, cc, hAv, hcc0, hK, hcc⟩ := ReadsRow.get_ (Kd.C_below HCv.out.1 hb7.out) 0 (k : Int) (by omega) (by omega)
              obtain ⟨aw, dd, hAw, hdd0, hL, hdd⟩ := ReadsRow.get_ (Kd.C_below HCv.out.2 hb7.out) 0 (k : Int) (by omega) (by omega)
              subst hAv hAw
              have hK' : cc = [.int .i64 (V.getD (k : Int).toNat 0)] := hK
              have hL' : dd = [.int .i64 (V.getD (k : Int).toNat 0)] := hL
              subst hK' hL'
              rw [Int.toNat_natCast] at hcc hdd
              obtain ⟨x, hx⟩ : ∃ x, x = V.getD k 0 := ⟨_, rfl⟩
              rw [← hx] at hcc hdd
              have hcv : wr.cell? (av.add k) = some (.int .i64 x) := by have h9 := hcc 0 _ rfl; rw [show (Kd.int .i64).sz = 1 from rfl, Nat.mul_one, Nat.add_zero] at h9; exact h9
              have hcw : wr.cell? (aw.add k) = some (.int .i64 x) := by have h9 := hdd 0 _ rfl; rw [show (Kd.int .i64).sz = 1 from rfl, Nat.mul_one, Nat.add_zero] at h9; exact h9
              have htk : (V.take (k + 1)).foldl mx (-1) = mx ((V.take k).foldl mx (-1)) x := by
                rw [List.take_succ_eq_append_getElem hlt, List.foldl_append, hx, List.getD_eq_getElem?_getD, List.getElem?_eq_getElem hlt]
                rfl
              obtain ⟨tk, htk0⟩ : ∃ y, y = (V.take k).foldl mx (-1) := ⟨_, rfl⟩
              rw [← htk0] at htk
              simp only [← htk0]
              have HTK2 := Aside0.mk htk
              have HCW := Aside0.mk hcw
              have HTK0 := Aside0.mk htk0
              clear hcc hdd hcc0 hdd0 hx htk htk0
              go_wp2
              refine TermIs_r23 (Av := av) (Aw := aw) (nv := V.length) (i := (k : Int)) (x := x) (by kernel_rfl) rfl rfl rfl (by omega) (by omega) (decide_eq_false (by omega)) (by rw [Int.toNat_natCast]; exact hcv) (by rw [Int.toNat_natCast]; exact HCW.out) ?_
              intro v w8 hb8 hv14
              simp only [layL, Nat.reduceAdd, List.setIfInBounds_toArray, List.set_cons_zero, List.set_cons_succ, hv14]
              clear hv14 hcv hcw
              generalize v 0 = pr0
              generalize v 1 = pr1
              generalize v 2 = pr2
              generalize v 3 = pr3
              generalize v 4 = pr4
              generalize v 5 = pr5
              generalize v 6 = pr6
              generalize v 7 = pr7
              generalize v 8 = pr8
              generalize v 9 = pr9
              generalize v 10 = pr10
              generalize v 11 = pr11
              generalize v 12 = pr12
              generalize v 13 = pr13
              clear v
              have hcw8 := (hb8.cell (cell_lt' HCW.out)).trans HCW.out
              have HB8 := Aside0.mk (hb7.out.trans (hb8.mono hb7.out.size))
              clear hb8
              go_wp2
              go_roundw
              case rel => exact ⟨k + 1, by omega, by go_num, by (rw [HTK2.out]; rfl), HB8⟩
              case measure => simp [intOf]; omega
            · have hke : k = V.length := by omega
              subst hke
              simp only [List.take_length]
              go_wp2
              have hbw := HB6.out.trans (hb7.out.mono HB6.out.size)
              have E0 := Aside0.mk (Kd.C_below D0.out hbw)
              have E1 := Aside0.mk (Kd.C_below D1.out hbw)
              have EA := Aside0.mk (Kd.C_below DA.out hbw)
              refine TermIs_r26 (f := f) (k := 0) (s := true) (tp := V.foldl mx (-1)) (ga := h0) (gb := h1) (gc := w.heap.size) (nl := ns.length) (cn := countN f ns) (cf := (cloneT a).f0) (cs := (cloneT a).f1) (df := (cloneT (cloneT a)).f0) (ds := (cloneT (cloneT a)).f1) (by kernel_rfl) rfl rfl rfl rfl rfl rfl rfl rfl (blk_below HX0'.out hbw) rfl (blk_below HX1'.out hbw) rfl (blk_below HG'.out hbw) ?_ ?_ ?_ ?_ ?_ ?_ (by decide) ?_ ?_ ?_
              · intro w1 hb1; exact term_Same.calls _ _ _ a.f1 _ _ _ b.f1 _ w1 (Kd.C_below E0.out hb1) hq0 (Kd.C_below E1.out hb1) hq1 FR.out.2.2.2.1
              · intro w1 hb1; exact term_Compare.calls _ _ _ a.f1 _ _ _ b.f1 _ w1 (Kd.C_below E0.out hb1) hq0 (Kd.C_below E1.out hb1) hq1 FR.out.2.2.1
              · intro w1 hb1; exact term_Size.calls _ _ _ a.f1 _ w1 (Kd.C_below E0.out hb1) hq0 FR.out.1
              · intro w1 hb1; exact term_Top.calls kt _ _ _ a.f1 _ w1 (Kd.C_below E0.out hb1) hq0 FR.out.2.2.2.2.1
              · intro w1 hb1; exact term_Count.calls _ _ _ a.f1 f _ w1 (Kd.C_below E0.out hb1) hq0 FR.out.2.1
              · intro w1 hb1; exact (term_Clone.calls kc _ _ _ a.f1 _ _ w1 (Kd.C_below E0.out hb1) hq0 FR.out.2.2.2.2.2.1).mono (fun e w2 ⟨v1, h1, h2, h3⟩ => ⟨_, h1, TermTold.of h2, h3⟩)
              · intro w1 Ac cc hb1 hl hC; exact (soriteslaw06_To.calls kT _ _ _ (cloneT a).f1 _ _ w1 hC hl FR.out.2.2.2.2.2.2.1).mono (fun e w2 ⟨v1, h1, h2, h3⟩ => ⟨_, h1, TermTold.of h2, h3⟩)
              · intro w1 Ac cc hb1 hl hC; exact soritesref06_Same.calls kS _ _ _ (cloneT (cloneT a)).f1 _ _ _ a.f1 true w1 hC hl (Kd.C_below EA.out hb1) hc FR.out.2.2.2.2.2.2.2
              intro v w9 hb9 hv47
              simp only [layL, Nat.reduceAdd, List.setIfInBounds_toArray, List.set_cons_zero, List.set_cons_succ, hv47]
              clear hv47
              have HB9 := Aside0.mk (HB0.out.trans ((hbw.trans (hb9.mono hbw.size)).mono HB0.out.size))
              clear hb9 hbw
              generalize v 0 = pf0
              generalize v 1 = pf1
              generalize v 2 = pf2
              generalize v 3 = pf3
              generalize v 4 = pf4
              generalize v 5 = pf5
              generalize v 6 = pf6
              generalize v 7 = pf7
              generalize v 8 = pf8
              generalize v 9 = pf9
              generalize v 10 = pf10
              generalize v 11 = pf11
              generalize v 12 = pf12
              generalize v 13 = pf13
              generalize v 14 = pf14
              generalize v 15 = pf15
              generalize v 16 = pf16
              generalize v 17 = pf17
              generalize v 18 = pf18
              generalize v 19 = pf19
              generalize v 20 = pf20
              generalize v 21 = pf21
              generalize v 22 = pf22
              generalize v 23 = pf23
              generalize v 24 = pf24
              generalize v 25 = pf25
              generalize v 26 = pf26
              generalize v 27 = pf27
              generalize v 28 = pf28
              generalize v 29 = pf29
              generalize v 30 = pf30
              generalize v 31 = pf31
              generalize v 32 = pf32
              generalize v 33 = pf33
              generalize v 34 = pf34
              generalize v 35 = pf35
              generalize v 36 = pf36
              generalize v 37 = pf37
              generalize v 38 = pf38
              generalize v 39 = pf39
              generalize v 40 = pf40
              generalize v 41 = pf41
              generalize v 42 = pf42
              generalize v 43 = pf43
              generalize v 44 = pf44
              generalize v 45 = pf45
              generalize v 46 = pf46
              clear v
              go_wp2
              go_ret
              exact ⟨rfl, HB9.out⟩
    · subst hcm
      have FE := Aside0.mk (And.intro (show soritesref06_Same.f ks a.f0 a.f1 b.f0 b.f1 = some false from es) (And.intro (show soritesref06_Less.f kl a.f0 a.f1 b.f0 b.f1 = some false from el) (And.intro ef hnl)))
      clear es el ef
      go_wp2_with (first | (go_at_call 26; refine (soritesref06_Flat.calls kf a.f0 (fun _ => True) A c a.f1 ns u2 (Kd.V_mk hc (Kd.F_mono (F_old k24_heap HA.out.1 HU2.out) (fun _ _ => trivial))) FE.out.2.2.1).mono ?_; rintro e w5 ⟨v0, rfl, hN, hb⟩; obtain ⟨Al, cl, hv0, hlc, hCl⟩ := Kd.N_reads hN; subst hv0; have HB5 := Aside0.mk (HU2.out.trans (hb.mono HU2.out.size)); have HCl := Aside0.mk hCl; clear hN hlc hCl hb) | (go_at_call 47; refine (soritesref06_Less.calls kl _ _ _ a.f1 _ _ _ b.f1 false u1 (Kd.C_below HA.out.1 HU1.out) hc (Kd.C_below HA.out.2 HU1.out) hc' FE.out.2.1).mono ?_; rintro e u2 ⟨rfl, hb⟩; have HU2 := Aside0.mk (HU1.out.trans (hb.mono HU1.out.size)); have u2c00 : u2.cell? ⟨h0, 0, none⟩ = some (.int .i64 a.f0) := (blk_cell (blk_below HX0.out HU2.out) 0).trans rfl; have u2c01 : u2.cell? ⟨h0, 1, none⟩ = some (.slice X0 a.f1.length q0) := (blk_cell (blk_below HX0.out HU2.out) 1).trans rfl; have u2c10 : u2.cell? ⟨h1, 0, none⟩ = some (.int .i64 b.f0) := (blk_cell (blk_below HX1.out HU2.out) 0).trans rfl; have u2c11 : u2.cell? ⟨h1, 1, none⟩ = some (.slice X1 b.f1.length q1) := (blk_cell (blk_below HX1.out HU2.out) 1).trans rfl; have u2c20 : u2.cell? ⟨w.heap.size, 0, none⟩ = some (.int .i64 a.f0) := (blk_cell (blk_below HG.out.1 HU2.out) 0).trans rfl; have u2c21 : u2.cell? ⟨w.heap.size, 1, none⟩ = some (.slice A a.f1.length c) := (blk_cell (blk_below HG.out.1 HU2.out) 1).trans rfl; have u2c30 : u2.cell? ⟨w.heap.size + 1, 0, none⟩ = some (.int .i64 b.f0) := (blk_cell (blk_below HG.out.2 HU2.out) 0).trans rfl; have u2c31 : u2.cell? ⟨w.heap.size + 1, 1, none⟩ = some (.slice A' b.f1.length c') := (blk_cell (blk_below HG.out.2 HU2.out) 1).trans rfl; clear hb) | (go_at_call 28; refine (soritesref06_Same.calls ks _ _ _ a.f1 _ _ _ b.f1 false w3 HA.out.1 hc HA.out.2 hc' FE.out.1).mono ?_; rintro e u1 ⟨rfl, hb⟩; have HU1 := Aside0.mk hb; have u1c00 : u1.cell? ⟨h0, 0, none⟩ = some (.int .i64 a.f0) := (blk_cell (blk_below HX0.out HU1.out) 0).trans rfl; have u1c01 : u1.cell? ⟨h0, 1, none⟩ = some (.slice X0 a.f1.length q0) := (blk_cell (blk_below HX0.out HU1.out) 1).trans rfl; have u1c10 : u1.cell? ⟨h1, 0, none⟩ = some (.int .i64 b.f0) := (blk_cell (blk_below HX1.out HU1.out) 0).trans rfl; have u1c11 : u1.cell? ⟨h1, 1, none⟩ = some (.slice X1 b.f1.length q1) := (blk_cell (blk_below HX1.out HU1.out) 1).trans rfl; have u1c20 : u1.cell? ⟨w.heap.size, 0, none⟩ = some (.int .i64 a.f0) := (blk_cell (blk_below HG.out.1 HU1.out) 0).trans rfl; have u1c21 : u1.cell? ⟨w.heap.size, 1, none⟩ = some (.slice A a.f1.length c) := (blk_cell (blk_below HG.out.1 HU1.out) 1).trans rfl; have u1c30 : u1.cell? ⟨w.heap.size + 1, 0, none⟩ = some (.int .i64 b.f0) := (blk_cell (blk_below HG.out.2 HU1.out) 0).trans rfl; have u1c31 : u1.cell? ⟨w.heap.size + 1, 1, none⟩ = some (.slice A' b.f1.length c') := (blk_cell (blk_below HG.out.2 HU1.out) 1).trans rfl; clear hb))
      have hnl0 := FE.out.2.2.2
      have HX0' := Aside0.mk (blk_below HX0.out HB5.out)
      have HX1' := Aside0.mk (blk_below HX1.out HB5.out)
      have HG' := Aside0.mk (blk_below HG.out.1 HB5.out)
      have D0 := Aside0.mk (Kd.C_below HC0.out HB5.out)
      have D1 := Aside0.mk (Kd.C_below HC1.out HB5.out)
      have DA := Aside0.mk (Kd.C_below HA.out.1 HB5.out)
      have HB0 := Aside0.mk (HB3.out.trans (HB5.out.mono HB3.out.size))
      clear FE HX0 HX1 HG HC0 HC1 HA HB3 k20 k21 k30_ k31 HU1 HU2
      go_loopw [11, 12] (fun cv i wr => ∃ k : Nat, k ≤ ns.length ∧ i = .int .i64 k ∧ cv = .int .i64 (countN f (ns.take k) : Int) ∧ Aside0 (Below w5.heap.size w5 wr)) (fun cv i wr => ns.length - (intOf i).toNat)
      case atStart => exact ⟨0, Nat.zero_le _, rfl, rfl, ⟨Below.refl _ _⟩⟩
      case round =>
        obtain ⟨k, hk, rfl, rfl, hb⟩ := hrel
        by_cases hlt : k < ns.length
        · obtain ⟨ad, A1, c1, hAl, hx0, _, _, _⟩ := at_T24 (Kd.C_below HCl.out hb.out) (k : Int) (by omega) (by omega)
          subst hAl
          rw [show rd_T24 ns (k : Int) = ns[k] from rdC_at ns k hlt] at hx0
          rw [Int.toNat_natCast] at hx0
          have htk : countN f (ns.take (k + 1)) = countN f (ns.take k) + (if ns[k].f0 = f then 1 else 0) := by
            rw [List.take_succ_eq_append_getElem hlt, countN_append]
            congr 1
            unfold countN
            by_cases he : ns[k].f0 = f
            · simp [he]
            · simp [he]
          have hcl := countN_le f (ns.take k)
          rw [List.length_take] at hcl
          generalize ns[k].f0 = g0 at hx0 htk
          obtain ⟨cn, hcn⟩ : ∃ x, x = countN f (ns.take k) := ⟨_, rfl⟩
          rw [← hcn] at htk hcl
          simp only [← hcn]
          have HTK := Aside0.mk htk
          have HCN := Aside0.mk hcn
          have HCL := Aside0.mk hcl
          clear htk hcn hcl
          have hu24 := Try.underlying24
          have hu22 := Try.underlying22
          by_cases he : g0 = f
          · have hd : (g0 == f) = true := by simpa using he
            go_wp2
            go_roundw
            case rel => exact ⟨k + 1, by omega, by go_num, by (have h9 := HCL.out; rw [HTK.out, if_pos he]; first | (rw [w64 _ (by omega)]; rfl) | (rw [i64_w, w64 _ (by omega)]; rfl)), hb⟩
            case measure => simp [intOf]; omega
          · have hd : (g0 == f) = false := by simpa using he
            go_wp2
            go_roundw
            case rel => exact ⟨k + 1, by omega, by go_num, by rw [HTK.out, if_neg he]; rfl, hb⟩
            case measure => simp [intOf]; omega
        · have hke : k = ns.length := by omega
          subst hke
          simp only [List.take_length]
          go_wp2
          refine TermIs_r18 (ga := h0) (gc := w.heap.size) (V := V) (by kernel_rfl) rfl (blk_below HX0'.out hb.out) rfl (blk_below HG'.out hb.out) ?_ ?_ ?_
          · intro w1 hb1; exact (term_Vars.calls _ _ _ a.f1 V w1 (Kd.C_below (Kd.C_below D0.out hb.out) hb1) hq0 FV.out.2).mono (fun e w2 ⟨v1, h1, h2, h3⟩ => ⟨v1, h1, RowTold.of h2, h3⟩)
          · intro w1 hb1; exact (soritesref06_Vars.calls kv _ _ _ a.f1 V w1 (Kd.C_below (Kd.C_below DA.out hb.out) hb1) hc FV.out.1).mono (fun e w2 ⟨v1, h1, h2, h3⟩ => ⟨v1, h1, RowTold.of h2, h3⟩)
          intro v w6 Av cv Aw cw hb6 hv4 hv5 hl1 hl2 hC1 hC2
          simp only [layL, Nat.reduceAdd, List.setIfInBounds_toArray, List.set_cons_zero, List.set_cons_succ, hv4, hv5]
          clear hv4 hv5
          generalize v 0 = p0
          generalize v 1 = p1
          generalize v 2 = p2
          generalize v 3 = p3
          clear v
          have HCv := Aside0.mk (And.intro hC1 hC2)
          have HB6 := Aside0.mk (hb.out.trans (hb6.mono hb.out.size))
          clear hl1 hl2 hC1 hC2 hb6
          go_wp2
          go_loopw [15, 16] (fun tv i wr2 => ∃ k : Nat, k ≤ V.length ∧ i = .int .i64 k ∧ tv = .int .i64 ((V.take k).foldl mx (-1)) ∧ Aside0 (Below w6.heap.size w6 wr2)) (fun tv i wr2 => V.length - (intOf i).toNat)
          case atStart => exact ⟨0, Nat.zero_le _, rfl, rfl, ⟨Below.refl _ _⟩⟩
          case round =>
            obtain ⟨k, hk, rfl, rfl, hb7⟩ := hrel
            by_cases hlt : k < V.length
            · obtain ⟨av, cc, hAv, hcc0, hK, hcc⟩ := ReadsRow.get_ (Kd.C_below HCv.out.1 hb7.out) 0 (k : Int) (by omega) (by omega)
              obtain ⟨aw, dd, hAw, hdd0, hL, hdd⟩ := ReadsRow.get_ (Kd.C_below HCv.out.2 hb7.out) 0 (k : Int) (by omega) (by omega)
              subst hAv hAw
              have hK' : cc = [.int .i64 (V.getD (k : Int).toNat 0)] := hK
              have hL' : dd = [.int .i64 (V.getD (k : Int).toNat 0)] := hL
              subst hK' hL'
              rw [Int.toNat_natCast] at hcc hdd
              obtain ⟨x, hx⟩ : ∃ x, x = V.getD k 0 := ⟨_, rfl⟩
              rw [← hx] at hcc hdd
              have hcv : wr.cell? (av.add k) = some (.int .i64 x) := by have h9 := hcc 0 _ rfl; rw [show (Kd.int .i64).sz = 1 from rfl, Nat.mul_one, Nat.add_zero] at h9; exact h9
              have hcw : wr.cell? (aw.add k) = some (.int .i64 x) := by have h9 := hdd 0 _ rfl; rw [show (Kd.int .i64).sz = 1 from rfl, Nat.mul_one, Nat.add_zero] at h9; exact h9
              have htk : (V.take (k + 1)).foldl mx (-1) = mx ((V.take k).foldl mx (-1)) x := by
                rw [List.take_succ_eq_append_getElem hlt, List.foldl_append, hx, List.getD_eq_getElem?_getD, List.getElem?_eq_getElem hlt]
                rfl
              obtain ⟨tk, htk0⟩ : ∃ y, y = (V.take k).foldl mx (-1) := ⟨_, rfl⟩
              rw [← htk0] at htk
              simp only [← htk0]
              have HTK2 := Aside0.mk htk
              have HCW := Aside0.mk hcw
              have HTK0 := Aside0.mk htk0
              clear hcc hdd hcc0 hdd0 hx htk htk0
              go_wp2
              refine TermIs_r23 (Av := av) (Aw := aw) (nv := V.length) (i := (k : Int)) (x := x) (by kernel_rfl) rfl rfl rfl (by omega) (by omega) (decide_eq_false (by omega)) (by rw [Int.toNat_natCast]; exact hcv) (by rw [Int.toNat_natCast]; exact HCW.out) ?_
              intro v w8 hb8 hv14
              simp only [layL, Nat.reduceAdd, List.setIfInBounds_toArray, List.set_cons_zero, List.set_cons_succ, hv14]
              clear hv14 hcv hcw
              generalize v 0 = pr0
              generalize v 1 = pr1
              generalize v 2 = pr2
              generalize v 3 = pr3
              generalize v 4 = pr4
              generalize v 5 = pr5
              generalize v 6 = pr6
              generalize v 7 = pr7
              generalize v 8 = pr8
              generalize v 9 = pr9
              generalize v 10 = pr10
              generalize v 11 = pr11
              generalize v 12 = pr12
              generalize v 13 = pr13
              clear v
              have hcw8 := (hb8.cell (cell_lt' HCW.out)).trans HCW.out
              have HB8 := Aside0.mk (hb7.out.trans (hb8.mono hb7.out.size))
              clear hb8
              go_wp2
              go_roundw
              case rel => exact ⟨k + 1, by omega, by go_num, by (rw [HTK2.out]; rfl), HB8⟩
              case measure => simp [intOf]; omega
            · have hke : k = V.length := by omega
              subst hke
              simp only [List.take_length]
              go_wp2
              have hbw := HB6.out.trans (hb7.out.mono HB6.out.size)
              have E0 := Aside0.mk (Kd.C_below D0.out hbw)
              have E1 := Aside0.mk (Kd.C_below D1.out hbw)
              have EA := Aside0.mk (Kd.C_below DA.out hbw)
              refine TermIs_r26 (f := f) (k := 1) (s := false) (tp := V.foldl mx (-1)) (ga := h0) (gb := h1) (gc := w.heap.size) (nl := ns.length) (cn := countN f ns) (cf := (cloneT a).f0) (cs := (cloneT a).f1) (df := (cloneT (cloneT a)).f0) (ds := (cloneT (cloneT a)).f1) (by kernel_rfl) rfl rfl rfl rfl rfl rfl rfl rfl (blk_below HX0'.out hbw) rfl (blk_below HX1'.out hbw) rfl (blk_below HG'.out hbw) ?_ ?_ ?_ ?_ ?_ ?_ (by decide) ?_ ?_ ?_
              · intro w1 hb1; exact term_Same.calls _ _ _ a.f1 _ _ _ b.f1 _ w1 (Kd.C_below E0.out hb1) hq0 (Kd.C_below E1.out hb1) hq1 FR.out.2.2.2.1
              · intro w1 hb1; exact term_Compare.calls _ _ _ a.f1 _ _ _ b.f1 _ w1 (Kd.C_below E0.out hb1) hq0 (Kd.C_below E1.out hb1) hq1 FR.out.2.2.1
              · intro w1 hb1; exact term_Size.calls _ _ _ a.f1 _ w1 (Kd.C_below E0.out hb1) hq0 FR.out.1
              · intro w1 hb1; exact term_Top.calls kt _ _ _ a.f1 _ w1 (Kd.C_below E0.out hb1) hq0 FR.out.2.2.2.2.1
              · intro w1 hb1; exact term_Count.calls _ _ _ a.f1 f _ w1 (Kd.C_below E0.out hb1) hq0 FR.out.2.1
              · intro w1 hb1; exact (term_Clone.calls kc _ _ _ a.f1 _ _ w1 (Kd.C_below E0.out hb1) hq0 FR.out.2.2.2.2.2.1).mono (fun e w2 ⟨v1, h1, h2, h3⟩ => ⟨_, h1, TermTold.of h2, h3⟩)
              · intro w1 Ac cc hb1 hl hC; exact (soriteslaw06_To.calls kT _ _ _ (cloneT a).f1 _ _ w1 hC hl FR.out.2.2.2.2.2.2.1).mono (fun e w2 ⟨v1, h1, h2, h3⟩ => ⟨_, h1, TermTold.of h2, h3⟩)
              · intro w1 Ac cc hb1 hl hC; exact soritesref06_Same.calls kS _ _ _ (cloneT (cloneT a)).f1 _ _ _ a.f1 true w1 hC hl (Kd.C_below EA.out hb1) hc FR.out.2.2.2.2.2.2.2
              intro v w9 hb9 hv47
              simp only [layL, Nat.reduceAdd, List.setIfInBounds_toArray, List.set_cons_zero, List.set_cons_succ, hv47]
              clear hv47
              have HB9 := Aside0.mk (HB0.out.trans ((hbw.trans (hb9.mono hbw.size)).mono HB0.out.size))
              clear hb9 hbw
              generalize v 0 = pf0
              generalize v 1 = pf1
              generalize v 2 = pf2
              generalize v 3 = pf3
              generalize v 4 = pf4
              generalize v 5 = pf5
              generalize v 6 = pf6
              generalize v 7 = pf7
              generalize v 8 = pf8
              generalize v 9 = pf9
              generalize v 10 = pf10
              generalize v 11 = pf11
              generalize v 12 = pf12
              generalize v 13 = pf13
              generalize v 14 = pf14
              generalize v 15 = pf15
              generalize v 16 = pf16
              generalize v 17 = pf17
              generalize v 18 = pf18
              generalize v 19 = pf19
              generalize v 20 = pf20
              generalize v 21 = pf21
              generalize v 22 = pf22
              generalize v 23 = pf23
              generalize v 24 = pf24
              generalize v 25 = pf25
              generalize v 26 = pf26
              generalize v 27 = pf27
              generalize v 28 = pf28
              generalize v 29 = pf29
              generalize v 30 = pf30
              generalize v 31 = pf31
              generalize v 32 = pf32
              generalize v 33 = pf33
              generalize v 34 = pf34
              generalize v 35 = pf35
              generalize v 36 = pf36
              generalize v 37 = pf37
              generalize v 38 = pf38
              generalize v 39 = pf39
              generalize v 40 = pf40
              generalize v 41 = pf41
              generalize v 42 = pf42
              generalize v 43 = pf43
              generalize v 44 = pf44
              generalize v 45 = pf45
              generalize v 46 = pf46
              clear v
              go_wp2
              go_ret
              exact ⟨rfl, HB9.out⟩
end Go.Proofs.Ytpfddihcikiofaa.P
end

section
namespace Go.Proofs.Ytpfddihcikiofaa.termIs
open Go.ChangeShapes Go.WideShapes Go.ChangeAt Go.RowKit
set_option linter.unusedVariables false
theorem own : ownKnob Try.prog.godebug = none := by kernel_rfl
theorem laidOut : laidOutB Try.prog = true := by kernel_rfl
set_option maxRecDepth 100000 in
theorem lifted (os : Os) (started : os.Started) (H : Type) (enc : TypeId × Value → H) :
    ReturnsInHanded {} Try.checked os 9 .any (Rows.termIsSpec.pre6 enc Try.prog Try.f9 Rows.termIsRow.domain false) (Rows.termIsSpec.post enc Try.prog Try.f9 false true false false) := by
  refine returnsInHanded_of_change_sized (C := Try.checked) own started (by kernel_rfl) Try.func9
    (ChangeSpec.witness6 (enc := enc) (C := Try.checked) false ⟨#[], #[.agg #[.int .i64 0, .slice none 0 0], .agg #[.int .i64 0, .slice none 0 0], .int .i64 0], []⟩ 8 (by kernel_rfl) (by kernel_rfl) (by kernel_rfl) (by kernel_rfl)) ?_
  intro W base args ds gs before hval0 hW hcnd hsz0 _
  have hval : ∀ (j : Nat) t v, Try.f9.params[j]? = some t → args[j]? = some v → Value.okWide Try.prog W .any base t v := hval0
  have hW' := hW
  obtain ⟨p, q, hA0, hV, rfl, hfz, hnd⟩ := hW
  have hA : DataW.TrodAll enc Try.prog W 0 (fun _ => true) true Try.f9.params.toList args.toList ds p := hA0
  rw [Try.params9] at hA hval
  obtain ⟨v0, vs0, d0, ds0, p0, q0, hargs, rfl, rfl, h0, r0⟩ := trodAll_cons hA
  obtain ⟨v1, vs1, d1, ds1, p1, q1, rfl, rfl, rfl, h1, r1⟩ := trodAll_cons r0
  obtain ⟨v2, vs2, d2, ds2, p2, q2, rfl, rfl, rfl, h2, r2⟩ := trodAll_cons r1
  obtain ⟨rfl, rfl, rfl⟩ := trodAll_nil r2
  obtain rfl : args = #[v0, v1, v2] := by cases args; simp_all
  obtain ⟨rfl, rfl⟩ := trodVars_none hV
  have k0 := h0
  have lt0 : ∀ x ∈ p0, x.block < W.heap.size := by obtain ⟨m, hm⟩ := k0; exact DataW.trod_lt m _ _ _ hm
  obtain ⟨t0, A0, c0, rfl, hc0, hC0, hw0⟩ := P.open_T (hval 0 24 v0 rfl rfl) h0
  have k1 := h1
  have lt1 : ∀ x ∈ p1, x.block < W.heap.size := by obtain ⟨m, hm⟩ := k1; exact DataW.trod_lt m _ _ _ hm
  obtain ⟨t1, A1, c1, rfl, hc1, hC1, hw1⟩ := P.open_T (hval 1 24 v1 rfl rfl) h1
  obtain ⟨a2, rfl, rfl, rfl, w2⟩ := open_int Try.underlying3 (hval 2 3 v2 rfl rfl) h2
  clear hA0 hval0 hsz0
  refine (P.TermIs_walk t0 t1 a2 A0 c0 A1 c1 W (by have := w2; simp only [Lit.wf, IntKind.min, IntKind.max, IntKind.signed, IntKind.bits, Bool.and_eq_true, decide_eq_true_eq, if_true] at this; omega) hC0 hc0 hC1 hc1).mono fun e W' ⟨he, bel⟩ => ?_
  subst he
  exact ⟨_, rfl, _, _, _, [], _, [], hW', trodAll_mk1 (shut_bool Try.underlying4 _), (trodAll_cons_mk (Below.trod laidOut (by kernel_rfl) (of_decide_eq_true (by kernel_rfl)) k0 bel lt0) (trodAll_cons_mk (Below.trod laidOut (by kernel_rfl) (of_decide_eq_true (by kernel_rfl)) k1 bel lt1) (trodAll_cons_mk (shut_int Try.underlying3 w2) trodAll_mk0))), rfl, bel.frame _, fun h => by cases h⟩
theorem over : Rows.termIsRow.holds Try.pinned (OpenSpec.ofChange Rows.termIsSpec) :=
  OpenClaim.holds_of_wide 9 Try.f9 rfl rfl rfl rfl rfl rfl rfl ⟨rfl, rfl, rfl, rfl, rfl⟩ rfl rfl rfl rfl rfl (by kernel_rfl) Try.func9 (by kernel_rfl)
    (of_decide_eq_true (by kernel_rfl)) (by unfold Func.isWrapper; first | (rw [if_pos (by decide +kernel)]; kernel_rfl) | (rw [if_neg (by decide +kernel)]; exact ⟨rfl, rfl⟩))
    (fun os started H enc _ => lifted os started H enc)
end Go.Proofs.Ytpfddihcikiofaa.termIs
namespace Go.Proofs.Ytpfddihcikiofaa
theorem termIs_holds : Rows.TermIsSaid := termIs.over
#print axioms termIs_holds
end Go.Proofs.Ytpfddihcikiofaa
end
