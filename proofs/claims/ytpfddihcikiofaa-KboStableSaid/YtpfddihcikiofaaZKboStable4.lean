/- The law KboStable holds of every input. Part 4 of 6: GCompare, PxTermSame, GCmp, GLaw06, GCovers, GSpec, GPutRegs, GPut. -/
import Derived.Test.YtpfddihcikiofaaZKboStable2
import Derived.Test.YtpfddihcikiofaaZKboStable3
import Derived.Maps.OwnOps
import Derived.Maps.RangeWalk
import Derived.Test.YtpfddihcikiofaaZKboStable1
section
namespace Go.Proofs.Ytpfddihcikiofaa.P
open Go.RowKit Go.Proofs.YtpfddihcikiofaaW.PrintWords Go.Proofs.YtpfddihcikiofaaW.PrintLast Go.Proofs.YtpfddihcikiofaaW.PrintMore
set_option linter.unusedVariables false
set_option linter.unusedSimpArgs false
def cmpI (a b : Int) : Int := if a < b then -1 else if a > b then 1 else 0
def orI (a b c : Int) : Int := if a = 0 then (if b = 0 then c else b) else a
mutual
def cmpT : S30 → S30 → Int
  | ⟨f, l⟩, ⟨g, m⟩ => if f < 0 ∨ g < 0 then (if f < 0 ∧ g < 0 then cmpI g f else cmpI f g) else orI (cmpI f g) (cmpI l.length m.length) (cmpTs l m)
def cmpTs : List S30 → List S30 → Int
  | [], [] => 0
  | [], _ :: _ => -1
  | _ :: _, [] => 1
  | x :: l, y :: m => if cmpT x y = 0 then cmpTs l m else cmpT x y
end
theorem isNaN_f (a : Int) : cmp_isNaN_int.f a = some false := by simp [cmp_isNaN_int.f]
theorem cmpI_f (a b : Int) : cmp_Compare_int.f a b = some (cmpI a b) := by
  simp only [cmp_Compare_int.f, isNaN_f, Option.bind_some, cmpI]
  simp
  split
  · rfl
  · split <;> rfl
theorem orI_f (a b c : Int) : Ev (fun k => cmp_Or_int.f k [a, b, c]) (orI a b c) := by
  refine ⟨4, fun k hk => ?_⟩
  obtain ⟨k, rfl⟩ : ∃ m, k = m + 4 := ⟨k - 4, by omega⟩
  simp only [cmp_Or_int.f, cmp_Or_int.l0, rd, List.length_cons, List.length_nil, orI, wrap64]
  simp
  by_cases ha : a = 0
  · simp [ha]
    by_cases hb : b = 0
    · simp [hb]
      by_cases hc : c = 0
      · simp [hc]
      · simp [hc]
    · simp [hb]
  · simp [ha]
def term_Compare.f (a0_0 : Int) (l0_1 : List S30) (a1_0 : Int) (l1_1 : List S30) : Option Int := some (cmpT ⟨a0_0, l0_1⟩ ⟨a1_0, l1_1⟩)
set_option maxHeartbeats 4000000 in
set_option maxRecDepth 100000 in
theorem Compare_r5 {id : Nat} {a : Act} {w : World} {Q : Exit → Act → World → Prop} {f g c1 c2 c3 r : Int} {A B : Option Addr} {nl nm c e g0 g1 : Nat}
    (hr : regionOk #[{ dst := some 31, op := Op.fieldAddr 30 (Operand.tmp 2) 0, type := 0, pos := "term.go:32", after := #[], guard := none }, { dst := some 32, op := Op.load 3 (Operand.tmp 31), type := 3, pos := "term.go:32", after := #[{ on := 0, ground := Ground.data }], guard := none }, { dst := some 33, op := Op.fieldAddr 30 (Operand.tmp 3) 0, type := 0, pos := "term.go:32", after := #[], guard := none }, { dst := some 34, op := Op.load 3 (Operand.tmp 33), type := 3, pos := "term.go:32", after := #[{ on := 2, ground := Ground.data }], guard := none }, { dst := some 35, op := Op.call { callee := Callee.value (Operand.func 76), args := #[Operand.tmp 32, Operand.tmp 34], argTypes := #[3, 3] }, type := 3, pos := "term.go:32", after := #[{ on := 1, ground := Ground.data }, { on := 3, ground := Ground.data }], guard := none }, { dst := some 36, op := Op.fieldAddr 30 (Operand.tmp 2) 1, type := 0, pos := "term.go:32", after := #[], guard := none }, { dst := some 37, op := Op.load 28 (Operand.tmp 36), type := 28, pos := "term.go:32", after := #[{ on := 5, ground := Ground.data }], guard := none }, { dst := some 38, op := Op.call { callee := Callee.builtin Builtin.len, args := #[Operand.tmp 37], argTypes := #[28] }, type := 3, pos := "term.go:32", after := #[{ on := 6, ground := Ground.data }], guard := none }, { dst := some 39, op := Op.fieldAddr 30 (Operand.tmp 3) 1, type := 0, pos := "term.go:32", after := #[], guard := none }, { dst := some 40, op := Op.load 28 (Operand.tmp 39), type := 28, pos := "term.go:32", after := #[{ on := 8, ground := Ground.data }], guard := none }, { dst := some 41, op := Op.call { callee := Callee.builtin Builtin.len, args := #[Operand.tmp 40], argTypes := #[28] }, type := 3, pos := "term.go:32", after := #[{ on := 9, ground := Ground.data }], guard := none }, { dst := some 42, op := Op.call { callee := Callee.value (Operand.func 76), args := #[Operand.tmp 38, Operand.tmp 41], argTypes := #[3, 3] }, type := 3, pos := "term.go:32", after := #[{ on := 7, ground := Ground.data }, { on := 10, ground := Ground.data }, { on := 4, ground := Ground.chain }], guard := none }, { dst := some 43, op := Op.fieldAddr 30 (Operand.tmp 2) 1, type := 0, pos := "term.go:32", after := #[], guard := none }, { dst := some 44, op := Op.load 28 (Operand.tmp 43), type := 28, pos := "term.go:32", after := #[{ on := 12, ground := Ground.data }], guard := none }, { dst := some 45, op := Op.fieldAddr 30 (Operand.tmp 3) 1, type := 0, pos := "term.go:32", after := #[], guard := none }, { dst := some 46, op := Op.load 28 (Operand.tmp 45), type := 28, pos := "term.go:32", after := #[{ on := 14, ground := Ground.data }], guard := none }, { dst := some 47, op := Op.call { callee := Callee.value (Operand.func 78), args := #[Operand.tmp 44, Operand.tmp 46, Operand.func 36], argTypes := #[28, 28, 49] }, type := 3, pos := "term.go:32", after := #[{ on := 13, ground := Ground.data }, { on := 15, ground := Ground.data }, { on := 11, ground := Ground.chain }], guard := none }, { dst := some 48, op := Op.buildSlice 25 3 #[(0, Operand.tmp 35), (1, Operand.tmp 42), (2, Operand.tmp 47)], type := 25, pos := "term.go:32", after := #[{ on := 4, ground := Ground.data }, { on := 11, ground := Ground.data }, { on := 16, ground := Ground.data }], guard := none }, { dst := some 49, op := Op.call { callee := Callee.value (Operand.func 77), args := #[Operand.tmp 48], argTypes := #[25] }, type := 3, pos := "term.go:32", after := #[{ on := 17, ground := Ground.data }, { on := 16, ground := Ground.chain }], guard := none }, { dst := some 4, op := Op.assign (Operand.tmp 49), type := 3, pos := "term.go:32", after := #[{ on := 18, ground := Ground.data }, { on := 18, ground := Ground.chain }, { on := 0, ground := Ground.phase }, { on := 1, ground := Ground.phase }, { on := 2, ground := Ground.phase }, { on := 3, ground := Ground.phase }, { on := 4, ground := Ground.phase }, { on := 5, ground := Ground.phase }, { on := 6, ground := Ground.phase }, { on := 7, ground := Ground.phase }, { on := 8, ground := Ground.phase }, { on := 9, ground := Ground.phase }, { on := 10, ground := Ground.phase }, { on := 11, ground := Ground.phase }, { on := 12, ground := Ground.phase }, { on := 13, ground := Ground.phase }, { on := 14, ground := Ground.phase }, { on := 15, ground := Ground.phase }, { on := 16, ground := Ground.phase }, { on := 17, ground := Ground.phase }, { on := 18, ground := Ground.phase }], guard := none }] a.tmps.size = true)
    (hT2 : a.tmps.getD 2 undef = .pointer (some ⟨g0, 0, none⟩)) (hX2 : w.heap[g0]? = some (.cells #[.int .i64 f, .slice A nl c] 30 (0, 0)))
    (hT3 : a.tmps.getD 3 undef = .pointer (some ⟨g1, 0, none⟩)) (hX3 : w.heap[g1]? = some (.cells #[.int .i64 g, .slice B nm e] 30 (0, 0)))
    (hF4 : ∀ w1, Below w.heap.size w w1 → Calls Try.prog 76 #[.int .i64 f, .int .i64 g] w1 fun e w2 => e = .returned (.int .i64 c1) ∧ Below w1.heap.size w1 w2)
    (hF11 : ∀ w1, Below w.heap.size w w1 → Calls Try.prog 76 #[.int .i64 (nl : Int), .int .i64 (nm : Int)] w1 fun e w2 => e = .returned (.int .i64 c2) ∧ Below w1.heap.size w1 w2)
    (hF16 : ∀ w1, Below w.heap.size w w1 → Calls Try.prog 78 #[.slice A nl c, .slice B nm e, .func (.func 36) #[] #[]] w1 fun e w2 => e = .returned (.int .i64 c3) ∧ Below w1.heap.size w1 w2)
    (hO : ∀ (w1 : World) (gs : Nat), w1.heap[gs]? = some (.cells #[.int .i64 c1, .int .i64 c2, .int .i64 c3] 3 (0, 0)) → Calls Try.prog 77 #[.slice (some ⟨gs, 0, none⟩) 3 3] w1 fun x w2 => x = .returned (.int .i64 r) ∧ Below w1.heap.size w1 w2) (hle : nl ≤ c) (hme : nm ≤ e)
    (hK : ∀ v w', Below w.heap.size w w' → v 19 = .int .i64 r → Q .normal { tmps := layL [some 31, some 32, some 33, some 34, some 35, some 36, some 37, some 38, some 39, some 40, some 41, some 42, some 43, some 44, some 45, some 46, some 47, some 48, some 49, some 4] 0 v a.tmps, defers := a.defers } w') :
    (Code.region id #[{ dst := some 31, op := Op.fieldAddr 30 (Operand.tmp 2) 0, type := 0, pos := "term.go:32", after := #[], guard := none }, { dst := some 32, op := Op.load 3 (Operand.tmp 31), type := 3, pos := "term.go:32", after := #[{ on := 0, ground := Ground.data }], guard := none }, { dst := some 33, op := Op.fieldAddr 30 (Operand.tmp 3) 0, type := 0, pos := "term.go:32", after := #[], guard := none }, { dst := some 34, op := Op.load 3 (Operand.tmp 33), type := 3, pos := "term.go:32", after := #[{ on := 2, ground := Ground.data }], guard := none }, { dst := some 35, op := Op.call { callee := Callee.value (Operand.func 76), args := #[Operand.tmp 32, Operand.tmp 34], argTypes := #[3, 3] }, type := 3, pos := "term.go:32", after := #[{ on := 1, ground := Ground.data }, { on := 3, ground := Ground.data }], guard := none }, { dst := some 36, op := Op.fieldAddr 30 (Operand.tmp 2) 1, type := 0, pos := "term.go:32", after := #[], guard := none }, { dst := some 37, op := Op.load 28 (Operand.tmp 36), type := 28, pos := "term.go:32", after := #[{ on := 5, ground := Ground.data }], guard := none }, { dst := some 38, op := Op.call { callee := Callee.builtin Builtin.len, args := #[Operand.tmp 37], argTypes := #[28] }, type := 3, pos := "term.go:32", after := #[{ on := 6, ground := Ground.data }], guard := none }, { dst := some 39, op := Op.fieldAddr 30 (Operand.tmp 3) 1, type := 0, pos := "term.go:32", after := #[], guard := none }, { dst := some 40, op := Op.load 28 (Operand.tmp 39), type := 28, pos := "term.go:32", after := #[{ on := 8, ground := Ground.data }], guard := none }, { dst := some 41, op := Op.call { callee := Callee.builtin Builtin.len, args := #[Operand.tmp 40], argTypes := #[28] }, type := 3, pos := "term.go:32", after := #[{ on := 9, ground := Ground.data }], guard := none }, { dst := some 42, op := Op.call { callee := Callee.value (Operand.func 76), args := #[Operand.tmp 38, Operand.tmp 41], argTypes := #[3, 3] }, type := 3, pos := "term.go:32", after := #[{ on := 7, ground := Ground.data }, { on := 10, ground := Ground.data }, { on := 4, ground := Ground.chain }], guard := none }, { dst := some 43, op := Op.fieldAddr 30 (Operand.tmp 2) 1, type := 0, pos := "term.go:32", after := #[], guard := none }, { dst := some 44, op := Op.load 28 (Operand.tmp 43), type := 28, pos := "term.go:32", after := #[{ on := 12, ground := Ground.data }], guard := none }, { dst := some 45, op := Op.fieldAddr 30 (Operand.tmp 3) 1, type := 0, pos := "term.go:32", after := #[], guard := none }, { dst := some 46, op := Op.load 28 (Operand.tmp 45), type := 28, pos := "term.go:32", after := #[{ on := 14, ground := Ground.data }], guard := none }, { dst := some 47, op := Op.call { callee := Callee.value (Operand.func 78), args := #[Operand.tmp 44, Operand.tmp 46, Operand.func 36], argTypes := #[28, 28, 49] }, type := 3, pos := "term.go:32", after := #[{ on := 13, ground := Ground.data }, { on := 15, ground := Ground.data }, { on := 11, ground := Ground.chain }], guard := none }, { dst := some 48, op := Op.buildSlice 25 3 #[(0, Operand.tmp 35), (1, Operand.tmp 42), (2, Operand.tmp 47)], type := 25, pos := "term.go:32", after := #[{ on := 4, ground := Ground.data }, { on := 11, ground := Ground.data }, { on := 16, ground := Ground.data }], guard := none }, { dst := some 49, op := Op.call { callee := Callee.value (Operand.func 77), args := #[Operand.tmp 48], argTypes := #[25] }, type := 3, pos := "term.go:32", after := #[{ on := 17, ground := Ground.data }, { on := 16, ground := Ground.chain }], guard := none }, { dst := some 4, op := Op.assign (Operand.tmp 49), type := 3, pos := "term.go:32", after := #[{ on := 18, ground := Ground.data }, { on := 18, ground := Ground.chain }, { on := 0, ground := Ground.phase }, { on := 1, ground := Ground.phase }, { on := 2, ground := Ground.phase }, { on := 3, ground := Ground.phase }, { on := 4, ground := Ground.phase }, { on := 5, ground := Ground.phase }, { on := 6, ground := Ground.phase }, { on := 7, ground := Ground.phase }, { on := 8, ground := Ground.phase }, { on := 9, ground := Ground.phase }, { on := 10, ground := Ground.phase }, { on := 11, ground := Ground.phase }, { on := 12, ground := Ground.phase }, { on := 13, ground := Ground.phase }, { on := 14, ground := Ground.phase }, { on := 15, ground := Ground.phase }, { on := 16, ground := Ground.phase }, { on := 17, ground := Ground.phase }, { on := 18, ground := Ground.phase }], guard := none }] true).wp Try.prog Q a w := by
  have hmx : Try.prog.follows .mixedOrders = true := by kernel_rfl
  refine region_detR 20 hmx hr (by kernel_rfl) ?_
  refine DetR.is (o := { dst := some 31, op := Op.fieldAddr 30 (Operand.tmp 2) 0, type := 0, pos := "term.go:32", after := #[], guard := none }) (u := ?ux1) rfl (by decide) (fun T w' hb hd hB K hK => ?sx1) ?rx1
  case sx1 =>
    have e2 := (hB 2 (by kernel_rfl)).trans hT2
    have q2_0 : w'.cell? ⟨g0, 0, none⟩ = some (.int .i64 f) := (blk_cell (blk_below hX2 hb) 0).trans rfl
    have q2_1 : w'.cell? ⟨g0, 1, none⟩ = some (.slice A nl c) := (blk_cell (blk_below hX2 hb) 1).trans rfl
    rw [if_pos (wanted_none _ rfl)]
    clear hd hB
    go_simp
    exact hK _ (Below.refl _ _)
  refine DetR.is (o := { dst := some 32, op := Op.load 3 (Operand.tmp 31), type := 3, pos := "term.go:32", after := #[{ on := 0, ground := Ground.data }], guard := none }) (u := ?ux2) rfl (by decide) (fun T w' hb hd hB K hK => ?sx2) ?rx2
  case sx2 =>
    have e31 := hd 0 31 _ (by decide) (by kernel_rfl) rfl rfl
    replace e31 : T.getD 31 undef = _ := e31
    rw [if_pos (wanted_none _ rfl)]
    have q2_0 : w'.cell? ⟨g0, 0, none⟩ = some (.int .i64 f) := (blk_cell (blk_below hX2 hb) 0).trans rfl
    have q2_1 : w'.cell? ⟨g0, 1, none⟩ = some (.slice A nl c) := (blk_cell (blk_below hX2 hb) 1).trans rfl
    have q3_0 : w'.cell? ⟨g1, 0, none⟩ = some (.int .i64 g) := (blk_cell (blk_below hX3 hb) 0).trans rfl
    have q3_1 : w'.cell? ⟨g1, 1, none⟩ = some (.slice B nm e) := (blk_cell (blk_below hX3 hb) 1).trans rfl
    clear hd hB
    go_simp
    exact hK _ (Below.refl _ _)
  refine DetR.is (o := { dst := some 33, op := Op.fieldAddr 30 (Operand.tmp 3) 0, type := 0, pos := "term.go:32", after := #[], guard := none }) (u := ?ux3) rfl (by decide) (fun T w' hb hd hB K hK => ?sx3) ?rx3
  case sx3 =>
    have e3 := (hB 3 (by kernel_rfl)).trans hT3
    have q3_0 : w'.cell? ⟨g1, 0, none⟩ = some (.int .i64 g) := (blk_cell (blk_below hX3 hb) 0).trans rfl
    have q3_1 : w'.cell? ⟨g1, 1, none⟩ = some (.slice B nm e) := (blk_cell (blk_below hX3 hb) 1).trans rfl
    rw [if_pos (wanted_none _ rfl)]
    clear hd hB
    go_simp
    exact hK _ (Below.refl _ _)
  refine DetR.is (o := { dst := some 34, op := Op.load 3 (Operand.tmp 33), type := 3, pos := "term.go:32", after := #[{ on := 2, ground := Ground.data }], guard := none }) (u := ?ux4) rfl (by decide) (fun T w' hb hd hB K hK => ?sx4) ?rx4
  case sx4 =>
    have e33 := hd 2 33 _ (by decide) (by kernel_rfl) rfl rfl
    replace e33 : T.getD 33 undef = _ := e33
    rw [if_pos (wanted_none _ rfl)]
    have q2_0 : w'.cell? ⟨g0, 0, none⟩ = some (.int .i64 f) := (blk_cell (blk_below hX2 hb) 0).trans rfl
    have q2_1 : w'.cell? ⟨g0, 1, none⟩ = some (.slice A nl c) := (blk_cell (blk_below hX2 hb) 1).trans rfl
    have q3_0 : w'.cell? ⟨g1, 0, none⟩ = some (.int .i64 g) := (blk_cell (blk_below hX3 hb) 0).trans rfl
    have q3_1 : w'.cell? ⟨g1, 1, none⟩ = some (.slice B nm e) := (blk_cell (blk_below hX3 hb) 1).trans rfl
    clear hd hB
    go_simp
    exact hK _ (Below.refl _ _)
  refine DetR.is (o := { dst := some 35, op := Op.call { callee := Callee.value (Operand.func 76), args := #[Operand.tmp 32, Operand.tmp 34], argTypes := #[3, 3] }, type := 3, pos := "term.go:32", after := #[{ on := 1, ground := Ground.data }, { on := 3, ground := Ground.data }], guard := none }) (u := ?ux5) rfl (by decide) (fun T w' hb hd hB K hK => ?sx5) ?rx5
  case sx5 =>
    have e32 := hd 1 32 _ (by decide) (by kernel_rfl) rfl rfl
    replace e32 : T.getD 32 undef = _ := e32
    have e34 := hd 3 34 _ (by decide) (by kernel_rfl) rfl rfl
    replace e34 : T.getD 34 undef = _ := e34
    rw [if_pos (wanted_none _ rfl)]
    have hcl := hF4 w' hb
    clear hd hB
    go_simp
    go_at_call 76
    refine hcl.mono ?_
    rintro e w2 ⟨rfl, h2⟩
    exact hK _ h2
  refine DetR.is (o := { dst := some 36, op := Op.fieldAddr 30 (Operand.tmp 2) 1, type := 0, pos := "term.go:32", after := #[], guard := none }) (u := ?ux6) rfl (by decide) (fun T w' hb hd hB K hK => ?sx6) ?rx6
  case sx6 =>
    have e2 := (hB 2 (by kernel_rfl)).trans hT2
    have q2_0 : w'.cell? ⟨g0, 0, none⟩ = some (.int .i64 f) := (blk_cell (blk_below hX2 hb) 0).trans rfl
    have q2_1 : w'.cell? ⟨g0, 1, none⟩ = some (.slice A nl c) := (blk_cell (blk_below hX2 hb) 1).trans rfl
    rw [if_pos (wanted_none _ rfl)]
    clear hd hB
    go_simp
    exact hK _ (Below.refl _ _)
  refine DetR.is (o := { dst := some 37, op := Op.load 28 (Operand.tmp 36), type := 28, pos := "term.go:32", after := #[{ on := 5, ground := Ground.data }], guard := none }) (u := ?ux7) rfl (by decide) (fun T w' hb hd hB K hK => ?sx7) ?rx7
  case sx7 =>
    have e36 := hd 5 36 _ (by decide) (by kernel_rfl) rfl rfl
    replace e36 : T.getD 36 undef = _ := e36
    rw [if_pos (wanted_none _ rfl)]
    have q2_0 : w'.cell? ⟨g0, 0, none⟩ = some (.int .i64 f) := (blk_cell (blk_below hX2 hb) 0).trans rfl
    have q2_1 : w'.cell? ⟨g0, 1, none⟩ = some (.slice A nl c) := (blk_cell (blk_below hX2 hb) 1).trans rfl
    have q3_0 : w'.cell? ⟨g1, 0, none⟩ = some (.int .i64 g) := (blk_cell (blk_below hX3 hb) 0).trans rfl
    have q3_1 : w'.cell? ⟨g1, 1, none⟩ = some (.slice B nm e) := (blk_cell (blk_below hX3 hb) 1).trans rfl
    clear hd hB
    go_simp
    exact hK _ (Below.refl _ _)
  refine DetR.is (o := { dst := some 38, op := Op.call { callee := Callee.builtin Builtin.len, args := #[Operand.tmp 37], argTypes := #[28] }, type := 3, pos := "term.go:32", after := #[{ on := 6, ground := Ground.data }], guard := none }) (u := ?ux8) rfl (by decide) (fun T w' hb hd hB K hK => ?sx8) ?rx8
  case sx8 =>
    have e37 := hd 6 37 _ (by decide) (by kernel_rfl) rfl rfl
    replace e37 : T.getD 37 undef = _ := e37
    rw [if_pos (wanted_none _ rfl)]
    clear hd hB
    go_simp
    exact hK _ (Below.refl _ _)
  refine DetR.is (o := { dst := some 39, op := Op.fieldAddr 30 (Operand.tmp 3) 1, type := 0, pos := "term.go:32", after := #[], guard := none }) (u := ?ux9) rfl (by decide) (fun T w' hb hd hB K hK => ?sx9) ?rx9
  case sx9 =>
    have e3 := (hB 3 (by kernel_rfl)).trans hT3
    have q3_0 : w'.cell? ⟨g1, 0, none⟩ = some (.int .i64 g) := (blk_cell (blk_below hX3 hb) 0).trans rfl
    have q3_1 : w'.cell? ⟨g1, 1, none⟩ = some (.slice B nm e) := (blk_cell (blk_below hX3 hb) 1).trans rfl
    rw [if_pos (wanted_none _ rfl)]
    clear hd hB
    go_simp
    exact hK _ (Below.refl _ _)
  refine DetR.is (o := { dst := some 40, op := Op.load 28 (Operand.tmp 39), type := 28, pos := "term.go:32", after := #[{ on := 8, ground := Ground.data }], guard := none }) (u := ?ux10) rfl (by decide) (fun T w' hb hd hB K hK => ?sx10) ?rx10
  case sx10 =>
    have e39 := hd 8 39 _ (by decide) (by kernel_rfl) rfl rfl
    replace e39 : T.getD 39 undef = _ := e39
    rw [if_pos (wanted_none _ rfl)]
    have q2_0 : w'.cell? ⟨g0, 0, none⟩ = some (.int .i64 f) := (blk_cell (blk_below hX2 hb) 0).trans rfl
    have q2_1 : w'.cell? ⟨g0, 1, none⟩ = some (.slice A nl c) := (blk_cell (blk_below hX2 hb) 1).trans rfl
    have q3_0 : w'.cell? ⟨g1, 0, none⟩ = some (.int .i64 g) := (blk_cell (blk_below hX3 hb) 0).trans rfl
    have q3_1 : w'.cell? ⟨g1, 1, none⟩ = some (.slice B nm e) := (blk_cell (blk_below hX3 hb) 1).trans rfl
    clear hd hB
    go_simp
    exact hK _ (Below.refl _ _)
  refine DetR.is (o := { dst := some 41, op := Op.call { callee := Callee.builtin Builtin.len, args := #[Operand.tmp 40], argTypes := #[28] }, type := 3, pos := "term.go:32", after := #[{ on := 9, ground := Ground.data }], guard := none }) (u := ?ux11) rfl (by decide) (fun T w' hb hd hB K hK => ?sx11) ?rx11
  case sx11 =>
    have e40 := hd 9 40 _ (by decide) (by kernel_rfl) rfl rfl
    replace e40 : T.getD 40 undef = _ := e40
    rw [if_pos (wanted_none _ rfl)]
    clear hd hB
    go_simp
    exact hK _ (Below.refl _ _)
  refine DetR.is (o := { dst := some 42, op := Op.call { callee := Callee.value (Operand.func 76), args := #[Operand.tmp 38, Operand.tmp 41], argTypes := #[3, 3] }, type := 3, pos := "term.go:32", after := #[{ on := 7, ground := Ground.data }, { on := 10, ground := Ground.data }, { on := 4, ground := Ground.chain }], guard := none }) (u := ?ux12) rfl (by decide) (fun T w' hb hd hB K hK => ?sx12) ?rx12
  case sx12 =>
    have e38 := hd 7 38 _ (by decide) (by kernel_rfl) rfl rfl
    replace e38 : T.getD 38 undef = _ := e38
    have e41 := hd 10 41 _ (by decide) (by kernel_rfl) rfl rfl
    replace e41 : T.getD 41 undef = _ := e41
    rw [if_pos (wanted_none _ rfl)]
    have hcl := hF11 w' hb
    clear hd hB
    go_simp
    go_at_call 76
    refine hcl.mono ?_
    rintro e w2 ⟨rfl, h2⟩
    exact hK _ h2
  refine DetR.is (o := { dst := some 43, op := Op.fieldAddr 30 (Operand.tmp 2) 1, type := 0, pos := "term.go:32", after := #[], guard := none }) (u := ?ux13) rfl (by decide) (fun T w' hb hd hB K hK => ?sx13) ?rx13
  case sx13 =>
    have e2 := (hB 2 (by kernel_rfl)).trans hT2
    have q2_0 : w'.cell? ⟨g0, 0, none⟩ = some (.int .i64 f) := (blk_cell (blk_below hX2 hb) 0).trans rfl
    have q2_1 : w'.cell? ⟨g0, 1, none⟩ = some (.slice A nl c) := (blk_cell (blk_below hX2 hb) 1).trans rfl
    rw [if_pos (wanted_none _ rfl)]
    clear hd hB
    go_simp
    exact hK _ (Below.refl _ _)
  refine DetR.is (o := { dst := some 44, op := Op.load 28 (Operand.tmp 43), type := 28, pos := "term.go:32", after := #[{ on := 12, ground := Ground.data }], guard := none }) (u := ?ux14) rfl (by decide) (fun T w' hb hd hB K hK => ?sx14) ?rx14
  case sx14 =>
    have e43 := hd 12 43 _ (by decide) (by kernel_rfl) rfl rfl
    replace e43 : T.getD 43 undef = _ := e43
    rw [if_pos (wanted_none _ rfl)]
    have q2_0 : w'.cell? ⟨g0, 0, none⟩ = some (.int .i64 f) := (blk_cell (blk_below hX2 hb) 0).trans rfl
    have q2_1 : w'.cell? ⟨g0, 1, none⟩ = some (.slice A nl c) := (blk_cell (blk_below hX2 hb) 1).trans rfl
    have q3_0 : w'.cell? ⟨g1, 0, none⟩ = some (.int .i64 g) := (blk_cell (blk_below hX3 hb) 0).trans rfl
    have q3_1 : w'.cell? ⟨g1, 1, none⟩ = some (.slice B nm e) := (blk_cell (blk_below hX3 hb) 1).trans rfl
    clear hd hB
    go_simp
    exact hK _ (Below.refl _ _)
  refine DetR.is (o := { dst := some 45, op := Op.fieldAddr 30 (Operand.tmp 3) 1, type := 0, pos := "term.go:32", after := #[], guard := none }) (u := ?ux15) rfl (by decide) (fun T w' hb hd hB K hK => ?sx15) ?rx15
  case sx15 =>
    have e3 := (hB 3 (by kernel_rfl)).trans hT3
    have q3_0 : w'.cell? ⟨g1, 0, none⟩ = some (.int .i64 g) := (blk_cell (blk_below hX3 hb) 0).trans rfl
    have q3_1 : w'.cell? ⟨g1, 1, none⟩ = some (.slice B nm e) := (blk_cell (blk_below hX3 hb) 1).trans rfl
    rw [if_pos (wanted_none _ rfl)]
    clear hd hB
    go_simp
    exact hK _ (Below.refl _ _)
  refine DetR.is (o := { dst := some 46, op := Op.load 28 (Operand.tmp 45), type := 28, pos := "term.go:32", after := #[{ on := 14, ground := Ground.data }], guard := none }) (u := ?ux16) rfl (by decide) (fun T w' hb hd hB K hK => ?sx16) ?rx16
  case sx16 =>
    have e45 := hd 14 45 _ (by decide) (by kernel_rfl) rfl rfl
    replace e45 : T.getD 45 undef = _ := e45
    rw [if_pos (wanted_none _ rfl)]
    have q2_0 : w'.cell? ⟨g0, 0, none⟩ = some (.int .i64 f) := (blk_cell (blk_below hX2 hb) 0).trans rfl
    have q2_1 : w'.cell? ⟨g0, 1, none⟩ = some (.slice A nl c) := (blk_cell (blk_below hX2 hb) 1).trans rfl
    have q3_0 : w'.cell? ⟨g1, 0, none⟩ = some (.int .i64 g) := (blk_cell (blk_below hX3 hb) 0).trans rfl
    have q3_1 : w'.cell? ⟨g1, 1, none⟩ = some (.slice B nm e) := (blk_cell (blk_below hX3 hb) 1).trans rfl
    clear hd hB
    go_simp
    exact hK _ (Below.refl _ _)
  refine DetR.is (o := { dst := some 47, op := Op.call { callee := Callee.value (Operand.func 78), args := #[Operand.tmp 44, Operand.tmp 46, Operand.func 36], argTypes := #[28, 28, 49] }, type := 3, pos := "term.go:32", after := #[{ on := 13, ground := Ground.data }, { on := 15, ground := Ground.data }, { on := 11, ground := Ground.chain }], guard := none }) (u := ?ux17) rfl (by decide) (fun T w' hb hd hB K hK => ?sx17) ?rx17
  case sx17 =>
    have e44 := hd 13 44 _ (by decide) (by kernel_rfl) rfl rfl
    replace e44 : T.getD 44 undef = _ := e44
    have e46 := hd 15 46 _ (by decide) (by kernel_rfl) rfl rfl
    replace e46 : T.getD 46 undef = _ := e46
    rw [if_pos (wanted_none _ rfl)]
    have hcl := hF16 w' hb
    clear hd hB
    go_simp
    go_at_call 78
    refine hcl.mono ?_
    rintro e w2 ⟨rfl, h2⟩
    exact hK _ h2
  refine DetR.cons (o := { dst := some 48, op := Op.buildSlice 25 3 #[(0, Operand.tmp 35), (1, Operand.tmp 42), (2, Operand.tmp 47)], type := 25, pos := "term.go:32", after := #[{ on := 4, ground := Ground.data }, { on := 11, ground := Ground.data }, { on := 16, ground := Ground.data }], guard := none }) (BlockTold 0 (fun g => .slice (some ⟨g, 0, none⟩) 3 3) #[.int .i64 c1, .int .i64 c2, .int .i64 c3] 3) rfl (by decide) (BlockTold.grows _ _ _ _) (fun T w' hb hd hB K hK => ?sx18) ?rx18
  case sx18 =>
    have e35 := hd 4 35 _ (by decide) (by kernel_rfl) rfl rfl
    replace e35 : T.getD 35 undef = _ := e35
    have e42 := hd 11 42 _ (by decide) (by kernel_rfl) rfl rfl
    replace e42 : T.getD 42 undef = _ := e42
    have e47 := hd 16 47 _ (by decide) (by kernel_rfl) rfl rfl
    replace e47 : T.getD 47 undef = _ := e47
    rw [if_pos (wanted_none _ rfl)]
    have z35 : T[35]?.getD undef = _ := Array.getD_eq_getD_getElem?.symm.trans e35
    have z42 : T[42]?.getD undef = _ := Array.getD_eq_getD_getElem?.symm.trans e42
    have z47 : T[47]?.getD undef = _ := Array.getD_eq_getD_getElem?.symm.trans e47
    clear hd hB
    go_simp
    exact hK _ _ (below_alloc (Below.refl _ _) _) ⟨w'.heap.size, rfl, Nat.zero_le _, heap_alloc_new _ _⟩
  refine DetR.is (o := { dst := some 49, op := Op.call { callee := Callee.value (Operand.func 77), args := #[Operand.tmp 48], argTypes := #[25] }, type := 3, pos := "term.go:32", after := #[{ on := 17, ground := Ground.data }, { on := 16, ground := Ground.chain }], guard := none }) (u := ?ux19) rfl (by decide) (fun T w' hb hd hB K hK => ?sx19) ?rx19
  case sx19 =>
    obtain ⟨gs, e48, hge, hbs⟩ := (hd 17 48 _ (by decide) (by kernel_rfl) rfl rfl)
    rw [if_pos (wanted_none _ rfl)]
    have hcl := hO w' gs hbs
    clear hd hB
    go_simp
    go_at_call 77
    refine hcl.mono ?_
    rintro e w2 ⟨rfl, h2⟩
    exact hK _ h2
  refine DetR.is (o := { dst := some 4, op := Op.assign (Operand.tmp 49), type := 3, pos := "term.go:32", after := #[{ on := 18, ground := Ground.data }, { on := 18, ground := Ground.chain }, { on := 0, ground := Ground.phase }, { on := 1, ground := Ground.phase }, { on := 2, ground := Ground.phase }, { on := 3, ground := Ground.phase }, { on := 4, ground := Ground.phase }, { on := 5, ground := Ground.phase }, { on := 6, ground := Ground.phase }, { on := 7, ground := Ground.phase }, { on := 8, ground := Ground.phase }, { on := 9, ground := Ground.phase }, { on := 10, ground := Ground.phase }, { on := 11, ground := Ground.phase }, { on := 12, ground := Ground.phase }, { on := 13, ground := Ground.phase }, { on := 14, ground := Ground.phase }, { on := 15, ground := Ground.phase }, { on := 16, ground := Ground.phase }, { on := 17, ground := Ground.phase }, { on := 18, ground := Ground.phase }], guard := none }) (u := ?ux20) rfl (by decide) (fun T w' hb hd hB K hK => ?sx20) ?rx20
  case sx20 =>
    have e49 := hd 18 49 _ (by decide) (by kernel_rfl) rfl rfl
    replace e49 : T.getD 49 undef = _ := e49
    rw [if_pos (wanted_none _ rfl)]
    clear hd hB
    go_simp
    exact hK _ (Below.refl _ _)
  refine DetR.done [some 31, some 32, some 33, some 34, some 35, some 36, some 37, some 38, some 39, some 40, some 41, some 42, some 43, some 44, some 45, some 46, some 47, some 48, some 49, some 4] (by kernel_rfl) rfl (by kernel_rfl) ?_
  intro v w' hb hv
  exact hK v w' hb (hv 19 _ (by decide) rfl)
def CmpAny (x : S30) : Prop := ∀ (y : S30) (A B : Option Addr) (c e : Nat) (w : World), k30.C w A x.f1.length x.f1 → x.f1.length ≤ c → k30.C w B y.f1.length y.f1 → y.f1.length ≤ e →
  Calls Try.prog 36 #[.agg #[.int .i64 x.f0, .slice A x.f1.length c], .agg #[.int .i64 y.f0, .slice B y.f1.length e]] w fun r w' => r = .returned (.int .i64 (cmpT x y)) ∧ Below w.heap.size w w'
theorem cmpTs_at (l m : List S30) (k : Nat) (hl : k < l.length) (hm : k < m.length) : cmpTs (l.drop k) (m.drop k) = if cmpT l[k] m[k] = 0 then cmpTs (l.drop (k + 1)) (m.drop (k + 1)) else cmpT l[k] m[k] := by
  rw [List.drop_eq_getElem_cons hl, List.drop_eq_getElem_cons hm, cmpTs]
theorem cell_lt' {w : World} {a : Addr} {v : Value} (h : w.cell? a = some v) : a.block < w.heap.size := by
  unfold World.cell? at h
  rcases Nat.lt_or_ge a.block w.heap.size with hlt | hge
  · exact hlt
  · rw [Array.getElem?_eq_none hge] at h
    simp at h
theorem rd30_at (l : List S30) (k : Nat) (h : k < l.length) : rd_T30 l (k : Int) = l[k] := by
  unfold rd_T30
  simp [List.getD, List.getElem?_eq_getElem h]
set_option maxHeartbeats 4000000 in
set_option maxRecDepth 100000 in
theorem CompareFunc_any (l m : List S30) (ih : ∀ x ∈ l, CmpAny x) (A B : Option Addr) (c e : Nat) (w : World) (hA : k30.C w A l.length l) (hc : l.length ≤ c) (hB : k30.C w B m.length m) (he : m.length ≤ e) :
    Calls Try.prog 78 #[.slice A l.length c, .slice B m.length e, .func (.func 36) #[] #[]] w fun r w' => r = .returned (.int .i64 (cmpTs l m)) ∧ Below w.heap.size w w' := by
  have hll : l.length ≤ 9223372036854775807 := hA.2.1
  have hml : m.length ≤ 9223372036854775807 := hB.2.1
  have hAz := Aside0.mk hA
  have hBz := Aside0.mk hB
  have hIz := Aside0.mk ih
  clear hA hB ih
  go_enter Try.func78, Try.ntmps78
  go_wp2
  go_loopw [13] (fun i wr => ∃ k : Nat, k ≤ l.length ∧ i = .int .i64 k ∧ Aside0 (k ≤ m.length) ∧ Aside0 (cmpTs l m = cmpTs (l.drop k) (m.drop k)) ∧ Aside0 (Below w.heap.size w wr)) (fun i wr => l.length - (intOf i).toNat)
  case atStart => exact ⟨0, Nat.zero_le _, rfl, ⟨Nat.zero_le _⟩, ⟨rfl⟩, ⟨Below.refl _ _⟩⟩
  case round =>
    obtain ⟨k, hk, rfl, hkm, hcm, hb⟩ := hrel
    by_cases hlt : k < l.length
    · obtain ⟨ad, A1, c1, rfl, hx0, hx1, hl1, hC1⟩ := at_T30 (Kd.C_below hAz.out hb.out) (k : Int) (by omega) (by omega)
      rw [rd30_at l k hlt] at hx0 hx1 hl1 hC1
      rw [Int.toNat_natCast] at hx0 hx1
      have hC1 := Aside0.mk hC1
      by_cases hlm : k < m.length
      · obtain ⟨bd, B1, e1, rfl, hy0, hy1, hm1, hD1⟩ := at_T30 (Kd.C_below hBz.out hb.out) (k : Int) (by omega) (by omega)
        rw [rd30_at m k hlm] at hy0 hy1 hm1 hD1
        rw [Int.toNat_natCast] at hy0 hy1
        have hD1 := Aside0.mk hD1
        have hat := cmpTs_at l m k hlt hlm
        have hih := Aside0.mk (hIz.out l[k] (List.getElem_mem hlt) m[k])
        generalize hxk : l[k] = x at hx0 hx1 hl1 hC1 hat hih
        generalize hyk : m[k] = y at hy0 hy1 hm1 hD1 hat hih
        obtain ⟨r, hr⟩ : ∃ r, r = cmpT x y := ⟨_, rfl⟩
        rw [← hr] at hat
        have hrz := Aside0.mk hr
        have hatz := Aside0.mk hat
        clear hxk hyk hat hr
        have hba := below_alloc (Below.refl wr.heap.size wr) (.cells #[.int .i64 x.f0, .slice A1 x.f1.length c1] 30)
        have hz0 := (hba.cell (cell_lt' hy0)).trans hy0
        have hz1 := (hba.cell (cell_lt' hy1)).trans hy1
        clear hba
        have hin : Aside0 (∀ W, Below wr.heap.size wr W → Calls Try.prog 36 #[.agg #[.int .i64 x.f0, .slice A1 x.f1.length c1], .agg #[.int .i64 y.f0, .slice B1 y.f1.length e1]] W fun q w' => q = .returned (.int .i64 r) ∧ Below W.heap.size W w') := ⟨fun W hW => by rw [hrz.out]; exact hih.out A1 B1 c1 e1 W (Kd.C_below hC1.out hW) hl1 (Kd.C_below hD1.out hW) hm1⟩
        clear hih hrz
        by_cases hr0 : r = 0
        · subst hr0
          go_wp2_with (go_at_call 36; refine (hin.out _ (below_alloc (below_alloc (Below.refl _ _) _) _)).mono ?_; rintro q w3 ⟨rfl, hb3⟩; have hb4 : Below w.heap.size w w3 := (hb.out.trans ((below_alloc (below_alloc (Below.refl _ _) _) _ : Below wr.heap.size wr _).mono hb.out.size)).trans (hb3.mono (by have := hb.out.size; simp; omega)); have hb5 := Aside0.mk hb4; clear hb3 hb4)
          go_roundw
          case rel => exact ⟨k + 1, by omega, by go_num, ⟨by omega⟩, ⟨by rw [hcm.out, hatz.out]; simp⟩, hb5⟩
          case measure => simp [intOf]; omega
        · have hr1 : (r == 0) = false := by simpa using hr0
          have hr2 : (r != 0) = true := by simpa using hr0
          go_wp2_with (go_at_call 36; refine (hin.out _ (below_alloc (below_alloc (Below.refl _ _) _) _)).mono ?_; rintro q w3 ⟨rfl, hb3⟩; have hb4 : Below w.heap.size w w3 := (hb.out.trans ((below_alloc (below_alloc (Below.refl _ _) _) _ : Below wr.heap.size wr _).mono hb.out.size)).trans (hb3.mono (by have := hb.out.size; simp; omega)); have hb5 := Aside0.mk hb4; clear hb3 hb4)
          have hres : cmpTs l m = r := by rw [hcm.out, hatz.out, if_neg hr0]
          go_ret
          rw [hres]
          exact ⟨rfl, hb5.out⟩
      · have hres : cmpTs l m = 1 := by
          have hke : k = m.length := by have := hkm.out; omega
          rw [hcm.out, hke, List.drop_length, List.drop_eq_getElem_cons (by omega), cmpTs]
        have hge : (m.length : Int) ≤ (k : Int) := by omega
        generalize l[k] = x at hx0 hx1 hl1 hC1
        go_wp2
        go_ret
        rw [hres]
        exact ⟨rfl, below_alloc hb.out _⟩
    · have hke : k = l.length := by omega
      have hkm' := hkm.out
      by_cases hlm : l.length < m.length
      · have hres : cmpTs l m = -1 := by rw [hcm.out, hke, List.drop_length, List.drop_eq_getElem_cons (by omega), cmpTs]
        go_wp2
        go_ret
        rw [hres]
        exact ⟨rfl, hb.out⟩
      · have hres : cmpTs l m = 0 := by rw [hcm.out, hke, List.drop_length, show l.length = m.length by omega, List.drop_length, cmpTs]
        go_wp2
        go_ret
        rw [hres]
        exact ⟨rfl, hb.out⟩
set_option maxHeartbeats 4000000 in
set_option maxRecDepth 100000 in
theorem Compare_any : ∀ x : S30, CmpAny x := by
  refine S30.ind ?_
  intro f l ih y A B c e w hA hc hB he
  obtain ⟨g, m⟩ := y
  simp only at hA hc hB he
  have hc76 := fun (a b : Int) (w1 : World) => cmp_Compare_int.calls a b _ w1 (cmpI_f a b)
  have hIz := Aside0.mk ih
  have hCF := Aside0.mk (fun w1 (hb : Below w.heap.size w w1) => CompareFunc_any l m ih A B c e w1 (Kd.C_below hA hb) hc (Kd.C_below hB hb) he)
  have h76 := Aside0.mk hc76
  clear hc76 hA hB ih hIz
  go_enter Try.func36, Try.ntmps36
  by_cases hv : f < 0 ∨ g < 0
  · by_cases h2 : f < 0 ∧ g < 0
    · have hres : cmpT ⟨f, l⟩ ⟨g, m⟩ = cmpI g f := by rw [cmpT, if_pos hv, if_pos h2]
      have hf1 : decide (f < 0) = true := decide_eq_true h2.1
      have hg1 : decide (g < 0) = true := decide_eq_true h2.2
      clear hv h2
      go_wp2_with (go_at_call 76; refine (h76.out _ _ _).mono ?_; rintro q w1 ⟨rfl, hd⟩; have hb1 := Aside0.mk (hd.below); clear hd)
      go_ret
      rw [hres]
      exact ⟨rfl, (below_alloc (below_alloc (Below.refl _ _) _) _).trans (hb1.out.mono (by simp; omega))⟩
    · have hres : cmpT ⟨f, l⟩ ⟨g, m⟩ = cmpI f g := by rw [cmpT, if_pos hv, if_neg h2]
      by_cases hf : f < 0
      · have hf1 : decide (f < 0) = true := decide_eq_true hf
        have hg1 : decide (g < 0) = false := decide_eq_false (fun h => h2 ⟨hf, h⟩)
        clear hv h2
        go_wp2_with (go_at_call 76; refine (h76.out _ _ _).mono ?_; rintro q w1 ⟨rfl, hd⟩; have hb1 := Aside0.mk (hd.below); clear hd)
        go_ret
        rw [hres]
        exact ⟨rfl, (below_alloc (below_alloc (Below.refl _ _) _) _).trans (hb1.out.mono (by simp; omega))⟩
      · have hf1 : decide (f < 0) = false := decide_eq_false hf
        have hg1 : decide (g < 0) = true := decide_eq_true (hv.resolve_left hf)
        clear hv h2
        go_wp2_with (go_at_call 76; refine (h76.out _ _ _).mono ?_; rintro q w1 ⟨rfl, hd⟩; have hb1 := Aside0.mk (hd.below); clear hd)
        go_ret
        rw [hres]
        exact ⟨rfl, (below_alloc (below_alloc (Below.refl _ _) _) _).trans (hb1.out.mono (by simp; omega))⟩
  · have hres : cmpT ⟨f, l⟩ ⟨g, m⟩ = orI (cmpI f g) (cmpI l.length m.length) (cmpTs l m) := by rw [cmpT, if_neg hv]
    have hf1 : decide (f < 0) = false := decide_eq_false (fun h => hv (.inl h))
    have hg1 : decide (g < 0) = false := decide_eq_false (fun h => hv (.inr h))
    obtain ⟨r, hr⟩ : ∃ r, r = orI (cmpI f g) (cmpI l.length m.length) (cmpTs l m) := ⟨_, rfl⟩
    obtain ⟨ko, hko⟩ := (orI_f (cmpI f g) (cmpI l.length m.length) (cmpTs l m)).rounds
    rw [← hr] at hres hko
    have hkz := Aside0.mk hko
    clear hv hr hko
    go_wp2
    refine Compare_r5 (f := f) (g := g) (c1 := cmpI f g) (c2 := cmpI l.length m.length) (c3 := cmpTs l m) (r := r) (A := A) (B := B) (nl := l.length) (nm := m.length) (c := c) (e := e) (g0 := w.heap.size) (g1 := w.heap.size + 1) (by kernel_rfl) rfl (blk_alloc (heap_alloc_new _ _) _) rfl ?_ ?_ ?_ ?_ ?_ hc he ?_
    · have := heap_alloc_new (w.alloc (.cells #[.int .i64 f, .slice A l.length c] 30)) (.cells #[.int .i64 g, .slice B m.length e] 30)
      rw [World.size_alloc] at this
      exact this
    · intro w1 hb; exact (h76.out _ _ _).mono (fun q w2 h => ⟨h.1, h.2.below⟩)
    · intro w1 hb; exact (h76.out _ _ _).mono (fun q w2 h => ⟨h.1, h.2.below⟩)
    · intro w1 hb; exact hCF.out w1 ((below_alloc (below_alloc (Below.refl _ _) _) _).trans (hb.mono (by simp; omega)))
    · intro w1 gs hgs
      refine (cmp_Or_int.calls ko (some ⟨gs, 0, none⟩) 3 [cmpI f g, cmpI l.length m.length, cmpTs l m] r w1 ?_ (by simp) hkz.out).mono (fun q w2 h => ⟨h.1, h.2.below⟩)
      refine ⟨rfl, by simp, fun _ => ⟨_, rfl, fun j p hj => ?_⟩⟩
      have hcell := fun i => blk_cell hgs i
      match j with
      | 0 => simp at hj; subst hj; exact ⟨[.int .i64 _], rfl, rfl, fun i u hi => by (match i with | 0 => simp at hi; subst hi; exact (hcell 0).trans rfl | i + 1 => simp at hi)⟩
      | 1 => simp at hj; subst hj; exact ⟨[.int .i64 _], rfl, rfl, fun i u hi => by (match i with | 0 => simp at hi; subst hi; exact (hcell 1).trans rfl | i + 1 => simp at hi)⟩
      | 2 => simp at hj; subst hj; exact ⟨[.int .i64 _], rfl, rfl, fun i u hi => by (match i with | 0 => simp at hi; subst hi; exact (hcell 2).trans rfl | i + 1 => simp at hi)⟩
      | j + 3 => simp at hj
    intro v w2 hb2 hv19
    simp only [layL, Nat.reduceAdd, List.setIfInBounds_toArray, List.set_cons_zero, List.set_cons_succ, hv19]
    have hb2 := Aside0.mk hb2
    clear hv19
    go_wp2
    go_ret
    rw [hres]
    exact ⟨rfl, (below_alloc (below_alloc (Below.refl _ _) _) _).trans (hb2.out.mono (by simp; omega))⟩
theorem term_Compare.calls (a0_0 : Int) (A0_1 : Option Addr) (c0_1 : Nat) (l0_1 : List S30) (a1_0 : Int) (A1_1 : Option Addr) (c1_1 : Nat) (l1_1 : List S30) (r : Int) (w : World) (hr0_1 : Kd.C k30 w A0_1 l0_1.length l0_1) (hc0_1 : l0_1.length ≤ c0_1) (hr1_1 : Kd.C k30 w A1_1 l1_1.length l1_1) (hc1_1 : l1_1.length ≤ c1_1) (h : term_Compare.f a0_0 l0_1 a1_0 l1_1 = some r) :
    Calls Try.prog 36 #[.agg #[.int .i64 a0_0, .slice A0_1 l0_1.length c0_1], .agg #[.int .i64 a1_0, .slice A1_1 l1_1.length c1_1]] w fun e w' => e = .returned (.int .i64 r) ∧ Below w.heap.size w w' := by
  unfold term_Compare.f at h
  obtain rfl := Option.some.inj h
  exact Compare_any ⟨a0_0, l0_1⟩ ⟨a1_0, l1_1⟩ A0_1 A1_1 c0_1 c1_1 w hr0_1 hc0_1 hr1_1 hc1_1
end Go.Proofs.Ytpfddihcikiofaa.P
end

section
namespace Go.Proofs.Ytpfddihcikiofaa.P
open Go.RowKit Go.Proofs.YtpfddihcikiofaaW.PrintWords Go.Proofs.YtpfddihcikiofaaW.PrintLast Go.Proofs.YtpfddihcikiofaaW.PrintMore
attribute [local go_sem] max2_int min2_int max_two min_two max_three min_three max_four min_four
set_option linter.unusedVariables false
set_option linter.unusedSimpArgs false
def term_Same.f (a0_0 : Int) (l0_1 : List (S30)) (a1_0 : Int) (l1_1 : List (S30)) : Option (Bool) := (term_Compare.f a0_0 l0_1 a1_0 l1_1).bind fun t263 => (some (t263 == 0))
set_option maxHeartbeats 8000000 in
set_option maxRecDepth 100000 in
theorem term_Same.calls (a0_0 : Int) (A0_1 : Option Addr) (c0_1 : Nat) (l0_1 : List (S30)) (a1_0 : Int) (A1_1 : Option Addr) (c1_1 : Nat) (l1_1 : List (S30)) (r : Bool) (w : World) (hr0_1 : Kd.C k30 w A0_1 l0_1.length l0_1) (hc0_1 : l0_1.length ≤ c0_1) (hr1_1 : Kd.C k30 w A1_1 l1_1.length l1_1) (hc1_1 : l1_1.length ≤ c1_1) (h : term_Same.f a0_0 l0_1 a1_0 l1_1 = some r) :
    Calls Try.prog 37 #[.agg #[.int .i64 a0_0, .slice A0_1 l0_1.length c0_1], .agg #[.int .i64 a1_0, .slice A1_1 l1_1.length c1_1]] w fun e w' => e = .returned (.bool r) ∧ Below w.heap.size w w' := by
  have hu30 := Try.underlying30
  have HR0_1 := Aside0.mk hr0_1
  have HC0_1 := Aside0.mk hc0_1
  clear hr0_1 hc0_1
  have HR1_1 := Aside0.mk hr1_1
  have HC1_1 := Aside0.mk hc1_1
  clear hr1_1 hc1_1
  have HB := Aside0.mk (Below.refl w.heap.size w)
  have H : ((term_Compare.f a0_0 l0_1 a1_0 l1_1).bind fun t263 => (some (t263 == 0))) = some r := h
  clear h
  replace H := Option.bind_eq_some_iff.mp H
  obtain ⟨t263, A30, H⟩ := H
  replace H : (some (t263 == 0)) = some r := H
  have A3 := Aside0.mk A30
  clear A30
  obtain rfl := Option.some.inj H
  go_enter Try.func37, Try.ntmps37
  go_wp2_with (first | ((with_reducible refine gate_dst (N := 2) rfl ?_); refine box_event ?hg (N := 2) ?hd (cs := #[.int .i64 a0_0, .slice A0_1 l0_1.length c0_1]) (t := 30) ?hr ?_; (case hd => rfl); (case hg => rfl); (case hr => first | (go_simp; done) | (go_simp; rfl)); intro gb261 hg w4 hbox hb; have n0_ := Aside0.mk (below_step (by repeat (first | (with_reducible first | exact HB.out | apply below_alloc | apply pw_below_drewN | apply below_drew1) | exact HB.out)) hb); have n1_ := Aside0.mk (hbox); have n2_ := Aside0.mk ((by rw [hg]; exact (below_size (by repeat (first | (with_reducible first | exact HB.out | apply below_alloc | apply pw_below_drewN | apply below_drew1) | exact HB.out))) : w.heap.size ≤ gb261)); have n3_ := Aside0.mk ((by rw [hg]; exact (below_size (by repeat (first | (with_reducible first | exact HB.out | apply below_alloc | apply pw_below_drewN | apply below_drew1) | exact HB.out))) : w.heap.size ≤ gb261)); clear HB; have HB := n0_; have BK261 := n1_; have GW261 := n2_; have GE261 := n3_; clear n0_ n1_ n2_ n3_; clear hb hbox hg) | ((with_reducible refine gate_dst (N := 3) rfl ?_); refine box_event ?hg (N := 3) ?hd (cs := #[.int .i64 a1_0, .slice A1_1 l1_1.length c1_1]) (t := 30) ?hr ?_; (case hd => rfl); (case hg => rfl); (case hr => first | (go_simp; done) | (go_simp; rfl)); intro gb262 hg w5 hbox hb; have n0_ := Aside0.mk (blk_below (g := gb261) (o := .cells #[.int .i64 a0_0, .slice A0_1 l0_1.length c0_1] 30 (0, 0)) (by (with_reducible repeat (first | refine blk_drewN ?_ _ | refine blk_drew ?_ | refine blk_alloc ?_ _)); exact BK261.out) hb); have n1_ := Aside0.mk (below_step (by repeat (first | (with_reducible first | exact HB.out | apply below_alloc | apply pw_below_drewN | apply below_drew1 | refine below_set ?_ GE261.out) | exact HB.out)) hb); have n2_ := Aside0.mk (hbox); have n3_ := Aside0.mk ((by rw [hg]; exact (below_size (by repeat (first | (with_reducible first | exact HB.out | apply below_alloc | apply pw_below_drewN | apply below_drew1 | refine below_set ?_ GE261.out) | exact HB.out))) : w.heap.size ≤ gb262)); have n4_ := Aside0.mk ((by rw [hg]; exact (below_size (by repeat (first | (with_reducible first | exact HB.out | apply below_alloc | apply pw_below_drewN | apply below_drew1 | refine below_set ?_ GE261.out) | exact HB.out))) : w.heap.size ≤ gb262)); have n5_ := Aside0.mk ((by rw [hg]; exact Nat.ne_of_lt (blk_lt (g := gb261) (o := .cells #[.int .i64 a0_0, .slice A0_1 l0_1.length c0_1] 30 (0, 0)) (by (with_reducible repeat (first | refine blk_drewN ?_ _ | refine blk_drew ?_ | refine blk_alloc ?_ _)); exact BK261.out)) : gb261 ≠ gb262)); have n6_ := Aside0.mk ((by rw [hg]; exact Nat.ne_of_gt (blk_lt (g := gb261) (o := .cells #[.int .i64 a0_0, .slice A0_1 l0_1.length c0_1] 30 (0, 0)) (by (with_reducible repeat (first | refine blk_drewN ?_ _ | refine blk_drew ?_ | refine blk_alloc ?_ _)); exact BK261.out)) : gb262 ≠ gb261)); clear BK261; clear HB; have BK261 := n0_; have HB := n1_; have BK262 := n2_; have GW262 := n3_; have GE262 := n4_; have NB261_262 := n5_; have NB262_261 := n6_; clear n0_ n1_ n2_ n3_ n4_ n5_ n6_; clear hb hbox hg; have hnb6 := NB261_262.out; have hnc6 := NB262_261.out; have hcz7_0 : w5.cell? ⟨gb261, 0, none⟩ = some (.int .i64 a0_0) := (blk_cell BK261.out 0).trans rfl; have hcz7_1 : w5.cell? ⟨gb261, 1, none⟩ = some (.slice A0_1 l0_1.length c0_1) := (blk_cell BK261.out 1).trans rfl; have hfz7_0 := blk_frozen BK261.out 0; have hfz7_1 := blk_frozen BK261.out 1; have hcz8_0 : w5.cell? ⟨gb262, 0, none⟩ = some (.int .i64 a1_0) := (blk_cell BK262.out 0).trans rfl; have hcz8_1 : w5.cell? ⟨gb262, 1, none⟩ = some (.slice A1_1 l1_1.length c1_1) := (blk_cell BK262.out 1).trans rfl; have hfz8_0 := blk_frozen BK262.out 0; have hfz8_1 := blk_frozen BK262.out 1) | ((with_reducible refine gate_callee (f := 36) rfl ?_); refine goesL_ (some 7) rfl rfl Try.func36 (by kernel_rfl) rfl #[.agg #[.int .i64 a0_0, .slice A0_1 l0_1.length c0_1], .agg #[.int .i64 a1_0, .slice A1_1 l1_1.length c1_1]] rfl (by (try simp only [List.map_toArray, List.map_cons, List.map_nil]); first | done | rfl | (simp only [List.length_drop, List.length_take]; rfl)) ?_; (with_reducible refine (term_Compare.calls a0_0 _ _ l0_1 a1_0 _ _ l1_1 t263 _ ?side1 ?side2 ?side3 ?side4 A3.out).mono ?_); (case side1 => repeat (first | exact (Kd.C_below HR0_1.out HB.out) | (with_reducible refine Kd.C_alloc ?_ _) | (with_reducible refine Kd.C_drewN ?_ _) | (with_reducible refine Kd.C_drew ?_))); (case side2 => exact HC0_1.out); (case side3 => repeat (first | exact (Kd.C_below HR1_1.out HB.out) | (with_reducible refine Kd.C_alloc ?_ _) | (with_reducible refine Kd.C_drewN ?_ _) | (with_reducible refine Kd.C_drew ?_))); (case side4 => exact HC1_1.out); rintro e w9 ⟨rfl, hb⟩; refine ⟨_, rfl, ?_⟩; have n0_ := Aside0.mk (blk_below (g := gb261) (o := .cells #[.int .i64 a0_0, .slice A0_1 l0_1.length c0_1] 30 (0, 0)) (by (with_reducible repeat (first | refine blk_drewN ?_ _ | refine blk_drew ?_ | refine blk_alloc ?_ _)); exact BK261.out) hb); have n1_ := Aside0.mk (blk_below (g := gb262) (o := .cells #[.int .i64 a1_0, .slice A1_1 l1_1.length c1_1] 30 (0, 0)) (by (with_reducible repeat (first | refine blk_drewN ?_ _ | refine blk_drew ?_ | refine blk_alloc ?_ _)); exact BK262.out) hb); have n2_ := Aside0.mk (below_step (by repeat (first | (with_reducible first | exact HB.out | apply below_alloc | apply pw_below_drewN | apply below_drew1 | refine below_set ?_ GE261.out | refine below_set ?_ GE262.out) | exact HB.out)) hb); clear BK261; clear BK262; clear HB; have BK261 := n0_; have BK262 := n1_; have HB := n2_; clear n0_ n1_ n2_; (try clear hb); (try clear hb2); (try clear hk); (try clear hi)))
  go_ret
  exact ⟨by first | rfl | (simp [errW_none, errW_some] <;> rfl) | (simp [*, errW_none, errW_some] <;> rfl), by repeat (first | (with_reducible first | exact HB.out | apply below_alloc | apply pw_below_drewN | apply below_drew1 | refine below_set ?_ GE261.out | refine below_set ?_ GE262.out) | exact HB.out)⟩
end Go.Proofs.Ytpfddihcikiofaa.P
end

section
namespace Go.Proofs.Ytpfddihcikiofaa.P
open Go.RowKit Go.Proofs.YtpfddihcikiofaaW.PrintWords Go.Proofs.YtpfddihcikiofaaW.PrintLast Go.Proofs.YtpfddihcikiofaaW.PrintMore
set_option linter.unusedVariables false
set_option linter.unusedSimpArgs false
theorem cmpI_neg (a b : Int) : cmpI b a = - cmpI a b := by unfold cmpI; (repeat' split) <;> omega
theorem cmpI_self (a : Int) : cmpI a a = 0 := by unfold cmpI; (repeat' split) <;> omega
theorem orI_neg (a b c : Int) : orI (-a) (-b) (-c) = - orI a b c := by unfold orI; (repeat' split) <;> omega
theorem cmp_anti : ∀ x y : S30, cmpT y x = - cmpT x y := by
  refine S30.ind ?_
  intro f l ih y
  obtain ⟨g, m⟩ := y
  have hl : ∀ (l : List S30), (∀ x ∈ l, ∀ y, cmpT y x = - cmpT x y) → ∀ m, cmpTs m l = - cmpTs l m := by
    intro l
    induction l with
    | nil => intro _ m; cases m <;> simp [cmpTs]
    | cons x l ihl =>
      intro h m
      cases m with
      | nil => simp [cmpTs]
      | cons y m =>
        have h1 := h x (by simp) y
        have h2 := ihl (fun x hx => h x (by simp [hx])) m
        simp only [cmpTs, h1, h2]
        by_cases h0 : cmpT x y = 0
        · simp [h0]
        · rw [if_neg (by omega), if_neg h0]
  simp only [cmpT]
  by_cases h1 : f < 0 ∨ g < 0
  · rw [if_pos h1, if_pos h1.symm]
    by_cases h2 : f < 0 ∧ g < 0
    · rw [if_pos h2, if_pos h2.symm]; exact cmpI_neg g f
    · rw [if_neg h2, if_neg (fun h => h2 h.symm)]; exact cmpI_neg f g
  · rw [if_neg h1, if_neg (fun h => h1 h.symm), hl l ih m, cmpI_neg f g, cmpI_neg (l.length : Int) m.length, orI_neg]
theorem cmp_self : ∀ x : S30, cmpT x x = 0 := by
  intro x
  have := cmp_anti x x
  omega
def T3 (p q r : Int) : Prop := p ≤ 0 → q ≤ 0 → r ≤ 0 ∧ (r = 0 ↔ p = 0 ∧ q = 0)
theorem T3.cmpI (a b c : Int) : T3 (cmpI a b) (cmpI b c) (cmpI a c) := by unfold T3 P.cmpI; (repeat' split) <;> omega
theorem orI_spec (a b c : Int) : (a ≠ 0 ∧ orI a b c = a) ∨ (a = 0 ∧ b ≠ 0 ∧ orI a b c = b) ∨ (a = 0 ∧ b = 0 ∧ orI a b c = c) := by unfold orI; (repeat' split) <;> omega
theorem T3.or {p q r p' q' r' p2 q2 r2 : Int} (h : T3 p q r) (h' : T3 p' q' r') (h2 : T3 p2 q2 r2) : T3 (orI p p' p2) (orI q q' q2) (orI r r' r2) := by
  have e1 := orI_spec p p' p2
  have e2 := orI_spec q q' q2
  have e3 := orI_spec r r' r2
  generalize orI p p' p2 = P at e1 ⊢
  generalize orI q q' q2 = Q at e2 ⊢
  generalize orI r r' r2 = R at e3 ⊢
  unfold T3 at *
  rcases e1 with e1 | e1 | e1 <;> rcases e2 with e2 | e2 | e2 <;> rcases e3 with e3 | e3 | e3 <;> intro h3 h4 <;> omega
theorem pick_spec (a b : Int) : (a = 0 ∧ (if a = 0 then b else a) = b) ∨ (a ≠ 0 ∧ (if a = 0 then b else a) = a) := by split <;> omega
theorem T3.pick {p q r p' q' r' : Int} (h : T3 p q r) (h' : T3 p' q' r') : T3 (if p = 0 then p' else p) (if q = 0 then q' else q) (if r = 0 then r' else r) := by
  have e1 := pick_spec p p'
  have e2 := pick_spec q q'
  have e3 := pick_spec r r'
  generalize (if p = 0 then p' else p) = P at e1 ⊢
  generalize (if q = 0 then q' else q) = Q at e2 ⊢
  generalize (if r = 0 then r' else r) = R at e3 ⊢
  unfold T3 at *
  rcases e1 with e1 | e1 <;> rcases e2 with e2 | e2 <;> rcases e3 with e3 | e3 <;> intro h3 h4 <;> omega
theorem cmp_trans : ∀ x y z : S30, T3 (cmpT x y) (cmpT y z) (cmpT x z) := by
  refine S30.ind ?_
  intro f l ih y z
  obtain ⟨g, m⟩ := y
  obtain ⟨h, n⟩ := z
  have hl : ∀ (l : List S30), (∀ x ∈ l, ∀ y z, T3 (cmpT x y) (cmpT y z) (cmpT x z)) → ∀ m n, T3 (cmpTs l m) (cmpTs m n) (cmpTs l n) := by
    intro l
    induction l with
    | nil =>
      intro _ m n
      cases m <;> cases n <;> simp [cmpTs, T3]
    | cons x l ihl =>
      intro h m n
      cases m with
      | nil => cases n <;> simp [cmpTs, T3]
      | cons y m =>
        cases n with
        | nil => simp [cmpTs, T3]
        | cons z n =>
          have h1 := h x (by simp) y z
          have h2 := ihl (fun x hx => h x (by simp [hx])) m n
          simp only [cmpTs]
          exact T3.pick h1 h2
  simp only [cmpT]
  by_cases hf : f < 0 <;> by_cases hg : g < 0 <;> by_cases hh : h < 0 <;> simp only [hf, hg, hh, true_or, or_true, true_and, and_true, false_or, or_false, and_false, false_and, and_self, or_self, if_true, if_false]
  · unfold T3 cmpI; (repeat' split) <;> omega
  · unfold T3 cmpI; (repeat' split) <;> omega
  · unfold T3 cmpI; (repeat' split) <;> omega
  · have e1 := orI_spec (cmpI g h) (cmpI m.length n.length) (cmpTs m n); generalize orI (cmpI g h) (cmpI m.length n.length) (cmpTs m n) = X at e1 ⊢; unfold T3 cmpI at *; (repeat' split) <;> omega
  · unfold T3 cmpI; (repeat' split) <;> omega
  · unfold T3 cmpI; (repeat' split) <;> omega
  · have e1 := orI_spec (cmpI f g) (cmpI l.length m.length) (cmpTs l m); generalize orI (cmpI f g) (cmpI l.length m.length) (cmpTs l m) = X at e1 ⊢; unfold T3 cmpI at *; (repeat' split) <;> omega
  · exact T3.or (T3.cmpI f g h) (T3.cmpI _ _ _) (hl l ih m n)
mutual
def cloneT : S30 → S30
  | ⟨f, l⟩ => ⟨f, if f < 0 then [] else cloneTs l⟩
def cloneTs : List S30 → List S30
  | [] => []
  | x :: r => cloneT x :: cloneTs r
end
theorem cloneTs_eq (l : List S30) : cloneTs l = l.map cloneT := by
  induction l with
  | nil => rfl
  | cons x l ih => simp [cloneTs, ih]
theorem cmp_clone : ∀ x : S30, cmpT (cloneT x) x = 0 := by
  refine S30.ind ?_
  intro f l ih
  have hl : ∀ (l : List S30), (∀ x ∈ l, cmpT (cloneT x) x = 0) → cmpTs (cloneTs l) l = 0 := by
    intro l
    induction l with
    | nil => intro _; simp [cloneTs, cmpTs]
    | cons x l ihl =>
      intro h
      simp only [cloneTs, cmpTs, h x (by simp), if_true]
      exact ihl (fun x hx => h x (by simp [hx]))
  simp only [cloneT, cmpT]
  by_cases hf : f < 0
  · simp [hf, cmpI_self]
  · simp only [hf, or_self, and_self, if_false]
    rw [hl l ih, cmpI_self, cloneTs_eq, List.length_map, cmpI_self]
    rfl
theorem Clone_spec : ∀ t : S30, ok t → Ev (fun k => term_Clone.f k t.f0 t.f1) ((cloneT t).f0, (cloneT t).f1) := by
  refine S30.ind ?_
  intro f l ih hok
  obtain ⟨_, _, hl, hks⟩ := hok
  have hloop : ∀ (q : List S30), q.length ≤ 20 → (∀ x ∈ q, x ∈ l) → ∀ (m i : Nat), q.length - i = m → i ≤ q.length → Ev (fun k => term_Clone.l0 k q (q.length : Int) (i : Int) f ((q.take i).map cloneT)) (f, q.map cloneT) := by
    intro q hq20 hql m
    induction m with
    | zero =>
      intro i hi hle
      refine Ev.step (f := fun _ => some (f, q.map cloneT)) (fun k => ?_) (Ev.now _)
      rw [term_Clone.l0, if_neg (by omega), List.take_of_length_le (by omega)]
    | succ m ihm =>
      intro i hi hle
      have hlt : i < q.length := by omega
      have hm := hql _ (List.getElem_mem hlt)
      have he := ih q[i] hm (oks_mem hks _ hm)
      refine Ev.step (f := fun k => (term_Clone.f k q[i].f0 q[i].f1).bind fun t => if ((q.take i).map cloneT).length < 4398046511104 then term_Clone.l0 k q (q.length : Int) ((i + 1 : Nat) : Int) f ((q.take i).map cloneT ++ [(⟨t.1, t.2⟩ : S30)]) else none) (fun k => ?_) (Ev.bind he ?_)
      · rw [term_Clone.l0, if_pos (by omega), if_pos (by omega), if_pos (by omega), rd30_at q i hlt, show wrap64 ((i : Int) + 1) = ((i + 1 : Nat) : Int) from by rw [w64 _ (by omega)]; omega]
      · simp only [List.length_map, List.length_take]
        simp only [if_pos (show min i q.length < 4398046511104 by omega)]
        have := ihm (i + 1) (by omega) (by omega)
        rw [List.take_succ_eq_append_getElem hlt, List.map_append] at this
        simp only [S30.eta]
        exact this
  by_cases hf : f < 0
  · refine Ev.step (f := fun k => term_Clone.l0 k [] (([] : List S30).length : Int) 0 f []) (fun k => ?_) ?_
    · rw [term_Clone.f]; simp [term_parts.f, hf]
    · have := hloop [] (by simp) (by simp) 0 0 rfl (by simp)
      simpa [cloneT, hf] using this
  · refine Ev.step (f := fun k => term_Clone.l0 k l (l.length : Int) 0 f []) (fun k => ?_) ?_
    · rw [term_Clone.f]; simp [term_parts.f, hf]
    · have := hloop l hl (fun x hx => hx) l.length 0 rfl (by omega)
      simpa [cloneT, hf, cloneTs_eq] using this
theorem Same_of (x y : S30) : term_Same.f x.f0 x.f1 y.f0 y.f1 = some (cmpT x y == 0) := by
  simp only [term_Same.f, term_Compare.f, S30.eta, Option.bind_some]
end Go.Proofs.Ytpfddihcikiofaa.P
end

section
namespace Go.Proofs.Ytpfddihcikiofaa.P
open Go.RowKit Go.Proofs.YtpfddihcikiofaaW.PrintWords Go.Proofs.YtpfddihcikiofaaW.PrintLast Go.Proofs.YtpfddihcikiofaaW.PrintMore
set_option linter.unusedVariables false
set_option linter.unusedSimpArgs false
theorem Size_is {t : S30} (h : (nodes t).length ≤ 1099511627776) : term_Size.f t.f0 t.f1 = some ((nodes t).length : Int) := by
  unfold term_Size.f
  rw [S30.eta, flatP_len, if_pos h]
theorem Places_is {t : S30} (h : (nodes t).length ≤ 1099511627776) : term_Places.f t.f0 t.f1 = some ((flatP [] t).map Prod.fst) := by
  unfold term_Places.f
  rw [S30.eta, flatP_len, if_pos h]
end Go.Proofs.Ytpfddihcikiofaa.P
end

section
namespace Go.Proofs.Ytpfddihcikiofaa.P
open Go.RowKit Go.Maps Go.Proofs.YtpfddihcikiofaaW.PrintWords Go.Proofs.YtpfddihcikiofaaW.PrintLast Go.Proofs.YtpfddihcikiofaaW.PrintMore
set_option linter.unusedVariables false
set_option linter.unusedSimpArgs false
theorem law3 : Keyed Try.prog 3 := int_keyed Try.underlying3
theorem zero3 (w : World) : (zeroValue 3).run Try.prog w = .ok (.int .i64 0) w := by kernel_rfl
abbrev i64D (c : Int) : DataW Unit := .lit (.int .i64 c)
def ReadsM (D : DataW Unit) (g : Int → Int) : Prop := IsMap D ∧ ∀ x, (Lit.int .i64 x).wf = true → D.atKey (.int .i64 x) (i64D 0) = i64D (g x)
def addV (g : Int → Int) (s : Int) (l : List S30) : Int → Int := fun x => g x + (if x < 0 then s * (countN x l : Int) else 0)
theorem addV_nil (g : Int → Int) (s : Int) : addV g s [] = g := by
  funext x
  simp [addV, countN]
theorem countN_append (x : Int) (l m : List S30) : countN x (l ++ m) = countN x l + countN x m := by simp [countN]
theorem countN_le (x : Int) (l : List S30) : countN x l ≤ l.length := by unfold countN; exact List.length_filter_le _ _
theorem addV_append (g : Int → Int) (s : Int) (l m : List S30) : addV g s (l ++ m) = addV (addV g s l) s m := by
  funext x
  simp only [addV, countN_append]
  split
  · rw [Int.natCast_add, Int.mul_add]; omega
  · omega
theorem addV_bound {g : Int → Int} {s M : Int} (hs : s = 1 ∨ s = -1) (h : ∀ x, -M ≤ g x ∧ g x ≤ M) (l : List S30) (x : Int) : -(M + l.length) ≤ addV g s l x ∧ addV g s l x ≤ M + l.length := by
  have h1 := countN_le x l
  have h2 := h x
  unfold addV
  split
  · rcases hs with rfl | rfl
    · rw [Int.one_mul]; omega
    · rw [Int.neg_mul, Int.one_mul]; omega
  · omega
def SmallN (t : S30) : Prop := ∀ x ∈ nodes t, -1000000 ≤ x.f0 ∧ x.f0 ≤ 1000000
theorem nodess_take (l : List S30) (k : Nat) (h : k < l.length) : nodess (l.take (k + 1)) = nodess (l.take k) ++ nodes l[k] := by
  have key : ∀ a b : List S30, nodess (a ++ b) = nodess a ++ nodess b := by
    intro a
    induction a with
    | nil => intro b; rfl
    | cons x a ih => intro b; rw [List.cons_append, nodess, nodess, ih, List.append_assoc]
  rw [List.take_succ_eq_append_getElem h, key]
  simp [nodess]
theorem nodess_mem {l : List S30} {x y : S30} (hx : x ∈ l) (hy : y ∈ nodes x) : y ∈ nodess l := by
  induction l with
  | nil => cases hx
  | cons z l ih =>
    rw [nodess, List.mem_append]
    rcases List.mem_cons.1 hx with rfl | hx
    · exact .inl hy
    · exact .inr (ih hx)
theorem nodess_take_le (l : List S30) (k : Nat) : (nodess (l.take k)).length ≤ (nodess l).length := by
  have key : ∀ a b : List S30, nodess (a ++ b) = nodess a ++ nodess b := by
    intro a
    induction a with
    | nil => intro b; rfl
    | cons x a ih => intro b; rw [List.cons_append, nodess, nodess, ih, List.append_assoc]
  have h : nodess l = nodess (l.take k) ++ nodess (l.drop k) := by rw [← key, List.take_append_drop]
  rw [h, List.length_append]
  omega
def CountsOk (t : S30) : Prop := ∀ (w0 w : World) (A : Option Addr) (c B n : Nat) (D : DataW Unit) (g : Int → Int) (s M : Int), k30.C w0 A t.f1.length t.f1 → t.f1.length ≤ c → Below w0.heap.size w0 w → w0.heap.size ≤ B →
  w.ownsMap Try.prog 3 (plainElem Try.prog 3) B n D → ReadsM D g → (∀ x, -M ≤ g x ∧ g x ≤ M) → M + (nodes t).length ≤ 1000000000 → n + (nodes t).length ≤ 1000000000 → (s = 1 ∨ s = -1) → SmallN t →
  Calls Try.prog 79 #[.agg #[.int .i64 t.f0, .slice A t.f1.length c], .map (some B), .int .i64 s] w fun e w' => e = .returned (.tuple #[]) ∧
    ∃ D', w'.ownsMap Try.prog 3 (plainElem Try.prog 3) B (n + (nodes t).length) D' ∧ ReadsM D' (addV g s (nodes t)) ∧ Below w0.heap.size w0 w'
theorem rdC_at (l : List S30) (k : Nat) (h : k < l.length) : rd_T30 l (k : Int) = l[k] := by
  unfold rd_T30
  simp [List.getD, List.getElem?_eq_getElem h]
theorem put_reads {D : DataW Unit} {g : Int → Int} {t : S30} {s c : Int} (h : ReadsM D g) (hneg : t.f0 < 0) (hn : nodes t = [t]) (hc : c = g t.f0 + s) (hw : (Lit.int .i64 t.f0).wf = true) : ReadsM (D.put (.int .i64 t.f0) (i64D c)) (addV g s (nodes t)) := by
  refine ⟨h.1.put _ _, fun x hx => ?_⟩
  by_cases hxt : x = t.f0
  · subst hxt
    rw [atKey_put_same h.1 (by simp [WideAt.IsKeyLit]), hn, hc]
    simp [addV, hneg, countN]
  · rw [atKey_put_other (by intro e; injection e with _ e; exact hxt e), h.2 x hx, hn]
    have : countN x [t] = 0 := by simp [countN]; exact fun e => hxt e.symm
    simp [addV, this]
set_option maxHeartbeats 4000000 in
set_option maxRecDepth 100000 in
theorem counts_any : ∀ t : S30, CountsOk t := by
  refine S30.ind ?_
  intro f l ih w0 w A c B n D g s M hC hc hb0 hB hown hR hg hM hn hs hsm
  have hll : l.length ≤ 9223372036854775807 := hC.2.1
  have hCz := Aside0.mk hC
  have hIz := Aside0.mk ih
  have hSz := Aside0.mk hsm
  have hf : -1000000 ≤ f ∧ f ≤ 1000000 := hsm ⟨f, l⟩ (by simp [nodes])
  have hwf : (Lit.int .i64 f).wf = true := by simp [Lit.wf, IntKind.min, IntKind.max, IntKind.signed, IntKind.bits]; omega
  clear hC ih hsm
  by_cases hneg : f < 0
  · have hnd : nodes ⟨f, l⟩ = [⟨f, l⟩] := by simp [nodes, hneg]
    have hlt : decide (f < 0) = true := decide_eq_true hneg
    have hgf := hg f
    have hkey : keyOf Try.prog 3 (.int .i64 f) = some (.int .i64 f) := keyOf_int_mk Try.underlying3 hwf
    have hownb := hown.alloc (.cells #[.int .i64 f, .slice A l.length c] 30)
    have hR' := Aside0.mk hR
    have hg' := Aside0.mk hg
    have hn1 : n + 1 ≤ 1000000000 := by rw [hnd] at hn; exact hn
    have hM1 : M + 1 ≤ 1000000000 := by rw [hnd] at hM; exact hM
    clear hR hg hn hM
    go_enter Try.func79, Try.ntmps79
    go_wp2_with (first
      | (at_lookup; refine wpList_lookup_own_int _ rfl _ _ 106 rfl 3 3 .i64 law3 Try.underlying106 Try.underlying3 (zero3 _) B n _ rfl hownb _ _ rfl hkey ?_; intro c1 hat hwc)
      | (at_mapUpdate; refine wpList_mapUpdate_own _ rfl _ _ _ 106 rfl 3 3 law3 Try.underlying106 _ B n _ rfl hownb (by unfold maxLen; omega) _ _ _ rfl rfl hkey _ [] (plainElem_int Try.underlying3 (wrap64_wf _)) ?_; intro w1 hown1 hgrow1)
      | go_in)
    have hc1 : c1 = g f := by
      have h1 := hR'.out.2 f hwf
      rw [hat] at h1
      simpa [i64D] using h1
    have hgf' := hg'.out f
    have hwr : wrap64 (c1 + s) = g f + s := by
      rw [hc1]
      unfold wrap64
      rcases hs with rfl | rfl <;> omega
    have hbb := (below_alloc hb0 (.cells #[.int .i64 f, .slice A l.length c] 30)).grown hgrow1 (Nat.le_trans hb0.size (by simp)) (fun j hj => by cases hj; exact hB)
    have hres := put_reads hR'.out (t := ⟨f, l⟩) hneg (by simp [nodes, hneg]) hwr hwf
    rw [show nodes ⟨f, l⟩ = [⟨f, l⟩] by simp [nodes, hneg]] at hres
    refine bodyPost_ret (results_none (by rfl) _ _ _) (by rfl) ?_
    exact ⟨rfl, _, hown1, hres, hbb⟩
  · have hge : decide (f < 0) = false := decide_eq_false hneg
    have hnd : nodes ⟨f, l⟩ = ⟨f, l⟩ :: nodess l := by simp [nodes, hneg]
    have hadd : addV g s (nodes ⟨f, l⟩) = addV g s (nodess l) := by
      funext x
      rw [hnd]
      unfold addV
      split
      · rename_i hx
        have : countN x (⟨f, l⟩ :: nodess l) = countN x (nodess l) := by
          unfold countN
          rw [List.filter_cons_of_neg]
          simp
          omega
        rw [this]
      · rfl
    have hln : (nodes ⟨f, l⟩).length = 1 + (nodess l).length := by rw [hnd, List.length_cons]; omega
    rw [hln] at hM hn ⊢
    rw [hadd]
    have hSl : ∀ x ∈ l, SmallN x := fun x hx y hy => hSz.out y (by rw [hnd]; exact List.mem_cons_of_mem _ (nodess_mem hx hy))
    have hSl := Aside0.mk hSl
    have hR' := Aside0.mk hR
    have hg' := Aside0.mk hg
    have hownb := Aside0.mk (hown.alloc (.cells #[.int .i64 f, .slice A l.length c] 30))
    have hbb := Aside0.mk (below_alloc hb0 (.cells #[.int .i64 f, .slice A l.length c] 30))
    clear hR hg hnd hadd hln hSz hb0 hown hf hwf
    go_enter Try.func79, Try.ntmps79
    go_wp2
    go_loopw [20] (fun i wr => ∃ k : Nat, k ≤ l.length ∧ i = .int .i64 k ∧ Aside0 (∃ D', wr.ownsMap Try.prog 3 (plainElem Try.prog 3) B (n + (nodess (l.take k)).length) D' ∧ ReadsM D' (addV g s (nodess (l.take k))) ∧ Below w0.heap.size w0 wr)) (fun i wr => l.length - (intOf i).toNat)
    case atStart => exact ⟨0, Nat.zero_le _, rfl, ⟨D, hownb.out, by rw [List.take_zero, nodess, addV_nil]; exact hR'.out, hbb.out⟩⟩
    case round =>
      obtain ⟨k, hk, rfl, ⟨D1, hown1, hR1, hb1⟩⟩ := hrel
      by_cases hlt : k < l.length
      · obtain ⟨ad, A1, c1, rfl, hx0, hx1, hl1, hC1⟩ := at_T30 hCz.out (k : Int) (by omega) (by omega)
        rw [rdC_at l k hlt] at hx0 hx1 hl1 hC1
        rw [Int.toNat_natCast] at hx0 hx1
        replace hx0 := (hb1.cell (cell_lt' hx0)).trans hx0
        replace hx1 := (hb1.cell (cell_lt' hx1)).trans hx1
        have htk := nodess_take l k hlt
        have htl := nodess_take_le l (k + 1)
        rw [htk, List.length_append] at htl
        have hih := hIz.out l[k] (List.getElem_mem hlt)
        have hsx := hSl.out l[k] (List.getElem_mem hlt)
        generalize hxk : l[k] = x at hx0 hx1 hl1 hC1 htk htl hih hsx
        obtain ⟨P, hP⟩ : ∃ P, P = nodess (l.take k) := ⟨_, rfl⟩
        rw [← hP] at htk htl hown1 hR1
        have hgb := addV_bound hs hg'.out P
        have hin : Aside0 (Calls Try.prog 79 #[.agg #[.int .i64 x.f0, .slice A1 x.f1.length c1], .map (some B), .int .i64 s] (wr.alloc (.cells #[.int .i64 x.f0, .slice A1 x.f1.length c1] 30)) fun e w' => e = .returned (.tuple #[]) ∧
            ∃ D', w'.ownsMap Try.prog 3 (plainElem Try.prog 3) B (n + P.length + (nodes x).length) D' ∧ ReadsM D' (addV (addV g s P) s (nodes x)) ∧ Below w0.heap.size w0 w') := ⟨hih w0 _ A1 c1 B (n + P.length) D1 (addV g s P) s (M + P.length) hC1 hl1 (below_alloc hb1 _) hB (hown1.alloc _) hR1 hgb (by omega) (by omega) hs hsx⟩
        have htkz := Aside0.mk htk
        have hsz := Aside0.mk hs
        clear hxk hgb hown1 hR1 hb1 hC1 htl htk hih hsx hP hs
        go_wp2_with (go_at_call 79; refine hin.out.mono ?_; rintro e w3 ⟨rfl, D2, h1, h2, h3⟩; have H1 := Aside0.mk h1; have H2 := Aside0.mk h2; have H3 := Aside0.mk h3; clear h1 h2 h3)
        go_roundw
        case rel => exact ⟨k + 1, by omega, by go_num, ⟨D2, by rw [htkz.out, List.length_append, ← Nat.add_assoc]; exact H1.out, by rw [htkz.out, addV_append]; exact H2.out, H3.out⟩⟩
        case measure => simp [intOf]; omega
      · have hke : k = l.length := by omega
        subst hke
        rw [List.take_length] at hown1 hR1
        have hown1 := Aside0.mk hown1
        have hR1 := Aside0.mk hR1
        have hb1 := Aside0.mk hb1
        go_wp2
        go_end0
        exact ⟨rfl, D1, hown1.out.mono (by omega), hR1.out, hb1.out⟩
def covT (a b : S30) : Bool := (nodes b).all fun x => decide (0 ≤ x.f0) || decide (countN x.f0 (nodes b) ≤ countN x.f0 (nodes a))
def netV (a b : S30) : Int → Int := addV (addV (fun _ => 0) 1 (nodes a)) (-1) (nodes b)
theorem netV_eq (a b : S30) (x : Int) : netV a b x = if x < 0 then (countN x (nodes a) : Int) - (countN x (nodes b) : Int) else 0 := by
  unfold netV addV
  simp only []
  split
  · rw [Int.one_mul, Int.neg_mul, Int.one_mul]; omega
  · omega
theorem covT_iff (a b : S30) : covT a b = true ↔ ∀ x, 0 ≤ netV a b x := by
  unfold covT
  rw [List.all_eq_true]
  constructor
  · intro h x
    rw [netV_eq]
    split
    · rename_i hx
      by_cases hz : countN x (nodes b) = 0
      · omega
      · obtain ⟨y, hy⟩ : ∃ y, y ∈ (nodes b).filter fun z => z.f0 == x := List.exists_mem_of_length_pos (Nat.pos_of_ne_zero hz)
        rw [List.mem_filter, beq_iff_eq] at hy
        have := h y hy.1
        rw [hy.2, Bool.or_eq_true, decide_eq_true_eq, decide_eq_true_eq] at this
        omega
    · exact Int.le_refl _
  · intro h x hx
    have := h x.f0
    rw [netV_eq] at this
    rw [Bool.or_eq_true, decide_eq_true_eq, decide_eq_true_eq]
    split at this <;> omega
set_option maxHeartbeats 4000000 in
set_option maxRecDepth 100000 in
theorem Covers_calls (a b : S30) (A : Option Addr) (c : Nat) (A' : Option Addr) (c' : Nat) (w : World) (hA : k30.C w A a.f1.length a.f1) (hc : a.f1.length ≤ c) (hB : k30.C w A' b.f1.length b.f1) (hc' : b.f1.length ≤ c')
    (hsa : SmallN a) (hsb : SmallN b) (hna : (nodes a).length ≤ 1000000) (hnb : (nodes b).length ≤ 1000000) :
    Calls Try.prog 45 #[.agg #[.int .i64 a.f0, .slice A a.f1.length c], .agg #[.int .i64 b.f0, .slice A' b.f1.length c']] w fun e w' => e = .returned (.bool (covT a b)) ∧ Below w.heap.size w w' := by
  have hmm := @run_makeMap Try.prog
  obtain ⟨W2, hW2⟩ : ∃ W2, W2 = (w.alloc (.cells #[.int .i64 a.f0, .slice A a.f1.length c] 30)).alloc (.cells #[.int .i64 b.f0, .slice A' b.f1.length c'] 30) := ⟨_, rfl⟩
  have hb2 : Below w.heap.size w W2 := by rw [hW2]; exact below_alloc (below_alloc (Below.refl _ _) _) _
  have hs2 : W2.heap.size = w.heap.size + 1 + 1 := by rw [hW2, World.size_alloc, World.size_alloc]
  have hbx : W2.heap[w.heap.size + 1]? = some (.cells #[.int .i64 b.f0, .slice A' b.f1.length c'] 30 (0, 0)) := by
    rw [hW2]
    have := heap_alloc_new (w.alloc (.cells #[.int .i64 a.f0, .slice A a.f1.length c] 30)) (.cells #[.int .i64 b.f0, .slice A' b.f1.length c'] 30)
    rw [World.size_alloc] at this
    exact this
  have hmade := World.ownsMap_made W2 Try.prog 3 (plainElem (H := Unit) Try.prog 3)
  rw [hs2] at hmade
  have h1 : Aside0 (Calls Try.prog 79 #[.agg #[.int .i64 a.f0, .slice A a.f1.length c], .map (some (w.heap.size + 1 + 1)), .int .i64 1] (W2.alloc (.map #[] 0)) fun e w' => e = .returned (.tuple #[]) ∧
      ∃ D', w'.ownsMap Try.prog 3 (plainElem (H := Unit) Try.prog 3) (w.heap.size + 1 + 1) (0 + (nodes a).length) D' ∧ ReadsM D' (addV (fun _ => 0) 1 (nodes a)) ∧ Below W2.heap.size W2 w') :=
    ⟨counts_any a W2 _ A c _ 0 _ (fun _ => 0) 1 0 (Kd.C_below hA hb2) hc (below_alloc (Below.refl _ _) _) (Nat.le_of_eq hs2) hmade ⟨isMap_empty, fun x _ => rfl⟩ (fun x => ⟨by omega, by omega⟩) (by omega) (by omega) (.inl rfl) hsa⟩
  have h2 : Aside0 (∀ w4 D1, w4.ownsMap Try.prog 3 (plainElem (H := Unit) Try.prog 3) (w.heap.size + 1 + 1) (0 + (nodes a).length) D1 → ReadsM D1 (addV (fun _ => 0) 1 (nodes a)) → Below W2.heap.size W2 w4 → Calls Try.prog 79 #[.agg #[.int .i64 b.f0, .slice A' b.f1.length c'], .map (some (w.heap.size + 1 + 1)), .int .i64 (-1)] w4 fun e w' => e = .returned (.tuple #[]) ∧
      ∃ D', w'.ownsMap Try.prog 3 (plainElem (H := Unit) Try.prog 3) (w.heap.size + 1 + 1) (0 + (nodes a).length + (nodes b).length) D' ∧ ReadsM D' (netV a b) ∧ Below W2.heap.size W2 w') :=
    ⟨fun w4 D1 g1 g2 g3 => counts_any b W2 w4 A' c' _ _ _ _ (-1) (nodes a).length (Kd.C_below hB hb2) hc' g3 (Nat.le_of_eq hs2) g1 g2 (fun x => by have := addV_bound (g := fun _ => 0) (M := 0) (.inl rfl) (fun x => ⟨by omega, by omega⟩) (nodes a) x; omega) (by omega) (by omega) (.inr rfl) hsb⟩
  have hbig : Aside0 (∀ x, ¬ (Lit.int .i64 x).wf = true → netV a b x = 0) := ⟨fun x hx => by
    have hz : ∀ t : S30, SmallN t → countN x (nodes t) = 0 := fun t ht => by
      unfold countN
      rw [List.length_eq_zero_iff, List.filter_eq_nil_iff]
      intro y hy e
      rw [beq_iff_eq] at e
      have := ht y hy
      apply hx
      simp [Lit.wf, IntKind.min, IntKind.max, IntKind.signed, IntKind.bits]
      omega
    rw [netV_eq, hz a hsa, hz b hsb]
    split <;> rfl⟩
  have hb2z := Aside0.mk hb2
  have hbxz := Aside0.mk hbx
  have hW2z := Aside0.mk hW2
  have hs2z := Aside0.mk hs2
  clear hA hB hsa hsb hna hnb hmade hb2 hbx hs2 hW2
  go_enter Try.func45, Try.ntmps45
  go_wp2_with (first
    | (go_at_call 79; rw [← hW2z.out]; refine h1.out.mono ?_; rintro e w4 ⟨rfl, D1, g1, g2, g3⟩; have G1 := Aside0.mk (And.intro g1 (And.intro g2 g3)); have k0 : w4.cell? ⟨w.heap.size + 1, 0, none⟩ = some (.int .i64 b.f0) := (blk_cell (blk_below hbxz.out g3) 0).trans rfl; have k1 : w4.cell? ⟨w.heap.size + 1, 1, none⟩ = some (.slice A' b.f1.length c') := (blk_cell (blk_below hbxz.out g3) 1).trans rfl; clear g1 g2 g3)
    | (go_at_call 79; refine (h2.out _ _ G1.out.1 G1.out.2.1 G1.out.2.2).mono ?_; rintro e w5 ⟨rfl, D2, g4, g5, g6⟩; have G2 := Aside0.mk (And.intro g5 g6))
    | (at_range; refine wpList_range_own _ rfl _ 106 rfl 3 3 law3 Try.underlying106 _ (w.heap.size + 1 + 1) _ _ rfl g4 ?_; intro w6 hrg0 hg0 hs0)
    | go_in)
  have hB6 : Below w.heap.size w w6 := (hb2z.out.trans (G2.out.2.mono hb2z.out.size)).grown hg0 (Nat.le_trans hb2z.out.size G2.out.2.size) (fun j hj => by cases hj)
  have hlt5 : w.heap.size ≤ w5.heap.size := Nat.le_trans hb2z.out.size G2.out.2.size
  have hrel0 : ∀ x, (Lit.int .i64 x).wf = true → Maps.has D2 (.int .i64 x) = false → 0 ≤ netV a b x := fun x hx hh => by
    have h3 := G2.out.1.2 x hx
    rw [atKey_of_not_has hh] at h3
    have : netV a b x = 0 := by simpa [i64D] using h3.symm
    omega
  have hrel0z := Aside0.mk hrel0
  have hB6z := Aside0.mk hB6
  have hat2 := Aside0.mk G2.out.1
  clear g4 G1 G2 h1 h2 hmm hrel0 hB6 k0 k1 hg0 hs0
  go_frame
  go_loopw [7] (fun _ wr => ∃ (left : Lit → Bool) (cnt : Nat), wr.ranges Try.prog 3 (plainElem (H := Unit) Try.prog 3) (w.heap.size + 1 + 1) w5.heap.size (0 + (nodes a).length + (nodes b).length) D2 left cnt ∧ Aside0 (∀ x, (Lit.int .i64 x).wf = true → left (.int .i64 x) = false → 0 ≤ netV a b x) ∧ Aside0 (Below w.heap.size w wr))
    (fun _ wr => wr.rangeLeft (w.heap.size + 1 + 1) w5.heap.size)
  case atStart => exact ⟨_, _, hrg0, hrel0z, hB6z⟩
  case round =>
    obtain ⟨left, cnt, hrg, hl, hbw⟩ := hrel
    go_wp2_with (first
      | (at_next; refine wpList_next_ranges_ii _ rfl _ rfl 3 3 .i64 .i64 law3 Try.underlying3 Try.underlying3 (w.heap.size + 1 + 1) w5.heap.size _ _ _ _ rfl hrg ?_ ?_)
      | go_in)
    · intro _ hl0
      have hcv : covT a b = true := by
        rw [covT_iff]
        intro x
        by_cases hx : (Lit.int .i64 x).wf = true
        · exact hl.out x hx (hl0 _)
        · rw [hbig.out x hx]
          exact Int.le_refl _
      go_wp2
      go_ret
      rw [hcv]
      exact ⟨rfl, hbw.out⟩
    · intro x c1 w7 cnt1 hwx hwc hlx hat hrg1 hlt hg1 hs1 hen
      have hnet : netV a b x = c1 := by
        have h3 := hat2.out.2 x hwx
        rw [hat] at h3
        simpa [i64D] using h3.symm
      have hbw1 := Aside0.mk (hbw.out.grown hg1 hbw.out.size (fun j hj => by cases hj; exact hlt5))
      by_cases hneg : c1 < 0
      · have hd : decide (c1 < 0) = true := decide_eq_true hneg
        have hcv : covT a b = false := by
          rw [← Bool.not_eq_true, covT_iff]
          intro h
          have := h x
          omega
        clear hnet
        go_wp2
        go_ret
        rw [hcv]
        exact ⟨rfl, hbw1.out⟩
      · have hd : decide (c1 < 0) = false := decide_eq_false hneg
        have hl2 : Aside0 (∀ y, (Lit.int .i64 y).wf = true → (fun z => left z && !z.sameKey (.int .i64 x)) (.int .i64 y) = false → 0 ≤ netV a b y) := ⟨fun y hy hly => by
          by_cases hyx : y = x
          · subst hyx; omega
          · rw [show (fun z => left z && !z.sameKey (.int .i64 x)) (.int .i64 y) = (left (.int .i64 y) && !(Lit.int .i64 y).sameKey (.int .i64 x)) from rfl, Maps.sameKey_ne (by intro e; injection e with _ e; exact hyx e)] at hly
            exact hl.out y hy (by simpa using hly)⟩
        have hmeas : w7.rangeLeft (w.heap.size + 1 + 1) w5.heap.size < wr.rangeLeft (w.heap.size + 1 + 1) w5.heap.size := by rw [hrg1.left_eq, hrg.left_eq]; exact hlt
        have hmz := Aside0.mk hmeas
        clear hnet hmeas
        go_wp2
        go_roundw
        case rel => exact ⟨(fun z => left z && !z.sameKey (.int .i64 x)), cnt1, by rw [Nat.zero_add]; exact hrg1, hl2, hbw1⟩
        case measure => exact hmz.out
def fitB (t : S30) : Bool := decide ((nodes t).length ≤ 1000000) && (nodes t).all fun x => decide (-1000000 ≤ x.f0) && decide (x.f0 ≤ 1000000)
theorem fitB_iff (t : S30) : fitB t = true ↔ (nodes t).length ≤ 1000000 ∧ SmallN t := by
  unfold fitB SmallN
  rw [Bool.and_eq_true, decide_eq_true_eq, List.all_eq_true]
  simp only [Bool.and_eq_true, decide_eq_true_eq]
def kbo_Covers.f (a0_0 : Int) (l0_1 : List S30) (a1_0 : Int) (l1_1 : List S30) : Option Bool := if (fitB ⟨a0_0, l0_1⟩ && fitB ⟨a1_0, l1_1⟩) = true then some (covT ⟨a0_0, l0_1⟩ ⟨a1_0, l1_1⟩) else none
theorem kbo_Covers.calls (a0_0 : Int) (A0_1 : Option Addr) (c0_1 : Nat) (l0_1 : List (S30)) (a1_0 : Int) (A1_1 : Option Addr) (c1_1 : Nat) (l1_1 : List (S30)) (r : Bool) (w : World) (hr0_1 : Kd.C k30 w A0_1 l0_1.length l0_1) (hc0_1 : l0_1.length ≤ c0_1) (hr1_1 : Kd.C k30 w A1_1 l1_1.length l1_1) (hc1_1 : l1_1.length ≤ c1_1) (h : kbo_Covers.f a0_0 l0_1 a1_0 l1_1 = some r) :
    Calls Try.prog 45 #[.agg #[.int .i64 a0_0, .slice A0_1 l0_1.length c0_1], .agg #[.int .i64 a1_0, .slice A1_1 l1_1.length c1_1]] w fun e w' => e = .returned (.bool r) ∧ Below w.heap.size w w' := by
  unfold kbo_Covers.f at h
  split at h
  · rename_i hf
    rw [Bool.and_eq_true, fitB_iff, fitB_iff] at hf
    obtain rfl := Option.some.inj h
    exact Covers_calls ⟨a0_0, l0_1⟩ ⟨a1_0, l1_1⟩ A0_1 c0_1 A1_1 c1_1 w hr0_1 hc0_1 hr1_1 hc1_1 hf.1.2 hf.2.2 hf.1.1 hf.2.1
  · cases h
end Go.Proofs.Ytpfddihcikiofaa.P
end

section
namespace Go.Proofs.Ytpfddihcikiofaa.P
open Go.RowKit Go.Proofs.YtpfddihcikiofaaW.PrintWords Go.Proofs.YtpfddihcikiofaaW.PrintLast Go.Proofs.YtpfddihcikiofaaW.PrintMore
set_option linter.unusedVariables false
set_option linter.unusedSimpArgs false
def fit (t : S30) : Prop := (nodes t).length ≤ 1000000 ∧ SmallN t
theorem nodes_pos (t : S30) : 1 ≤ (nodes t).length := by
  obtain ⟨f, l⟩ := t
  simp [nodes]
theorem nodess_len_le : ∀ l : List S30, l.length ≤ (nodess l).length
  | [] => by simp
  | x :: r => by
    have := nodes_pos x
    have := nodess_len_le r
    simp only [nodess, List.length_append, List.length_cons]
    omega
theorem nodess_one_le {l : List S30} {x : S30} (h : x ∈ l) : (nodes x).length ≤ (nodess l).length := by
  induction l with
  | nil => cases h
  | cons z l ih =>
    rw [nodess, List.length_append]
    rcases List.mem_cons.1 h with rfl | h
    · omega
    · have := ih h; omega
theorem fit_sub {f : Int} {l : List S30} (hf : ¬ f < 0) (h : fit ⟨f, l⟩) : l.length ≤ 1000000 ∧ ∀ x ∈ l, fit x := by
  have hn : nodes ⟨f, l⟩ = ⟨f, l⟩ :: nodess l := by simp [nodes, hf]
  have h1 := h.1
  rw [hn, List.length_cons] at h1
  refine ⟨by have := nodess_len_le l; omega, fun x hx => ⟨by have := nodess_one_le hx; omega, fun y hy => h.2 y (by rw [hn]; exact List.mem_cons_of_mem _ (nodess_mem hx hy))⟩⟩
theorem fit_num {t : S30} (h : fit t) : -1000000 ≤ t.f0 ∧ t.f0 ≤ 1000000 := h.2 t (by obtain ⟨f, l⟩ := t; simp [nodes])
theorem cmpI_ne {a b : Int} (h : a ≠ b) : cmpI a b ≠ 0 := by unfold cmpI; (repeat' split) <;> omega
theorem wsucc (i n : Nat) (h : i < n) (hn : n ≤ 1000000000) : wrap64 ((i : Int) + 1) = ((i + 1 : Nat) : Int) := by rw [w64 _ (by omega)]; omega
end Go.Proofs.Ytpfddihcikiofaa.P
end

section
namespace Go.Proofs.Ytpfddihcikiofaa.P
open Go.RowKit Go.Proofs.YtpfddihcikiofaaW.PrintWords Go.Proofs.YtpfddihcikiofaaW.PrintLast Go.Proofs.YtpfddihcikiofaaW.PrintMore
set_option linter.unusedVariables false
set_option linter.unusedSimpArgs false
set_option maxHeartbeats 4000000 in
set_option maxRecDepth 100000 in
theorem Put_r3 {id : Nat} {a : Act} {w : World} {Q : Exit → Act → World → Prop} {f i : Int} {gt m cp : Nat} {tl : Value} {Ap : Addr} {ps : List S30} {P : Nat → Prop}
    (hr : regionOk #[{ dst := some 18, op := Op.move (Operand.tmp 1), type := 25, pos := "term.go:108", after := #[], guard := none }, { dst := some 19, op := Op.indexAddr 25 (Operand.tmp 18) (Operand.const (Value.int IntKind.i64 0)), type := 0, pos := "term.go:108", after := #[{ on := 0, ground := Ground.data }], guard := none }, { dst := some 20, op := Op.load 3 (Operand.tmp 19), type := 3, pos := "term.go:108", after := #[{ on := 1, ground := Ground.data }], guard := none }, { dst := some 21, op := Op.load 30 (Operand.tmp 3), type := 30, pos := "term.go:108", after := #[], guard := none }, { dst := some 22, op := Op.call { callee := Callee.value (Operand.func 74), args := #[Operand.tmp 21], argTypes := #[30] }, type := 28, pos := "term.go:108", after := #[{ on := 3, ground := Ground.data }], guard := none }, { dst := some 8, op := Op.assign (Operand.tmp 20), type := 3, pos := "term.go:108", after := #[{ on := 2, ground := Ground.data }, { on := 4, ground := Ground.chain }, { on := 0, ground := Ground.phase }, { on := 1, ground := Ground.phase }, { on := 2, ground := Ground.phase }, { on := 3, ground := Ground.textOnly Departure.lateStores }, { on := 4, ground := Ground.textOnly Departure.lateStoresUnsure }], guard := none }, { dst := some 9, op := Op.assign (Operand.tmp 22), type := 28, pos := "term.go:108", after := #[{ on := 4, ground := Ground.data }, { on := 5, ground := Ground.chain }, { on := 0, ground := Ground.phase }, { on := 1, ground := Ground.phase }, { on := 2, ground := Ground.phase }, { on := 3, ground := Ground.phase }, { on := 4, ground := Ground.phase }, { on := 5, ground := Ground.phase }], guard := none }] a.tmps.size = true)
    (hT1 : a.tmps.getD 1 undef = .slice (some Ap) m cp)
    (hT3 : a.tmps.getD 3 undef = .pointer (some ⟨gt, 0, none⟩)) (hX3 : w.heap[gt]? = some (.cells #[.int .i64 f, tl] 30 (0, 0)))
    (hm : 0 < m) (hi : w.cell? Ap = some (.int .i64 i)) (hF : ∀ w1, Below w.heap.size w w1 → Calls Try.prog 74 #[.agg #[.int .i64 f, tl]] w1 fun e w2 => ∃ u, e = .returned u ∧ Kd.V k30 30 w2 0 P u ps ∧ Below w1.heap.size w1 w2)
    (hK : ∀ v w', Below w.heap.size w w' → v 5 = .int .i64 i → Kd.V k30 30 w' 0 P (v 6) ps → Q .normal { tmps := layL [some 18, some 19, some 20, some 21, some 22, some 8, some 9] 0 v a.tmps, defers := a.defers } w') :
    (Code.region id #[{ dst := some 18, op := Op.move (Operand.tmp 1), type := 25, pos := "term.go:108", after := #[], guard := none }, { dst := some 19, op := Op.indexAddr 25 (Operand.tmp 18) (Operand.const (Value.int IntKind.i64 0)), type := 0, pos := "term.go:108", after := #[{ on := 0, ground := Ground.data }], guard := none }, { dst := some 20, op := Op.load 3 (Operand.tmp 19), type := 3, pos := "term.go:108", after := #[{ on := 1, ground := Ground.data }], guard := none }, { dst := some 21, op := Op.load 30 (Operand.tmp 3), type := 30, pos := "term.go:108", after := #[], guard := none }, { dst := some 22, op := Op.call { callee := Callee.value (Operand.func 74), args := #[Operand.tmp 21], argTypes := #[30] }, type := 28, pos := "term.go:108", after := #[{ on := 3, ground := Ground.data }], guard := none }, { dst := some 8, op := Op.assign (Operand.tmp 20), type := 3, pos := "term.go:108", after := #[{ on := 2, ground := Ground.data }, { on := 4, ground := Ground.chain }, { on := 0, ground := Ground.phase }, { on := 1, ground := Ground.phase }, { on := 2, ground := Ground.phase }, { on := 3, ground := Ground.textOnly Departure.lateStores }, { on := 4, ground := Ground.textOnly Departure.lateStoresUnsure }], guard := none }, { dst := some 9, op := Op.assign (Operand.tmp 22), type := 28, pos := "term.go:108", after := #[{ on := 4, ground := Ground.data }, { on := 5, ground := Ground.chain }, { on := 0, ground := Ground.phase }, { on := 1, ground := Ground.phase }, { on := 2, ground := Ground.phase }, { on := 3, ground := Ground.phase }, { on := 4, ground := Ground.phase }, { on := 5, ground := Ground.phase }], guard := none }] true).wp Try.prog Q a w := by
  have hmx : Try.prog.follows .mixedOrders = true := by kernel_rfl
  refine region_detR 7 hmx hr (by kernel_rfl) ?_
  refine DetR.is (o := { dst := some 18, op := Op.move (Operand.tmp 1), type := 25, pos := "term.go:108", after := #[], guard := none }) (u := ?ux1) rfl (by decide) (fun T w' hb hd hB K hK => ?sx1) ?rx1
  case sx1 =>
    have e1 := (hB 1 (by kernel_rfl)).trans hT1
    rw [if_pos (wanted_none _ rfl)]
    clear hd hB
    go_simp
    exact hK _ (Below.refl _ _)
  refine DetR.is (o := { dst := some 19, op := Op.indexAddr 25 (Operand.tmp 18) (Operand.const (Value.int IntKind.i64 0)), type := 0, pos := "term.go:108", after := #[{ on := 0, ground := Ground.data }], guard := none }) (u := .pointer (some Ap)) rfl (by decide) (fun T w' hb hd hB K hK => ?sx2) ?rx2
  case sx2 =>
    have e18 := hd 0 18 _ (by decide) (by kernel_rfl) rfl rfl
    replace e18 : T.getD 18 undef = _ := e18
    rw [if_pos (wanted_none _ rfl)]
    clear hd hB
    go_simp
    exact hK _ (Below.refl _ _)
  refine DetR.is (o := { dst := some 20, op := Op.load 3 (Operand.tmp 19), type := 3, pos := "term.go:108", after := #[{ on := 1, ground := Ground.data }], guard := none }) (u := ?ux3) rfl (by decide) (fun T w' hb hd hB K hK => ?sx3) ?rx3
  case sx3 =>
    have e19 := hd 1 19 _ (by decide) (by kernel_rfl) rfl rfl
    replace e19 : T.getD 19 undef = _ := e19
    rw [if_pos (wanted_none _ rfl)]
    have hi' := (hb.cell (cell_lt' hi)).trans hi
    clear hd hB
    go_simp
    exact hK _ (Below.refl _ _)
  refine DetR.is (o := { dst := some 21, op := Op.load 30 (Operand.tmp 3), type := 30, pos := "term.go:108", after := #[], guard := none }) (u := ?ux4) rfl (by decide) (fun T w' hb hd hB K hK => ?sx4) ?rx4
  case sx4 =>
    have e3 := (hB 3 (by kernel_rfl)).trans hT3
    have q3_0 : w'.cell? ⟨gt, 0, none⟩ = some (.int .i64 f) := (blk_cell (blk_below hX3 hb) 0).trans rfl
    have q3_1 : w'.cell? ⟨gt, 1, none⟩ = some (tl) := (blk_cell (blk_below hX3 hb) 1).trans rfl
    rw [if_pos (wanted_none _ rfl)]
    clear hd hB
    go_simp
    exact hK _ (Below.refl _ _)
  refine DetR.cons (o := { dst := some 22, op := Op.call { callee := Callee.value (Operand.func 74), args := #[Operand.tmp 21], argTypes := #[30] }, type := 28, pos := "term.go:108", after := #[{ on := 3, ground := Ground.data }], guard := none }) (fun u w => Kd.V k30 30 w 0 P u ps) rfl (by decide) (fun _ _ _ h hb => Kd.V_below h hb) (fun T w' hb hd hB K hK => ?sx5) ?rx5
  case sx5 =>
    have e21 := hd 3 21 _ (by decide) (by kernel_rfl) rfl rfl
    replace e21 : T.getD 21 undef = _ := e21
    rw [if_pos (wanted_none _ rfl)]
    have hcl := hF w' hb
    clear hd hB
    go_simp
    go_at_call 74
    refine hcl.mono ?_
    rintro e w2 ⟨u, rfl, h1, h2⟩
    exact hK _ _ h2 h1
  refine DetR.is (o := { dst := some 8, op := Op.assign (Operand.tmp 20), type := 3, pos := "term.go:108", after := #[{ on := 2, ground := Ground.data }, { on := 4, ground := Ground.chain }, { on := 0, ground := Ground.phase }, { on := 1, ground := Ground.phase }, { on := 2, ground := Ground.phase }, { on := 3, ground := Ground.textOnly Departure.lateStores }, { on := 4, ground := Ground.textOnly Departure.lateStoresUnsure }], guard := none }) (u := ?ux6) rfl (by decide) (fun T w' hb hd hB K hK => ?sx6) ?rx6
  case sx6 =>
    have e20 := hd 2 20 _ (by decide) (by kernel_rfl) rfl rfl
    replace e20 : T.getD 20 undef = _ := e20
    rw [if_pos (wanted_none _ rfl)]
    clear hd hB
    go_simp
    exact hK _ (Below.refl _ _)
  refine DetR.cons (o := { dst := some 9, op := Op.assign (Operand.tmp 22), type := 28, pos := "term.go:108", after := #[{ on := 4, ground := Ground.data }, { on := 5, ground := Ground.chain }, { on := 0, ground := Ground.phase }, { on := 1, ground := Ground.phase }, { on := 2, ground := Ground.phase }, { on := 3, ground := Ground.phase }, { on := 4, ground := Ground.phase }, { on := 5, ground := Ground.phase }], guard := none }) (fun u w => Kd.V k30 30 w 0 P u ps) rfl (by decide) (fun _ _ _ h hb => Kd.V_below h hb) (fun T w' hb hd hB K hK => ?sx7) ?rx7
  case sx7 =>
    obtain h22 := (hd 4 22 _ (by decide) (by kernel_rfl) rfl rfl)
    rw [if_pos (wanted_none _ rfl)]
    clear hd hB
    go_simp
    exact hK _ _ (Below.refl _ _) (by rw [← Array.getD_eq_getD_getElem?]; exact h22)
  refine DetR.done [some 18, some 19, some 20, some 21, some 22, some 8, some 9] (by kernel_rfl) rfl (by kernel_rfl) ?_
  intro v w' hb hv
  exact hK v w' hb (hv 5 _ (by decide) rfl) (hv 6 _ (by decide) rfl)
set_option maxHeartbeats 4000000 in
set_option maxRecDepth 100000 in
theorem Put_r6 {id : Nat} {a : Act} {w : World} {Q : Exit → Act → World → Prop} {i : Int} {gu n c cu cp c1 : Nat} {x u r : S30} {b : Bool} {ad Ap : Addr} {Au A1 : Option Addr} {p q : List Int} {P : Nat → Prop}
    (hr : regionOk #[{ dst := some 33, op := Op.move (Operand.tmp 9), type := 28, pos := "term.go:112", after := #[], guard := none }, { dst := some 34, op := Op.move (Operand.tmp 8), type := 3, pos := "term.go:112", after := #[], guard := none }, { dst := some 35, op := Op.indexAddr 28 (Operand.tmp 33) (Operand.tmp 34), type := 0, pos := "term.go:112", after := #[{ on := 0, ground := Ground.data }, { on := 1, ground := Ground.data }], guard := none }, { dst := some 36, op := Op.load 30 (Operand.tmp 35), type := 30, pos := "term.go:112", after := #[{ on := 2, ground := Ground.data }], guard := none }, { dst := some 37, op := Op.move (Operand.tmp 1), type := 25, pos := "term.go:112", after := #[], guard := none }, { dst := some 38, op := Op.slice 25 (Operand.tmp 37) (some (Operand.const (Value.int IntKind.i64 1))) none none, type := 25, pos := "term.go:112", after := #[{ on := 4, ground := Ground.data }], guard := none }, { dst := some 39, op := Op.load 30 (Operand.tmp 5), type := 30, pos := "term.go:112", after := #[], guard := none }, { dst := some 40, op := Op.call { callee := Callee.value (Operand.func 30), args := #[Operand.tmp 36, Operand.tmp 38, Operand.tmp 39], argTypes := #[30, 25, 30] }, type := 37, pos := "term.go:112", after := #[{ on := 3, ground := Ground.data }, { on := 5, ground := Ground.data }, { on := 6, ground := Ground.data }], guard := none }, { dst := some 32, op := Op.move (Operand.tmp 40), type := 37, pos := "term.go:112", after := #[{ on := 7, ground := Ground.data }], guard := none }, { dst := some 41, op := Op.extract (Operand.tmp 32) 0, type := 30, pos := "term.go:112", after := #[{ on := 8, ground := Ground.data }], guard := none }, { dst := some 42, op := Op.extract (Operand.tmp 32) 1, type := 4, pos := "term.go:112", after := #[{ on := 8, ground := Ground.data }, { on := 12, ground := Ground.gcOnly Departure.lateStores }], guard := none }, { dst := some 10, op := Op.alloc 30, type := 0, pos := "term.go:112", after := #[], guard := none }, { dst := none, op := Op.store 30 (Operand.tmp 10) (Operand.tmp 41), type := 0, pos := "term.go:112", after := #[{ on := 11, ground := Ground.data }, { on := 9, ground := Ground.data }, { on := 7, ground := Ground.chain }, { on := 0, ground := Ground.phase }, { on := 1, ground := Ground.phase }, { on := 2, ground := Ground.phase }, { on := 3, ground := Ground.phase }, { on := 4, ground := Ground.phase }, { on := 5, ground := Ground.phase }, { on := 6, ground := Ground.phase }, { on := 7, ground := Ground.phase }, { on := 8, ground := Ground.phase }, { on := 9, ground := Ground.phase }, { on := 10, ground := Ground.textOnly Departure.lateStores }, { on := 11, ground := Ground.phase }], guard := none }, { dst := some 11, op := Op.assign (Operand.tmp 42), type := 4, pos := "term.go:112", after := #[{ on := 10, ground := Ground.data }, { on := 12, ground := Ground.chain }, { on := 0, ground := Ground.phase }, { on := 1, ground := Ground.phase }, { on := 2, ground := Ground.phase }, { on := 3, ground := Ground.phase }, { on := 4, ground := Ground.phase }, { on := 5, ground := Ground.phase }, { on := 6, ground := Ground.phase }, { on := 7, ground := Ground.phase }, { on := 8, ground := Ground.phase }, { on := 9, ground := Ground.phase }, { on := 10, ground := Ground.phase }, { on := 11, ground := Ground.phase }, { on := 12, ground := Ground.phase }], guard := none }] a.tmps.size = true)
    (hT9 : a.tmps.getD 9 undef = .slice (some ad) n c)
    (hT8 : a.tmps.getD 8 undef = .int .i64 i)
    (hT1 : a.tmps.getD 1 undef = .slice (some Ap) p.length cp)
    (hT5 : a.tmps.getD 5 undef = .pointer (some ⟨gu, 0, none⟩)) (hX5 : w.heap[gu]? = some (.cells #[.int .i64 u.f0, .slice Au u.f1.length cu] 30 (0, 0)))
    (hpq : Aside0 (q = p.tail)) (hi : 0 ≤ i ∧ i < n) (hc0 : w.cell? (ad.add (i.toNat * 2)) = some (.int .i64 x.f0)) (hc1 : w.cell? ⟨(ad.add (i.toNat * 2)).block, (ad.add (i.toNat * 2)).off + 1, none⟩ = some (.slice A1 x.f1.length c1)) (hp : 0 < p.length) (hpc : p.length ≤ cp) (hip : Kd.C (Kd.int .i64) w (some Ap) p.length p)
    (hF : ∀ w1 A c2, Below w.heap.size w w1 → q.length ≤ c2 → Kd.C (Kd.int .i64) w1 A q.length q → Calls Try.prog 30 #[.agg #[.int .i64 x.f0, .slice A1 x.f1.length c1], .slice A q.length c2, .agg #[.int .i64 u.f0, .slice Au u.f1.length cu]] w1 fun e w2 => ∃ A' c', e = .returned (.tuple #[.agg #[.int .i64 r.f0, .slice A' r.f1.length c'], .bool b]) ∧ r.f1.length ≤ c' ∧ Kd.F k30 w2 (fun k => (k < w.heap.size ∧ P k) ∨ w1.heap.size ≤ k) A' r.f1.length r.f1 ∧ Below w1.heap.size w1 w2)
    (hK : ∀ v w' g A' c', Below w.heap.size w w' → v 13 = .bool b → v 11 = .pointer (some ⟨g, 0, none⟩) → w.heap.size ≤ g → w'.heap[g]? = some (.cells #[.int .i64 r.f0, .slice A' r.f1.length c'] 30 (0, 0)) → r.f1.length ≤ c' → Kd.F k30 w' (fun k => ((k < w.heap.size ∧ P k) ∨ w.heap.size ≤ k) ∧ k ≠ g) A' r.f1.length r.f1 → Q .normal { tmps := layL [some 33, some 34, some 35, some 36, some 37, some 38, some 39, some 40, some 32, some 41, some 42, some 10, none, some 11] 0 v a.tmps, defers := a.defers } w') :
    (Code.region id #[{ dst := some 33, op := Op.move (Operand.tmp 9), type := 28, pos := "term.go:112", after := #[], guard := none }, { dst := some 34, op := Op.move (Operand.tmp 8), type := 3, pos := "term.go:112", after := #[], guard := none }, { dst := some 35, op := Op.indexAddr 28 (Operand.tmp 33) (Operand.tmp 34), type := 0, pos := "term.go:112", after := #[{ on := 0, ground := Ground.data }, { on := 1, ground := Ground.data }], guard := none }, { dst := some 36, op := Op.load 30 (Operand.tmp 35), type := 30, pos := "term.go:112", after := #[{ on := 2, ground := Ground.data }], guard := none }, { dst := some 37, op := Op.move (Operand.tmp 1), type := 25, pos := "term.go:112", after := #[], guard := none }, { dst := some 38, op := Op.slice 25 (Operand.tmp 37) (some (Operand.const (Value.int IntKind.i64 1))) none none, type := 25, pos := "term.go:112", after := #[{ on := 4, ground := Ground.data }], guard := none }, { dst := some 39, op := Op.load 30 (Operand.tmp 5), type := 30, pos := "term.go:112", after := #[], guard := none }, { dst := some 40, op := Op.call { callee := Callee.value (Operand.func 30), args := #[Operand.tmp 36, Operand.tmp 38, Operand.tmp 39], argTypes := #[30, 25, 30] }, type := 37, pos := "term.go:112", after := #[{ on := 3, ground := Ground.data }, { on := 5, ground := Ground.data }, { on := 6, ground := Ground.data }], guard := none }, { dst := some 32, op := Op.move (Operand.tmp 40), type := 37, pos := "term.go:112", after := #[{ on := 7, ground := Ground.data }], guard := none }, { dst := some 41, op := Op.extract (Operand.tmp 32) 0, type := 30, pos := "term.go:112", after := #[{ on := 8, ground := Ground.data }], guard := none }, { dst := some 42, op := Op.extract (Operand.tmp 32) 1, type := 4, pos := "term.go:112", after := #[{ on := 8, ground := Ground.data }, { on := 12, ground := Ground.gcOnly Departure.lateStores }], guard := none }, { dst := some 10, op := Op.alloc 30, type := 0, pos := "term.go:112", after := #[], guard := none }, { dst := none, op := Op.store 30 (Operand.tmp 10) (Operand.tmp 41), type := 0, pos := "term.go:112", after := #[{ on := 11, ground := Ground.data }, { on := 9, ground := Ground.data }, { on := 7, ground := Ground.chain }, { on := 0, ground := Ground.phase }, { on := 1, ground := Ground.phase }, { on := 2, ground := Ground.phase }, { on := 3, ground := Ground.phase }, { on := 4, ground := Ground.phase }, { on := 5, ground := Ground.phase }, { on := 6, ground := Ground.phase }, { on := 7, ground := Ground.phase }, { on := 8, ground := Ground.phase }, { on := 9, ground := Ground.phase }, { on := 10, ground := Ground.textOnly Departure.lateStores }, { on := 11, ground := Ground.phase }], guard := none }, { dst := some 11, op := Op.assign (Operand.tmp 42), type := 4, pos := "term.go:112", after := #[{ on := 10, ground := Ground.data }, { on := 12, ground := Ground.chain }, { on := 0, ground := Ground.phase }, { on := 1, ground := Ground.phase }, { on := 2, ground := Ground.phase }, { on := 3, ground := Ground.phase }, { on := 4, ground := Ground.phase }, { on := 5, ground := Ground.phase }, { on := 6, ground := Ground.phase }, { on := 7, ground := Ground.phase }, { on := 8, ground := Ground.phase }, { on := 9, ground := Ground.phase }, { on := 10, ground := Ground.phase }, { on := 11, ground := Ground.phase }, { on := 12, ground := Ground.phase }], guard := none }] true).wp Try.prog Q a w := by
  have hmx : Try.prog.follows .mixedOrders = true := by kernel_rfl
  have hJo : ∀ i, i ∉ [5, 7, 8, 9, 11, 12] → ∀ v d (w1 w2 : World) u, (RetJ w.heap.size 30 [(5, RowF (Kd.int .i64) q (fun k => k < w.heap.size)), (7, TupF k30 r b (fun k => (k < w.heap.size ∧ P k) ∨ w.heap.size ≤ k)), (8, TupF k30 r b (fun k => (k < w.heap.size ∧ P k) ∨ w.heap.size ≤ k)), (9, TermF k30 r (fun k => (k < w.heap.size ∧ P k) ∨ w.heap.size ≤ k))] 11 12 9) v d w1 → d i = false → Below w1.heap.size w1 w2 → (RetJ w.heap.size 30 [(5, RowF (Kd.int .i64) q (fun k => k < w.heap.size)), (7, TupF k30 r b (fun k => (k < w.heap.size ∧ P k) ∨ w.heap.size ≤ k)), (8, TupF k30 r b (fun k => (k < w.heap.size ∧ P k) ∨ w.heap.size ≤ k)), (9, TermF k30 r (fun k => (k < w.heap.size ∧ P k) ∨ w.heap.size ≤ k))] 11 12 9) (upd v i u) (upd d i true) w2 := fun i hi v d w1 w2 u h hd hb => RetJ.val h hd (fun e => hi (by simp [← e])) (fun e => hi (by simp [← e])) hb (fun q hq e => absurd (by simp only [List.mem_cons, List.not_mem_nil, or_false] at hq; rcases hq with rfl | rfl | rfl | rfl <;> simp [← e]) hi)
  refine region_detJ (fun _ _ => True) (RetJ w.heap.size 30 [(5, RowF (Kd.int .i64) q (fun k => k < w.heap.size)), (7, TupF k30 r b (fun k => (k < w.heap.size ∧ P k) ∨ w.heap.size ≤ k)), (8, TupF k30 r b (fun k => (k < w.heap.size ∧ P k) ∨ w.heap.size ≤ k)), (9, TermF k30 r (fun k => (k < w.heap.size ∧ P k) ∨ w.heap.size ≤ k))] 11 12 9) 14 (trivial) (fun v => RetJ.start w.drew (Nat.le_refl w.heap.size) v) hmx hr rfl ?_
  refine DetJ.is (o := { dst := some 33, op := Op.move (Operand.tmp 9), type := 28, pos := "term.go:112", after := #[], guard := none }) (u := ?ux8) (fun _ _ _ => trivial) [5, 7, 8, 9, 11, 12] hJo rfl (by decide) (by decide) (fun T w' hb hd hB K hK => ?sx8) ?rx8
  case sx8 =>
    have e9 := (hB 9 (by kernel_rfl)).trans hT9
    rw [if_pos (wanted_none _ rfl)]
    clear hd hB
    go_simp
    exact hK _ (Below.refl _ _)
  refine DetJ.is (o := { dst := some 34, op := Op.move (Operand.tmp 8), type := 3, pos := "term.go:112", after := #[], guard := none }) (u := ?ux9) (fun _ _ _ => trivial) [5, 7, 8, 9, 11, 12] hJo rfl (by decide) (by decide) (fun T w' hb hd hB K hK => ?sx9) ?rx9
  case sx9 =>
    have e8 := (hB 8 (by kernel_rfl)).trans hT8
    rw [if_pos (wanted_none _ rfl)]
    clear hd hB
    go_simp
    exact hK _ (Below.refl _ _)
  refine DetJ.is (o := { dst := some 35, op := Op.indexAddr 28 (Operand.tmp 33) (Operand.tmp 34), type := 0, pos := "term.go:112", after := #[{ on := 0, ground := Ground.data }, { on := 1, ground := Ground.data }], guard := none }) (u := .pointer (some (ad.add (i.toNat * 2)))) (fun _ _ _ => trivial) [5, 7, 8, 9, 11, 12] hJo rfl (by decide) (by decide) (fun T w' hb hd hB K hK => ?sx10) ?rx10
  case sx10 =>
    have e33 := hd 0 33 _ (by decide) (by kernel_rfl) rfl rfl
    replace e33 : T.getD 33 undef = _ := e33
    have e34 := hd 1 34 _ (by decide) (by kernel_rfl) rfl rfl
    replace e34 : T.getD 34 undef = _ := e34
    rw [if_pos (wanted_none _ rfl)]
    have hi0 := hi.1
    have hi1 := hi.2
    clear hd hB
    go_simp
    exact hK _ (Below.refl _ _)
  refine DetJ.is (o := { dst := some 36, op := Op.load 30 (Operand.tmp 35), type := 30, pos := "term.go:112", after := #[{ on := 2, ground := Ground.data }], guard := none }) (u := ?ux11) (fun _ _ _ => trivial) [5, 7, 8, 9, 11, 12] hJo rfl (by decide) (by decide) (fun T w' hb hd hB K hK => ?sx11) ?rx11
  case sx11 =>
    have e35 := hd 2 35 _ (by decide) (by kernel_rfl) rfl rfl
    replace e35 : T.getD 35 undef = _ := e35
    rw [if_pos (wanted_none _ rfl)]
    have hc0' := (hb.cell (cell_lt' hc0)).trans hc0
    have hc1' := (hb.cell (cell_lt' hc1)).trans hc1
    clear hd hB
    go_simp
    exact hK _ (Below.refl _ _)
  refine DetJ.is (o := { dst := some 37, op := Op.move (Operand.tmp 1), type := 25, pos := "term.go:112", after := #[], guard := none }) (u := ?ux12) (fun _ _ _ => trivial) [5, 7, 8, 9, 11, 12] hJo rfl (by decide) (by decide) (fun T w' hb hd hB K hK => ?sx12) ?rx12
  case sx12 =>
    have e1 := (hB 1 (by kernel_rfl)).trans hT1
    rw [if_pos (wanted_none _ rfl)]
    clear hd hB
    go_simp
    exact hK _ (Below.refl _ _)
  refine DetJ.cons (o := { dst := some 38, op := Op.slice 25 (Operand.tmp 37) (some (Operand.const (Value.int IntKind.i64 1))) none none, type := 25, pos := "term.go:112", after := #[{ on := 4, ground := Ground.data }], guard := none }) (fun _ _ => True) rfl (by decide) (fun _ _ _ _ _ => trivial) (fun v d T w' hb hj hd0 hd hdd hB K hK => ?sx13) ?rx13
  case sx13 =>
    have e37 := hd 4 37 _ (by decide) (by kernel_rfl) rfl rfl
    replace e37 : T.getD 37 undef = _ := e37
    rw [if_pos (wanted_none _ rfl)]
    have hpq1 : (1 : Int) ≤ p.length := by omega
    have hC1 : Kd.C (Kd.int .i64) w (if cp = 1 then some Ap else some ⟨Ap.block, Ap.off + 1, none⟩) q.length q := by have := Kd.C_drop hip (m := 1) (by omega) hpc; rw [List.drop_one, ← hpq.out] at this; exact this
    have hql : q.length = p.length - 1 := by rw [hpq.out, List.length_tail]
    have hfp : (RowF (Kd.int .i64) q (fun k => k < w.heap.size)).p (fun k => okF 11 v d k ∨ w'.heap.size ≤ k) (.slice (if cp = 1 then some Ap else some ⟨Ap.block, Ap.off + 1, none⟩) (p.length - 1) (cp - 1)) w' := ⟨_, _, by rw [hql], by omega, Kd.F_mono (F_old (Kd.heap_int .i64) hC1 hb) (fun k hk => ⟨.inl (RetJ.old hj hk), hk⟩)⟩
    have hfp' := Aside0.mk hfp
    have hd0' := Aside0.mk hd0
    clear hC1 hfp hd0 hql
    clear hd hdd hB
    go_simp
    exact hK _ _ trivial hb trivial (RetJ.val hj hd0'.out (by decide) (by decide) (Below.refl _ _) (fun q hq e => by simp only [List.mem_cons, List.not_mem_nil, or_false] at hq; rcases hq with rfl | rfl | rfl | rfl <;> first | exact hfp'.out | exact absurd e (by simp)))
  refine DetJ.is (o := { dst := some 39, op := Op.load 30 (Operand.tmp 5), type := 30, pos := "term.go:112", after := #[], guard := none }) (u := ?ux14) (fun _ _ _ => trivial) [5, 7, 8, 9, 11, 12] hJo rfl (by decide) (by decide) (fun T w' hb hd hB K hK => ?sx14) ?rx14
  case sx14 =>
    have e5 := (hB 5 (by kernel_rfl)).trans hT5
    have q5_0 : w'.cell? ⟨gu, 0, none⟩ = some (.int .i64 u.f0) := (blk_cell (blk_below hX5 hb) 0).trans rfl
    have q5_1 : w'.cell? ⟨gu, 1, none⟩ = some (.slice Au u.f1.length cu) := (blk_cell (blk_below hX5 hb) 1).trans rfl
    rw [if_pos (wanted_none _ rfl)]
    clear hd hB
    go_simp
    exact hK _ (Below.refl _ _)
  refine DetJ.cons (o := { dst := some 40, op := Op.call { callee := Callee.value (Operand.func 30), args := #[Operand.tmp 36, Operand.tmp 38, Operand.tmp 39], argTypes := #[30, 25, 30] }, type := 37, pos := "term.go:112", after := #[{ on := 3, ground := Ground.data }, { on := 5, ground := Ground.data }, { on := 6, ground := Ground.data }], guard := none }) (fun _ _ => True) rfl (by decide) (fun _ _ _ _ _ => trivial) (fun v d T w' hb hj hd0 hd hdd hB K hK => ?sx15) ?rx15
  case sx15 =>
    have e36 := hd 3 36 _ (by decide) (by kernel_rfl) rfl rfl
    replace e36 : T.getD 36 undef = _ := e36
    have e38 := (hdd 5 (by kernel_rfl)).2 38 rfl
    have e39 := hd 6 39 _ (by decide) (by kernel_rfl) rfl rfl
    replace e39 : T.getD 39 undef = _ := e39
    rw [if_pos (wanted_none _ rfl)]
    have xq5 := (hdd 5 (by kernel_rfl)).1
    obtain ⟨Aq5, cq5, yq5, hlq5, hFq5⟩ := hj.2.1 (5, RowF (Kd.int .i64) q (fun k => k < w.heap.size)) (by simp) xq5
    replace e38 := e38.trans yq5
    have hcl := hF w' Aq5 cq5 hb hlq5 (Kd.F_now hFq5)
    clear hd hdd hB
    go_simp
    go_at_call 30
    refine hcl.mono ?_
    rintro e w2 ⟨A', c', rfl, hl', hF', hb'⟩
    have hfp : (TupF k30 r b (fun k => (k < w.heap.size ∧ P k) ∨ w.heap.size ≤ k)).p (fun k => okF 11 v d k ∨ w'.heap.size ≤ k) (.tuple #[.agg #[.int .i64 r.f0, .slice A' r.f1.length c'], .bool b]) w2 := ⟨_, _, rfl, hl', Kd.F_mono hF' (fun k hk => ⟨hk.elim (fun h => .inl (RetJ.old hj h.1)) .inr, hk.elim .inl (fun h => .inr (Nat.le_trans hj.1 h))⟩)⟩
    exact hK _ _ trivial (hb.trans (hb'.mono hb.size)) trivial (RetJ.val hj hd0 (by decide) (by decide) hb' (fun q hq e => by simp only [List.mem_cons, List.not_mem_nil, or_false] at hq; rcases hq with rfl | rfl | rfl | rfl <;> first | exact hfp | exact absurd e (by simp)))
  refine DetJ.cons (o := { dst := some 32, op := Op.move (Operand.tmp 40), type := 37, pos := "term.go:112", after := #[{ on := 7, ground := Ground.data }], guard := none }) (fun _ _ => True) rfl (by decide) (fun _ _ _ _ _ => trivial) (fun v d T w' hb hj hd0 hd hdd hB K hK => ?sx16) ?rx16
  case sx16 =>
    have e40 := (hdd 7 (by kernel_rfl)).2 40 rfl
    rw [if_pos (wanted_none _ rfl)]
    have xc := (hdd 7 (by kernel_rfl)).1
    obtain ⟨Ac, cc, yc, hlc, hFc⟩ := hj.2.1 (7, TupF k30 r b (fun k => (k < w.heap.size ∧ P k) ∨ w.heap.size ≤ k)) (by simp) xc
    replace e40 := e40.trans yc
    clear hd hdd hB
    go_simp
    exact hK _ _ trivial hb trivial (RetJ.val hj hd0 (by decide) (by decide) (Below.refl _ _) (fun q hq e => by simp only [List.mem_cons, List.not_mem_nil, or_false] at hq; rcases hq with rfl | rfl | rfl | rfl <;> first | exact ⟨_, _, rfl, hlc, Kd.F_mono hFc (fun k hk => ⟨.inl hk.1, hk.2⟩)⟩ | exact absurd e (by simp)))
  refine DetJ.cons (o := { dst := some 41, op := Op.extract (Operand.tmp 32) 0, type := 30, pos := "term.go:112", after := #[{ on := 8, ground := Ground.data }], guard := none }) (fun _ _ => True) rfl (by decide) (fun _ _ _ _ _ => trivial) (fun v d T w' hb hj hd0 hd hdd hB K hK => ?sx17) ?rx17
  case sx17 =>
    have e32 := (hdd 8 (by kernel_rfl)).2 32 rfl
    rw [if_pos (wanted_none _ rfl)]
    have xc := (hdd 8 (by kernel_rfl)).1
    obtain ⟨Ac, cc, yc, hlc, hFc⟩ := hj.2.1 (8, TupF k30 r b (fun k => (k < w.heap.size ∧ P k) ∨ w.heap.size ≤ k)) (by simp) xc
    replace e32 := e32.trans yc
    clear hd hdd hB
    go_simp
    exact hK _ _ trivial hb trivial (RetJ.val hj hd0 (by decide) (by decide) (Below.refl _ _) (fun q hq e => by simp only [List.mem_cons, List.not_mem_nil, or_false] at hq; rcases hq with rfl | rfl | rfl | rfl <;> first | exact ⟨_, _, rfl, hlc, Kd.F_mono hFc (fun k hk => ⟨.inl hk.1, hk.2⟩)⟩ | exact absurd e (by simp)))
  refine DetJ.cons (o := { dst := some 42, op := Op.extract (Operand.tmp 32) 1, type := 4, pos := "term.go:112", after := #[{ on := 8, ground := Ground.data }, { on := 12, ground := Ground.gcOnly Departure.lateStores }], guard := none }) (Told.is (.bool b)) rfl (by decide) (fun _ _ _ h _ => h) (fun v d T w' hb hj hd0 hd hdd hB K hK => ?sx18) ?rx18
  case sx18 =>
    have e32 := (hdd 8 (by kernel_rfl)).2 32 rfl
    rw [if_pos (wanted_none _ rfl)]
    have xc := (hdd 8 (by kernel_rfl)).1
    obtain ⟨Ac, cc, yc, hlc, hFc⟩ := hj.2.1 (8, TupF k30 r b (fun k => (k < w.heap.size ∧ P k) ∨ w.heap.size ≤ k)) (by simp) xc
    replace e32 := e32.trans yc
    clear hd hdd hB
    go_simp
    exact hK _ _ trivial hb rfl (RetJ.val hj hd0 (by decide) (by decide) (Below.refl _ _) (fun q hq e => by simp only [List.mem_cons, List.not_mem_nil, or_false] at hq; rcases hq with rfl | rfl | rfl | rfl <;> first | exact absurd e (by simp) | exact absurd e (by simp)))
  refine DetJ.cons (o := { dst := some 10, op := Op.alloc 30, type := 0, pos := "term.go:112", after := #[], guard := none }) (fun _ _ => True) rfl (by decide) (fun _ _ _ _ _ => trivial) (fun v d T w' hb hj hd0 hd hdd hB K hK => ?sx19) ?rx19
  case sx19 =>
    rw [if_pos (wanted_none _ rfl)]
    clear hd hdd hB
    go_simp
    exact hK _ _ trivial (below_alloc hb _) trivial (RetJ.alloc hj hd0 (by decide) (by decide) (by intro q hq; simp only [List.mem_cons, List.not_mem_nil, or_false] at hq; rcases hq with rfl | rfl | rfl | rfl <;> simp))
  refine DetJ.cons (o := { dst := none, op := Op.store 30 (Operand.tmp 10) (Operand.tmp 41), type := 0, pos := "term.go:112", after := #[{ on := 11, ground := Ground.data }, { on := 9, ground := Ground.data }, { on := 7, ground := Ground.chain }, { on := 0, ground := Ground.phase }, { on := 1, ground := Ground.phase }, { on := 2, ground := Ground.phase }, { on := 3, ground := Ground.phase }, { on := 4, ground := Ground.phase }, { on := 5, ground := Ground.phase }, { on := 6, ground := Ground.phase }, { on := 7, ground := Ground.phase }, { on := 8, ground := Ground.phase }, { on := 9, ground := Ground.phase }, { on := 10, ground := Ground.textOnly Departure.lateStores }, { on := 11, ground := Ground.phase }], guard := none }) (fun _ _ => True) rfl (by decide) (fun _ _ _ _ _ => trivial) (fun v d T w' hb hj hd0 hd hdd hB K hK => ?sx20) ?rx20
  case sx20 =>
    have e10 := (hdd 11 (by kernel_rfl)).2 10 rfl
    have e41 := (hdd 9 (by kernel_rfl)).2 41 rfl
    rw [if_pos (wanted_none _ rfl)]
    have ea := (hdd 11 (by kernel_rfl)).1
    have xx := (hdd 9 (by kernel_rfl)).1
    obtain ⟨Ax, cx, yx, hlx, hFx⟩ := hj.2.1 (9, TermF k30 r (fun k => (k < w.heap.size ∧ P k) ∨ w.heap.size ≤ k)) (by simp) xx
    have vx := (hdd 9 (by kernel_rfl)).2 41 rfl
    obtain ⟨g, va, hge, hlt, hbx⟩ := hj.2.2.1 ea
    rw [if_neg (by rw [hd0]; decide)] at hbx
    replace e10 := e10.trans va
    replace e41 := e41.trans yx
    have q0 : w'.cell? ⟨g, 0, none⟩ = some (.int .i64 0) := (blk_cell hbx 0).trans rfl
    have q1 : w'.cell? ⟨g, 1, none⟩ = some (.slice none 0 0) := (blk_cell hbx 1).trans rfl
    have z0 := blk_frozen hbx 0
    have z1 := blk_frozen hbx 1
    have hd0' := Aside0.mk hd0
    have yx' := Aside0.mk yx
    have va' := Aside0.mk va
    clear hd hdd hB vx hd0 yx va
    go_simp
    refine hK undef _ trivial ((hb.setCell hge _).setCell hge _) trivial (RetJ.store hj hd0'.out (by decide) (by decide) (by intro q hq; simp only [List.mem_cons, List.not_mem_nil, or_false] at hq; rcases hq with rfl | rfl | rfl | rfl <;> simp) ea xx va'.out ?_ (fun k hk => setCell2_far k hk) (by rw [setCell_size, setCell_size]))
    refine (blk_set (blk_set hbx 0 _) 1 _).trans ?_
    rw [yx'.out]
    rfl
  refine DetJ.is (o := { dst := some 11, op := Op.assign (Operand.tmp 42), type := 4, pos := "term.go:112", after := #[{ on := 10, ground := Ground.data }, { on := 12, ground := Ground.chain }, { on := 0, ground := Ground.phase }, { on := 1, ground := Ground.phase }, { on := 2, ground := Ground.phase }, { on := 3, ground := Ground.phase }, { on := 4, ground := Ground.phase }, { on := 5, ground := Ground.phase }, { on := 6, ground := Ground.phase }, { on := 7, ground := Ground.phase }, { on := 8, ground := Ground.phase }, { on := 9, ground := Ground.phase }, { on := 10, ground := Ground.phase }, { on := 11, ground := Ground.phase }, { on := 12, ground := Ground.phase }], guard := none }) (u := ?ux21) (fun _ _ _ => trivial) [5, 7, 8, 9, 11, 12] hJo rfl (by decide) (by decide) (fun T w' hb hd hB K hK => ?sx21) ?rx21
  case sx21 =>
    have e42 := hd 10 42 _ (by decide) (by kernel_rfl) rfl rfl
    replace e42 : T.getD 42 undef = _ := e42
    rw [if_pos (wanted_none _ rfl)]
    clear hd hB
    go_simp
    exact hK _ (Below.refl _ _)
  refine DetJ.done [some 33, some 34, some 35, some 36, some 37, some 38, some 39, some 40, some 32, some 41, some 42, some 10, none, some 11] (by kernel_rfl) rfl rfl ?_
  intro v d w' hb hv hall hj
  obtain ⟨g, A', c', h1, h2, h3, h4, h5⟩ := RetJ.box hj (x := r) (kd := k30) (by simp; rfl) (hall 11 (by decide)) (hall 12 (by decide)) (hall 9 (by decide))
  exact hK v w' g A' c' hb (hv 13 _ (by decide) rfl) h1 h2 h3 h4 h5
end Go.Proofs.Ytpfddihcikiofaa.P
end

section
namespace Go.Proofs.Ytpfddihcikiofaa.P
open Go.RowKit Go.Proofs.YtpfddihcikiofaaW.PrintWords Go.Proofs.YtpfddihcikiofaaW.PrintLast Go.Proofs.YtpfddihcikiofaaW.PrintMore
set_option linter.unusedVariables false
set_option linter.unusedSimpArgs false
def partsT (t : S30) : List S30 := if t.f0 < 0 then [] else t.f1
def putT : List Int → S30 → S30 → Option S30
  | [], _, u => some (cloneT u)
  | i :: q, t, u => if i < 0 ∨ ((partsT t).length : Int) ≤ i then none else (putT q (rd_T30 (partsT t) i) u).map fun x => ⟨t.f0, (cloneT t).f1.set i.toNat x⟩
theorem parts_f (t : S30) : term_parts.f t.f0 t.f1 = some (partsT t) := by
  unfold term_parts.f partsT
  split <;> rfl
theorem Clone_fit : ∀ t : S30, fit t → Ev (fun k => term_Clone.f k t.f0 t.f1) ((cloneT t).f0, (cloneT t).f1) := by
  refine S30.ind ?_
  intro f l ih hfit
  have key : ∀ q : List S30, q.length ≤ 1000000 → (∀ x ∈ q, Ev (fun k => term_Clone.f k x.f0 x.f1) ((cloneT x).f0, (cloneT x).f1)) → ∀ n i, q.length - i = n → i ≤ q.length → Ev (fun k => term_Clone.l0 k q (q.length : Int) (i : Int) f ((q.take i).map cloneT)) (f, q.map cloneT) := by
    intro q hq hx n
    induction n with
    | zero =>
      intro i hi hle
      refine Ev.step (f := fun _ => some (f, q.map cloneT)) (fun k => by rw [term_Clone.l0, if_neg (by omega), List.take_of_length_le (by omega)]) (Ev.now _)
    | succ n ihn =>
      intro i hi hle
      have hlt : i < q.length := by omega
      refine Ev.step (f := fun k => (term_Clone.f k q[i].f0 q[i].f1).bind fun t => if ((q.take i).map cloneT).length < 4398046511104 then term_Clone.l0 k q (q.length : Int) ((i + 1 : Nat) : Int) f ((q.take i).map cloneT ++ [(⟨t.1, t.2⟩ : S30)]) else none) (fun k => ?_) (Ev.bind (hx q[i] (List.getElem_mem hlt)) ?_)
      · rw [term_Clone.l0, if_pos (by omega), if_pos (by omega), if_pos (by omega), rdC_at q i hlt, wsucc i q.length hlt (by omega)]
      · simp only [List.length_map, List.length_take]
        simp only [if_pos (show min i q.length < 4398046511104 by omega)]
        have := ihn (i + 1) (by omega) (by omega)
        rw [List.take_succ_eq_append_getElem hlt, List.map_append] at this
        simp only [S30.eta]
        exact this
  by_cases hf : f < 0
  · refine Ev.step (f := fun k => term_Clone.l0 k [] (([] : List S30).length : Int) 0 f []) (fun k => ?_) ?_
    · rw [term_Clone.f]; simp [term_parts.f, hf]
    · have := key [] (by simp) (fun x hx => by cases hx) 0 0 rfl (by simp)
      simpa [cloneT, hf] using this
  · obtain ⟨hll, hsub⟩ := fit_sub hf hfit
    refine Ev.step (f := fun k => term_Clone.l0 k l (l.length : Int) 0 f []) (fun k => ?_) ?_
    · rw [term_Clone.f]; simp [term_parts.f, hf]
    · have := key l hll (fun x hx => ih x hx (hsub x hx)) l.length 0 rfl (by omega)
      simpa [cloneT, hf, cloneTs_eq] using this
theorem parts_clone (t : S30) : (cloneT t).f1 = (partsT t).map cloneT := by
  obtain ⟨f, l⟩ := t
  unfold partsT
  simp only [cloneT]
  split
  · rfl
  · rw [cloneTs_eq]
theorem fit_parts {t : S30} (h : fit t) : (partsT t).length ≤ 1000000 ∧ ∀ x ∈ partsT t, fit x := by
  obtain ⟨f, l⟩ := t
  unfold partsT
  by_cases hf : f < 0
  · simp [hf]
  · simp only [hf, if_false]
    exact fit_sub hf h
theorem seg_all {c seg : List Value} (h : c.length = seg.length) : c.take 0 ++ seg ++ c.drop (0 + seg.length) = seg := by
  rw [List.take_zero, List.nil_append, List.drop_of_length_le (by omega), List.append_nil]
def PutOk (p : List Int) : Prop := ∀ (t u : S30) (P : Nat → Prop) (A Ap Au : Option Addr) (c cp cu : Nat) (w : World), fit t → fit u → Kd.F k30 w P A t.f1.length t.f1 → t.f1.length ≤ c → Kd.C (Kd.int .i64) w Ap p.length p → p.length ≤ cp → Kd.F k30 w P Au u.f1.length u.f1 → u.f1.length ≤ cu →
  Calls Try.prog 30 #[.agg #[.int .i64 t.f0, .slice A t.f1.length c], .slice Ap p.length cp, .agg #[.int .i64 u.f0, .slice Au u.f1.length cu]] w fun e w' => ∃ A' c', e = .returned (.tuple #[.agg #[.int .i64 ((putT p t u).getD ⟨0, []⟩).f0, .slice A' ((putT p t u).getD ⟨0, []⟩).f1.length c'], .bool (putT p t u).isSome]) ∧ ((putT p t u).getD ⟨0, []⟩).f1.length ≤ c' ∧
    Kd.F k30 w' (fun k => P k ∨ w.heap.size ≤ k) A' ((putT p t u).getD ⟨0, []⟩).f1.length ((putT p t u).getD ⟨0, []⟩).f1 ∧ Below w.heap.size w w'
set_option maxHeartbeats 4000000 in
set_option maxRecDepth 100000 in
theorem Put_nil : PutOk [] := by
  intro t u P A Ap Au c cp cu w hft hfu hF hc hC hcp hFu hcu
  obtain ⟨kc, hcl⟩ := (Clone_fit u hfu).rounds
  have hb3 : Below w.heap.size w (((w.alloc (.cells #[.int .i64 t.f0, .slice A t.f1.length c] 30)).alloc (.cells #[.int .i64 u.f0, .slice Au u.f1.length cu] 30)).alloc (.cells #[.int .i64 0, .slice none 0 0] 30)) := below_alloc (below_alloc (below_alloc (Below.refl _ _) _) _) _
  have hcall := Aside0.mk (term_Clone.calls kc u.f0 Au cu u.f1 (cloneT u).f0 (cloneT u).f1 _ (Kd.C_below (Kd.F_now hFu) hb3) hcu hcl)
  have hbz := Aside0.mk hb3
  have hbx := heap_alloc_new ((w.alloc (.cells #[.int .i64 t.f0, .slice A t.f1.length c] 30)).alloc (.cells #[.int .i64 u.f0, .slice Au u.f1.length cu] 30)) (.cells #[.int .i64 0, .slice none 0 0] 30)
  rw [World.size_alloc, World.size_alloc] at hbx
  have hbxz := Aside0.mk hbx
  clear hft hfu hF hC hFu hcl hb3 hbx
  simp only [putT, Option.getD_some, Option.isSome_some, List.length_nil]
  go_enter Try.func30, Try.ntmps30
  go_wp2_with (go_at_call 38; refine hcall.out.mono ?_; rintro e w4 ⟨v1, rfl, hR, hb4⟩; obtain ⟨A1, c1, hv1⟩ := Kd.R_slice hR; subst hv1; have hbx4 := blk_below hbxz.out hb4; have q0 : w4.cell? ⟨w.heap.size + 1 + 1, 0, none⟩ = some (.int .i64 0) := (blk_cell hbx4 0).trans rfl; have q1 : w4.cell? ⟨w.heap.size + 1 + 1, 1, none⟩ = some (.slice none 0 0) := (blk_cell hbx4 1).trans rfl; have z0 := blk_frozen hbx4 0; have z1 := blk_frozen hbx4 1; have HR := Aside0.mk hR; have HX := Aside0.mk hbx4; have HB4 := Aside0.mk hb4; clear hR hb4 hbx4)
  have hset := blk_set (blk_set HX.out 0 (.int .i64 (cloneT u).f0)) 1 (.slice A1 (cloneT u).f1.length c1)
  have hg : w.heap.size ≤ w.heap.size + 1 + 1 := by omega
  have hbig : w.heap.size + 1 + 1 < (((w.alloc (.cells #[.int .i64 t.f0, .slice A t.f1.length c] 30)).alloc (.cells #[.int .i64 u.f0, .slice Au u.f1.length cu] 30)).alloc (.cells #[.int .i64 0, .slice none 0 0] 30)).heap.size := by simp
  have hV := Kd.V_F (Kd.R_V (base' := 0) (Kd.R_bound HR.out))
  have hV2 := Kd.F_step (W1 := (w4.setCell ⟨w.heap.size + 1 + 1, 0, none⟩ (.int .i64 (cloneT u).f0)).setCell ⟨w.heap.size + 1 + 1, 1, none⟩ (.slice A1 (cloneT u).f1.length c1)) hV (fun k hk hlt => setCell2_far k (by have := hk.2.1; omega))
  have hl1 := (Kd.R_reads' HR.out).2.1
  refine bodyPost_ret (results_ct rfl _ _ (w.heap.size + 1 + 1) 30 #[.int .i64 (cloneT u).f0, .slice A1 (cloneT u).f1.length c1] (0, 0) _ rfl hset Try.underlying30 rfl (by kernel_rfl)) rfl ?_
  exact ⟨A1, c1, rfl, hl1, Kd.F_mono hV2 (fun k hk => .inr (by have := hk.2.1; omega)), below_set2 (hbz.out.trans (HB4.out.mono hbz.out.size)) hg⟩
theorem T_storeN {base g n cap : Nat} {ok okp : Nat → Prop} {W : World} {xs : List S30} (h : Kd.N k30 30 W base ok (.slice (some ⟨g, 0, none⟩) n cap) xs) (i : Nat) (hi : i < n) {x' : S30} {A : Option Addr} {c : Nat} (hc : x'.f1.length ≤ c)
    (hx : Kd.F k30 W okp A x'.f1.length x'.f1) (hok : ∀ k, okp k → ok k ∧ k ≠ g) : Kd.N k30 30 ((W.setCell ⟨g, i * 2, none⟩ (.int .i64 x'.f0)).setCell ⟨g, i * 2 + 1, none⟩ (.slice A x'.f1.length c)) base ok (.slice (some ⟨g, 0, none⟩) n cap) (xs.set i x') := by
  obtain ⟨c0, hcl, _, hcc, _⟩ := Kd.N_elem h z30 (i : Int) (by omega) (by omega)
  have h2 := (Kd.N_seg h (i : Int) (by omega) (by omega) (c := c0) (seg := [.int .i64 x'.f0, .slice A x'.f1.length c]) (j := 0) hcl hcc (by show 0 + 2 ≤ 2; omega) (x' := x') (by rw [seg_all (by show c0.length = 2; exact hcl)]; exact k30_mkF W okp x' hc hx) hok).1
  rw [Int.toNat_natCast] at h2
  exact h2
set_option maxHeartbeats 8000000 in
set_option maxRecDepth 100000 in
theorem Put_cons (i : Int) (q : List Int) (ih : PutOk q) : PutOk (i :: q) := by
  intro t u P A Ap Au c cp cu w hft hfu hF hc hC hcp hFu hcu
  obtain ⟨ad, rfl, hi0⟩ : ∃ ad, Ap = some ad ∧ w.cell? ad = some (.int .i64 i) := by
    obtain ⟨_, _, h3⟩ := hC
    obtain ⟨ad, e, h4⟩ := h3 (by simp)
    obtain ⟨cc, h5, h6, h7⟩ := h4 0 i rfl
    refine ⟨ad, e, ?_⟩
    have h8 := h7 0 (.int .i64 i) (by have h9 : cc = [.int .i64 i] := h6; rw [h9]; rfl)
    exact h8
  obtain ⟨p, hp⟩ : ∃ p, p = i :: q := ⟨_, rfl⟩
  have hpl : 0 < p.length := by rw [hp]; simp
  have hpl2 : ((p.length : Int) == 0) = false := by rw [beq_eq_false_iff_ne]; omega
  have hpm := hC.2.1
  rw [← hp] at hC hcp hpm ⊢
  have hps := parts_f t
  obtain ⟨ps, hpse⟩ : ∃ ps, ps = partsT t := ⟨_, rfl⟩
  have hput : putT p t u = if i < 0 ∨ (ps.length : Int) ≤ i then none else (putT q (rd_T30 ps i) u).map fun x => ⟨t.f0, (cloneT t).f1.set i.toNat x⟩ := by rw [hp, hpse]; rfl
  rw [← hpse] at hps
  have hfps := fit_parts hft
  rw [← hpse] at hfps
  have hclen : (cloneT t).f1.length = ps.length := by rw [parts_clone, ← hpse, List.length_map]
  have hb3 : Below w.heap.size w (((w.alloc (.cells #[.int .i64 t.f0, .slice A t.f1.length c] 30)).alloc (.cells #[.int .i64 u.f0, .slice Au u.f1.length cu] 30)).alloc (.cells #[.int .i64 0, .slice none 0 0] 30)) := below_alloc (below_alloc (below_alloc (Below.refl _ _) _) _) _
  obtain ⟨w3, hw3⟩ : ∃ w3, w3 = (((w.alloc (.cells #[.int .i64 t.f0, .slice A t.f1.length c] 30)).alloc (.cells #[.int .i64 u.f0, .slice Au u.f1.length cu] 30)).alloc (.cells #[.int .i64 0, .slice none 0 0] 30)) := ⟨_, rfl⟩
  have hx0 : w3.heap[w.heap.size]? = some (.cells #[.int .i64 t.f0, .slice A t.f1.length c] 30 (0, 0)) := by rw [hw3]; exact blk_alloc (blk_alloc (heap_alloc_new _ _) _) _
  have hx1 : w3.heap[w.heap.size + 1]? = some (.cells #[.int .i64 u.f0, .slice Au u.f1.length cu] 30 (0, 0)) := by
    rw [hw3]
    have := heap_alloc_new (w.alloc (.cells #[.int .i64 t.f0, .slice A t.f1.length c] 30)) (.cells #[.int .i64 u.f0, .slice Au u.f1.length cu] 30)
    rw [World.size_alloc] at this
    exact blk_alloc this _
  have hx2 : w3.heap[w.heap.size + 1 + 1]? = some (.cells #[.int .i64 0, .slice none 0 0] 30 (0, 0)) := by
    rw [hw3]
    have := heap_alloc_new ((w.alloc (.cells #[.int .i64 t.f0, .slice A t.f1.length c] 30)).alloc (.cells #[.int .i64 u.f0, .slice Au u.f1.length cu] 30)) (.cells #[.int .i64 0, .slice none 0 0] 30)
    rw [World.size_alloc, World.size_alloc] at this
    exact this
  have hs3 : w3.heap.size = w.heap.size + 3 := by rw [hw3]; simp
  rw [← hw3] at hb3
  have HX0 := Aside0.mk hx0
  have HX1 := Aside0.mk hx1
  have HX2 := Aside0.mk hx2
  have HB3 := Aside0.mk hb3
  have HF := Aside0.mk hF
  have HFu := Aside0.mk hFu
  have HC := Aside0.mk hC
  have HI := Aside0.mk hi0
  have HP := Aside0.mk hp
  have HPUT := Aside0.mk hput
  have HPS := Aside0.mk hps
  have HFIT := Aside0.mk (And.intro hft (And.intro hfu hfps))
  have HIH := Aside0.mk ih
  have HS3 := Aside0.mk hs3
  have HCL := Aside0.mk hclen
  have HPM := Aside0.mk (And.intro hpl (And.intro hcp (And.intro hcu hc)))
  have hw3' := Aside0.mk hw3
  clear hft hfu hF hC hFu hx0 hx1 hx2 hb3 hi0 hp hput hps hfps ih hs3 hclen hpse hw3 hpl hcp
  go_enter Try.func30, Try.ntmps30
  go_wp2
  rw [← hw3'.out]
  refine Put_r3 (f := t.f0) (i := i) (gt := w.heap.size) (ps := ps) (P := fun k => (P k ∧ k < w.heap.size) ∨ w3.heap.size ≤ k) (by kernel_rfl) rfl rfl HX0.out HPM.out.1 ((HB3.out.cell (cell_lt' HI.out)).trans HI.out) ?_ ?_
  · intro w1 hb
    refine (term_parts.calls t.f0 (fun k => P k ∧ k < w.heap.size) A c t.f1 ps w1 (Kd.V_mk HPM.out.2.2.2 (Kd.F_below (Kd.F_below (Kd.F_bound HF.out) HB3.out) hb)) HPS.out).mono (fun e w2 ⟨v0, h1, h2, h3⟩ => ⟨v0, h1, ?_, h3⟩)
    exact Kd.V_mono h2 (fun k hk => hk.elim .inl (fun h => .inr (Nat.le_trans hb.size h)))
  intro v w4 hb4 hv5 hv6
  obtain ⟨A6, c6, hv6e, hl6, hF6⟩ := hv6
  simp only [layL, Nat.reduceAdd, List.setIfInBounds_toArray, List.set_cons_zero, List.set_cons_succ, hv5, hv6e]
  clear hv5 hv6e
  generalize v 0 = y0
  generalize v 1 = y1
  generalize v 2 = y2
  generalize v 3 = y3
  generalize v 4 = y4
  clear v
  have HF6 := Aside0.mk hF6
  have HB4 := Aside0.mk hb4
  clear hF6 hb4
  have k20 : w4.cell? ⟨w.heap.size + 1 + 1, 0, none⟩ = some (.int .i64 0) := (blk_cell (blk_below HX2.out HB4.out) 0).trans rfl
  have k21 : w4.cell? ⟨w.heap.size + 1 + 1, 1, none⟩ = some (.slice none 0 0) := (blk_cell (blk_below HX2.out HB4.out) 1).trans rfl
  have z20 := blk_frozen (blk_below HX2.out HB4.out) 0
  have z21 := blk_frozen (blk_below HX2.out HB4.out) 1
  have hnone : (i < 0 ∨ (ps.length : Int) ≤ i) → putT p t u = none := fun h => by rw [HPUT.out, if_pos h]
  have hres0 := blk_set (blk_set (blk_below HX2.out HB4.out) 0 (.int .i64 0)) 1 (.slice none 0 0)
  have hbb4 : Below w.heap.size w ((w4.setCell ⟨w.heap.size + 1 + 1, 0, none⟩ (.int .i64 0)).setCell ⟨w.heap.size + 1 + 1, 1, none⟩ (.slice none 0 0)) := below_set2 (HB3.out.trans (HB4.out.mono HB3.out.size)) (by omega)
  have HR0 := Aside0.mk (And.intro hres0 hbb4)
  have HN := Aside0.mk hnone
  clear hres0 hbb4 hnone
  by_cases hneg : i < 0
  · have hd : decide (i < 0) = true := decide_eq_true hneg
    have hnn := Aside0.mk (HN.out (.inl hneg))
    clear hneg
    go_wp2
    refine bodyPost_ret (results_ct rfl _ _ (w.heap.size + 1 + 1) 30 #[.int .i64 0, .slice none 0 0] (0, 0) _ rfl HR0.out.1 Try.underlying30 rfl (by kernel_rfl)) rfl ?_
    rw [hnn.out]
    exact ⟨none, 0, rfl, Nat.le_refl _, Kd.F_nil _ _ _, HR0.out.2⟩
  · have hd : decide (i < 0) = false := decide_eq_false hneg
    by_cases hge : (ps.length : Int) ≤ i
    · have hd2 : decide ((ps.length : Int) ≤ i) = true := decide_eq_true hge
      have hnn := Aside0.mk (HN.out (.inr hge))
      clear hneg hge
      go_wp2
      refine bodyPost_ret (results_ct rfl _ _ (w.heap.size + 1 + 1) 30 #[.int .i64 0, .slice none 0 0] (0, 0) _ rfl HR0.out.1 Try.underlying30 rfl (by kernel_rfl)) rfl ?_
      rw [hnn.out]
      exact ⟨none, 0, rfl, Nat.le_refl _, Kd.F_nil _ _ _, HR0.out.2⟩
    · have hd2 : decide ((ps.length : Int) ≤ i) = false := decide_eq_false hge
      clear k20 k21 z20 z21
      have hit : i.toNat < ps.length := by omega
      have hi2 : (i.toNat : Int) = i := by omega
      obtain ⟨x, hx⟩ : ∃ x, x = ps[i.toNat] := ⟨_, rfl⟩
      have hrd : rd_T30 ps i = x := by rw [hx, ← rdC_at ps i.toNat hit, hi2]
      obtain ⟨ad6, A1, c1, hA6, hc0, hc1, hl1, hF1⟩ := at_F30 HF6.out i.toNat hit
      rw [← hx] at hc0 hc1 hl1 hF1
      subst hA6
      have hfx : fit x := by rw [hx]; exact HFIT.out.2.2.2 _ (List.getElem_mem hit)
      obtain ⟨o, ho⟩ : ∃ o, o = putT q x u := ⟨_, rfl⟩
      have hputs : putT p t u = o.map fun y => ⟨t.f0, (cloneT t).f1.set i.toNat y⟩ := by rw [HPUT.out, if_neg (by omega), hrd, ← ho]
      obtain ⟨r, hr⟩ : ∃ r, r = o.getD ⟨0, []⟩ := ⟨_, rfl⟩
      obtain ⟨b, hb⟩ : ∃ b, b = o.isSome := ⟨_, rfl⟩
      have hih := HIH.out x u
      rw [← ho, ← hr, ← hb] at hih
      have HIX := Aside0.mk hih
      have HPS2 := Aside0.mk hputs
      have HO := Aside0.mk (And.intro hr hb)
      have HL1 := Aside0.mk hl1
      have HF1 := Aside0.mk hF1
      have HFX := Aside0.mk hfx
      have HIT := Aside0.mk (And.intro hit hi2)
      have HC0 := Aside0.mk hc0
      have HC1 := Aside0.mk hc1
      clear hih hputs hr hb hl1 hF1 hfx hit hi2 hc0 hc1 hrd hx ho HIH HN HR0
      go_wp2
      refine Put_r6 (i := i) (gu := w.heap.size + 1) (n := ps.length) (c := c6) (x := x) (u := u) (r := r) (b := b) (ad := ad6) (Ap := ad) (p := p) (q := q) (P := fun k => (P k ∧ k < w.heap.size) ∨ w3.heap.size ≤ k) (by kernel_rfl) rfl rfl rfl rfl (blk_below HX1.out HB4.out) ⟨by rw [HP.out]; rfl⟩ (by omega) HC0.out HC1.out HPM.out.1 HPM.out.2.1 (Kd.C_below (Kd.C_below HC.out HB3.out) HB4.out) ?_ ?_
      · intro w1 Aq c2 hb hl hCq
        refine (HIX.out (fun k => k < w4.heap.size ∧ ((P k ∧ k < w.heap.size) ∨ w3.heap.size ≤ k)) A1 Aq Au c1 c2 cu w1 HFX.out HFIT.out.2.1 ?_ HL1.out hCq hl ?_ HPM.out.2.2.1).mono (fun e w2 ⟨A', c', h1, h2, h3, h4⟩ => ⟨A', c', h1, h2, h3, h4⟩)
        · exact Kd.F_mono (Kd.F_below (Kd.F_bound HF1.out) hb) (fun k hk => ⟨hk.2, hk.1⟩)
        · exact Kd.F_mono (Kd.F_below (Kd.F_bound (Kd.F_below (Kd.F_below (Kd.F_bound HFu.out) HB3.out) HB4.out)) hb) (fun k hk => ⟨hk.2, .inl hk.1⟩)
      intro v w5 g A' c' hb5 hv13 hv11 hge5 hbx5 hl5 hF5
      simp only [layL, Nat.reduceAdd, List.setIfInBounds_toArray, List.set_cons_zero, List.set_cons_succ, hv13, hv11]
      clear hv13 hv11
      generalize v 0 = x0
      generalize v 1 = x1
      generalize v 2 = x2
      generalize v 3 = x3
      generalize v 4 = x4
      generalize v 5 = x5
      generalize v 6 = x6
      generalize v 7 = x7
      generalize v 8 = x8
      generalize v 9 = x9
      generalize v 10 = x10
      clear v
      have HX05 := blk_below (blk_below HX0.out HB4.out) hb5
      have HX25 := blk_below (blk_below HX2.out HB4.out) hb5
      have k00 : w5.cell? ⟨w.heap.size, 0, none⟩ = some (.int .i64 t.f0) := (blk_cell HX05 0).trans rfl
      have k01 : w5.cell? ⟨w.heap.size, 1, none⟩ = some (.slice A t.f1.length c) := (blk_cell HX05 1).trans rfl
      have k20 : w5.cell? ⟨w.heap.size + 1 + 1, 0, none⟩ = some (.int .i64 0) := (blk_cell HX25 0).trans rfl
      have k21 : w5.cell? ⟨w.heap.size + 1 + 1, 1, none⟩ = some (.slice none 0 0) := (blk_cell HX25 1).trans rfl
      have z20 := blk_frozen HX25 0
      have z21 := blk_frozen HX25 1
      have HZ0 := Aside0.mk HX05
      have HZ2 := Aside0.mk HX25
      have HB5 := Aside0.mk ((HB3.out.trans (HB4.out.mono HB3.out.size)).trans (hb5.mono (Nat.le_trans HB3.out.size HB4.out.size)))
      have HBX := Aside0.mk hbx5
      have HF5 := Aside0.mk hF5
      have HG5 := Aside0.mk (And.intro hge5 hl5)
      have HB5' := Aside0.mk hb5
      clear HX05 HX25 hbx5 hF5 hge5 hl5 hb5 HIX HC0 HC1 HF1 HL1 HFX
      cases b with
      | false =>
        have hnn := Aside0.mk (show putT p t u = none by
          rw [HPS2.out]
          have h1 := HO.out.2
          cases o with
          | none => rfl
          | some y => cases h1)
        have hres0 := Aside0.mk (blk_set (blk_set HZ2.out 0 (.int .i64 0)) 1 (.slice none 0 0))
        have hbb := Aside0.mk (show Below w.heap.size w ((w5.setCell ⟨w.heap.size + 1 + 1, 0, none⟩ (.int .i64 0)).setCell ⟨w.heap.size + 1 + 1, 1, none⟩ (.slice none 0 0)) from below_set2 HB5.out (by omega))
        go_wp2
        refine bodyPost_ret (results_ct rfl _ _ (w.heap.size + 1 + 1) 30 #[.int .i64 0, .slice none 0 0] (0, 0) _ rfl hres0.out Try.underlying30 rfl (by kernel_rfl)) rfl ?_
        rw [hnn.out]
        exact ⟨none, 0, rfl, Nat.le_refl _, Kd.F_nil _ _ _, hbb.out⟩
      | true =>
        obtain ⟨kc, hcl⟩ := (Clone_fit t HFIT.out.1).rounds
        have hcall := Aside0.mk (term_Clone.calls kc t.f0 A c t.f1 (cloneT t).f0 (cloneT t).f1 w5 (Kd.C_below (Kd.C_below (Kd.C_below (Kd.F_now HF.out) HB3.out) HB4.out) HB5'.out) HPM.out.2.2.2 hcl)
        clear hcl
        have hilt : i < ((cloneT t).f1.length : Int) := by rw [HCL.out]; omega
        have kg0 : w5.cell? ⟨g, 0, none⟩ = some (.int .i64 r.f0) := (blk_cell HBX.out 0).trans rfl
        go_wp2_with (go_at_call 38; refine hcall.out.mono ?_; rintro e w6 ⟨v1, rfl, hR, hb6⟩; obtain ⟨gc, cap, ccs, d0, d1, hv1, hgcb, hgcl, hccs, u0, u1⟩ := T_cells hR i.toNat (by rw [HCL.out]; exact HIT.out.1); subst hv1; have HR := Aside0.mk hR; have HB6 := Aside0.mk hb6; have HCCS := Aside0.mk hccs; have HU := Aside0.mk (And.intro u0 u1); have HG := Aside0.mk (And.intro hgcb hgcl); have p0 : (w6.alloc (.cells #[.int .i64 (cloneT t).f0, .slice (some ⟨gc, 0, none⟩) (cloneT t).f1.length cap] 30)).cell? ⟨g, 0, none⟩ = some (.int .i64 r.f0) := (blk_cell (blk_alloc (blk_below HBX.out hb6) _) 0).trans rfl; have p1 : (w6.alloc (.cells #[.int .i64 (cloneT t).f0, .slice (some ⟨gc, 0, none⟩) (cloneT t).f1.length cap] 30)).cell? ⟨g, 1, none⟩ = some (.slice A' r.f1.length c') := (blk_cell (blk_alloc (blk_below HBX.out hb6) _) 1).trans rfl; have p2 : (w6.alloc (.cells #[.int .i64 (cloneT t).f0, .slice (some ⟨gc, 0, none⟩) (cloneT t).f1.length cap] 30)).cell? ⟨gc, i.toNat * 2, none⟩ = some d0 := (blk_cell (blk_alloc hccs _) _).trans u0; have p3 : ((w6.alloc (.cells #[.int .i64 (cloneT t).f0, .slice (some ⟨gc, 0, none⟩) (cloneT t).f1.length cap] 30)).setCell ⟨gc, i.toNat * 2, none⟩ (.int .i64 r.f0)).cell? ⟨gc, i.toNat * 2 + 1, none⟩ = some d1 := (blk_cell (blk_set (blk_alloc hccs _) _ _) _).trans ((Array.getElem?_setIfInBounds_ne (by omega)).trans u1); have z2 := blk_frozen (blk_alloc hccs (.cells #[.int .i64 (cloneT t).f0, .slice (some ⟨gc, 0, none⟩) (cloneT t).f1.length cap] 30)) (i.toNat * 2); have z3 := blk_frozen (blk_set (blk_alloc hccs (.cells #[.int .i64 (cloneT t).f0, .slice (some ⟨gc, 0, none⟩) (cloneT t).f1.length cap] 30)) (i.toNat * 2) (.int .i64 r.f0)) (i.toNat * 2 + 1); have hne12 : w6.heap.size ≠ gc := Nat.ne_of_gt hgcl; have hne2 : w.heap.size + 1 + 1 ≠ gc := (fun e => by have := blk_lt HZ2.out; omega); have hB12 := blk_far (p := ⟨gc, i.toNat * 2 + 1, none⟩) (blk_far (p := ⟨gc, i.toNat * 2, none⟩) (heap_alloc_new w6 (.cells #[.int .i64 (cloneT t).f0, .slice (some ⟨gc, 0, none⟩) (cloneT t).f1.length cap] 30)) hne12 (.int .i64 r.f0)) hne12 (.slice A' r.f1.length c'); have hB2 := blk_far (p := ⟨gc, i.toNat * 2 + 1, none⟩) (blk_far (p := ⟨gc, i.toNat * 2, none⟩) (blk_alloc (blk_below HZ2.out hb6) (.cells #[.int .i64 (cloneT t).f0, .slice (some ⟨gc, 0, none⟩) (cloneT t).f1.length cap] 30)) hne2 (.int .i64 r.f0)) hne2 (.slice A' r.f1.length c'); have m0 : (((w6.alloc (.cells #[.int .i64 (cloneT t).f0, .slice (some ⟨gc, 0, none⟩) (cloneT t).f1.length cap] 30)).setCell ⟨gc, i.toNat * 2, none⟩ (.int .i64 r.f0)).setCell ⟨gc, i.toNat * 2 + 1, none⟩ (.slice A' r.f1.length c')).cell? ⟨w6.heap.size, 0, none⟩ = some (.int .i64 (cloneT t).f0) := (blk_cell hB12 0).trans rfl; have m1 : (((w6.alloc (.cells #[.int .i64 (cloneT t).f0, .slice (some ⟨gc, 0, none⟩) (cloneT t).f1.length cap] 30)).setCell ⟨gc, i.toNat * 2, none⟩ (.int .i64 r.f0)).setCell ⟨gc, i.toNat * 2 + 1, none⟩ (.slice A' r.f1.length c')).cell? ⟨w6.heap.size, 1, none⟩ = some (.slice (some ⟨gc, 0, none⟩) (cloneT t).f1.length cap) := (blk_cell hB12 1).trans rfl; have m2 : (((w6.alloc (.cells #[.int .i64 (cloneT t).f0, .slice (some ⟨gc, 0, none⟩) (cloneT t).f1.length cap] 30)).setCell ⟨gc, i.toNat * 2, none⟩ (.int .i64 r.f0)).setCell ⟨gc, i.toNat * 2 + 1, none⟩ (.slice A' r.f1.length c')).cell? ⟨w.heap.size + 1 + 1, 0, none⟩ = some (.int .i64 0) := (blk_cell hB2 0).trans rfl; have m3 : ((((w6.alloc (.cells #[.int .i64 (cloneT t).f0, .slice (some ⟨gc, 0, none⟩) (cloneT t).f1.length cap] 30)).setCell ⟨gc, i.toNat * 2, none⟩ (.int .i64 r.f0)).setCell ⟨gc, i.toNat * 2 + 1, none⟩ (.slice A' r.f1.length c')).setCell ⟨w.heap.size + 1 + 1, 0, none⟩ (.int .i64 (cloneT t).f0)).cell? ⟨w.heap.size + 1 + 1, 1, none⟩ = some (.slice none 0 0) := (blk_cell (blk_set hB2 0 _) 1).trans rfl; have z4 := blk_frozen hB2 0; have z5 := blk_frozen (blk_set hB2 0 (.int .i64 (cloneT t).f0)) 1; have HB2 := Aside0.mk hB2; clear hB2 hB12 hne12; clear hR hb6 hccs u0 u1 hgcb hgcl)
        have hN0 := Kd.R_N (Kd.R_mono (ok' := fun k => (P k ∧ k < w.heap.size) ∨ w3.heap.size ≤ k) (Kd.R_bound HR.out) (fun k hk => .inr (by have := hk.2.1; have := HB4.out.size; have := HB5'.out.size; omega)))
        have hF6 := Kd.F_alloc (Kd.F_below (Kd.F_bound HF5.out) HB6.out) (.cells #[.int .i64 (cloneT t).f0, .slice (some ⟨gc, 0, none⟩) (cloneT t).f1.length cap] 30)
        have hN1 := T_storeN (Kd.N_alloc hN0 (.cells #[.int .i64 (cloneT t).f0, .slice (some ⟨gc, 0, none⟩) (cloneT t).f1.length cap] 30)) i.toNat (by rw [HCL.out]; exact HIT.out.1) HG5.out.2 hF6 (fun k hk => ⟨hk.1.1.elim (fun h => h.2) (fun h => .inr (Nat.le_trans HB4.out.size h)), fun e => by have := hk.2; have := HG.out.1; omega⟩)
        have hV1 := Kd.V_F (Kd.N_V (base' := 0) hN1)
        have hne : ∀ k, ((P k ∧ k < w.heap.size) ∨ w3.heap.size ≤ k) → k ≠ w.heap.size + 1 + 1 := fun k hk e => by have := HS3.out; rcases hk with hk | hk <;> omega
        have hV2 := Kd.F_far (p := ⟨w.heap.size + 1 + 1, 1, none⟩) (Kd.F_far (p := ⟨w.heap.size + 1 + 1, 0, none⟩) hV1 hne (.int .i64 (cloneT t).f0)) hne (.slice (some ⟨gc, 0, none⟩) (cloneT t).f1.length cap)
        have hres := blk_set (blk_set HB2.out 0 (.int .i64 (cloneT t).f0)) 1 (.slice (some ⟨gc, 0, none⟩) (cloneT t).f1.length cap)
        have hsome : putT p t u = some ⟨t.f0, (cloneT t).f1.set i.toNat r⟩ := by
          have h1 := HO.out.1
          have h2 := HO.out.2
          rw [HPS2.out]
          cases o with
          | none => cases h2
          | some y => rw [h1]; rfl
        have hcap := (Kd.R_reads' HR.out).2.1
        have hct : (cloneT t).f0 = t.f0 := by obtain ⟨f, l⟩ := t; rfl
        have hbb : Below w.heap.size w _ := below_set2 (N := w.heap.size) (below_set2 (N := w.heap.size) (below_alloc (HB5.out.trans (HB6.out.mono HB5.out.size)) (.cells #[.int .i64 (cloneT t).f0, .slice (some ⟨gc, 0, none⟩) (cloneT t).f1.length cap] 30)) (g := gc) (i := i.toNat * 2) (j := i.toNat * 2 + 1) (u := .int .i64 r.f0) (v := .slice A' r.f1.length c') (by have := HG.out.1; have := HB5.out.size; omega)) (g := w.heap.size + 1 + 1) (i := 0) (j := 1) (u := .int .i64 (cloneT t).f0) (v := .slice (some ⟨gc, 0, none⟩) (cloneT t).f1.length cap) (by omega)
        refine bodyPost_ret (results_ct rfl _ _ (w.heap.size + 1 + 1) 30 #[.int .i64 (cloneT t).f0, .slice (some ⟨gc, 0, none⟩) (cloneT t).f1.length cap] (0, 0) _ rfl hres Try.underlying30 rfl (by kernel_rfl)) rfl ?_
        rw [hsome]
        refine ⟨some ⟨gc, 0, none⟩, cap, ?_, ?_, ?_, hbb⟩
        · rw [hct]
          simp only [Option.getD_some, Option.isSome_some, List.length_set]
          rfl
        · simp only [Option.getD_some, List.length_set]
          exact hcap
        · simp only [Option.getD_some, List.length_set]
          exact Kd.F_mono hV2 (fun k hk => hk.elim (fun h => .inl h.1) (fun h => .inr (by have := HS3.out; omega)))
theorem Put_any : ∀ p, PutOk p
  | [] => Put_nil
  | i :: q => Put_cons i q (Put_any q)
end Go.Proofs.Ytpfddihcikiofaa.P
end
