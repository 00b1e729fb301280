/- The law KboTells holds of every input. Part 3 of 5: GCompare, PxTermSame, GCmp, GLaw06, GCovers, PxSoritesref06Same, PxSoritesref06Flat, PxSoritesref06Vars, GSpec, PxSoritesref10Count, PxSoritesref10Covers. -/
import Derived.Test.YtpfddihcikiofaaZKboTells2
import Derived.Maps.OwnOps
import Derived.Maps.RangeWalk
import Derived.Test.YtpfddihcikiofaaZKboTells1
section
namespace Go.Proofs.Ytpfddihcikiofaa.P
open Go.RowKit Go.Proofs.YtpfddihcikiofaaW.PrintWords Go.Proofs.YtpfddihcikiofaaW.PrintLast Go.Proofs.YtpfddihcikiofaaW.PrintMore
set_option linter.unusedVariables false
set_option linter.unusedSimpArgs false
def cmpI (a b : Int) : Int := if a < b then -1 else if a > b then 1 else 0
def orI (a b c : Int) : Int := if a = 0 then (if b = 0 then c else b) else a
mutual
def cmpT : S30 → S30 → Int
  | ⟨f, l⟩, ⟨g, m⟩ => if f < 0 ∨ g < 0 then (if f < 0 ∧ g < 0 then cmpI g f else cmpI f g) else orI (cmpI f g) (cmpI l.length m.length) (cmpTs l m)
def cmpTs : List S30 → List S30 → Int
  | [], [] => 0
  | [], _ :: _ => -1
  | _ :: _, [] => 1
  | x :: l, y :: m => if cmpT x y = 0 then cmpTs l m else cmpT x y
end
theorem isNaN_f (a : Int) : cmp_isNaN_int.f a = some false := by simp [cmp_isNaN_int.f]
theorem cmpI_f (a b : Int) : cmp_Compare_int.f a b = some (cmpI a b) := by
  simp only [cmp_Compare_int.f, isNaN_f, Option.bind_some, cmpI]
  simp
  split
  · rfl
  · split <;> rfl
theorem orI_f (a b c : Int) : Ev (fun k => cmp_Or_int.f k [a, b, c]) (orI a b c) := by
  refine ⟨4, fun k hk => ?_⟩
  obtain ⟨k, rfl⟩ : ∃ m, k = m + 4 := ⟨k - 4, by omega⟩
  simp only [cmp_Or_int.f, cmp_Or_int.l0, rd, List.length_cons, List.length_nil, orI, wrap64]
  simp
  by_cases ha : a = 0
  · simp [ha]
    by_cases hb : b = 0
    · simp [hb]
      by_cases hc : c = 0
      · simp [hc]
      · simp [hc]
    · simp [hb]
  · simp [ha]
def term_Compare.f (a0_0 : Int) (l0_1 : List S30) (a1_0 : Int) (l1_1 : List S30) : Option Int := some (cmpT ⟨a0_0, l0_1⟩ ⟨a1_0, l1_1⟩)
set_option maxHeartbeats 4000000 in
set_option maxRecDepth 100000 in
theorem Compare_r5 {id : Nat} {a : Act} {w : World} {Q : Exit → Act → World → Prop} {f g c1 c2 c3 r : Int} {A B : Option Addr} {nl nm c e g0 g1 : Nat}
    (hr : regionOk #[{ dst := some 31, op := Op.fieldAddr 30 (Operand.tmp 2) 0, type := 0, pos := "term.go:32", after := #[], guard := none }, { dst := some 32, op := Op.load 3 (Operand.tmp 31), type := 3, pos := "term.go:32", after := #[{ on := 0, ground := Ground.data }], guard := none }, { dst := some 33, op := Op.fieldAddr 30 (Operand.tmp 3) 0, type := 0, pos := "term.go:32", after := #[], guard := none }, { dst := some 34, op := Op.load 3 (Operand.tmp 33), type := 3, pos := "term.go:32", after := #[{ on := 2, ground := Ground.data }], guard := none }, { dst := some 35, op := Op.call { callee := Callee.value (Operand.func 76), args := #[Operand.tmp 32, Operand.tmp 34], argTypes := #[3, 3] }, type := 3, pos := "term.go:32", after := #[{ on := 1, ground := Ground.data }, { on := 3, ground := Ground.data }], guard := none }, { dst := some 36, op := Op.fieldAddr 30 (Operand.tmp 2) 1, type := 0, pos := "term.go:32", after := #[], guard := none }, { dst := some 37, op := Op.load 28 (Operand.tmp 36), type := 28, pos := "term.go:32", after := #[{ on := 5, ground := Ground.data }], guard := none }, { dst := some 38, op := Op.call { callee := Callee.builtin Builtin.len, args := #[Operand.tmp 37], argTypes := #[28] }, type := 3, pos := "term.go:32", after := #[{ on := 6, ground := Ground.data }], guard := none }, { dst := some 39, op := Op.fieldAddr 30 (Operand.tmp 3) 1, type := 0, pos := "term.go:32", after := #[], guard := none }, { dst := some 40, op := Op.load 28 (Operand.tmp 39), type := 28, pos := "term.go:32", after := #[{ on := 8, ground := Ground.data }], guard := none }, { dst := some 41, op := Op.call { callee := Callee.builtin Builtin.len, args := #[Operand.tmp 40], argTypes := #[28] }, type := 3, pos := "term.go:32", after := #[{ on := 9, ground := Ground.data }], guard := none }, { dst := some 42, op := Op.call { callee := Callee.value (Operand.func 76), args := #[Operand.tmp 38, Operand.tmp 41], argTypes := #[3, 3] }, type := 3, pos := "term.go:32", after := #[{ on := 7, ground := Ground.data }, { on := 10, ground := Ground.data }, { on := 4, ground := Ground.chain }], guard := none }, { dst := some 43, op := Op.fieldAddr 30 (Operand.tmp 2) 1, type := 0, pos := "term.go:32", after := #[], guard := none }, { dst := some 44, op := Op.load 28 (Operand.tmp 43), type := 28, pos := "term.go:32", after := #[{ on := 12, ground := Ground.data }], guard := none }, { dst := some 45, op := Op.fieldAddr 30 (Operand.tmp 3) 1, type := 0, pos := "term.go:32", after := #[], guard := none }, { dst := some 46, op := Op.load 28 (Operand.tmp 45), type := 28, pos := "term.go:32", after := #[{ on := 14, ground := Ground.data }], guard := none }, { dst := some 47, op := Op.call { callee := Callee.value (Operand.func 78), args := #[Operand.tmp 44, Operand.tmp 46, Operand.func 36], argTypes := #[28, 28, 49] }, type := 3, pos := "term.go:32", after := #[{ on := 13, ground := Ground.data }, { on := 15, ground := Ground.data }, { on := 11, ground := Ground.chain }], guard := none }, { dst := some 48, op := Op.buildSlice 25 3 #[(0, Operand.tmp 35), (1, Operand.tmp 42), (2, Operand.tmp 47)], type := 25, pos := "term.go:32", after := #[{ on := 4, ground := Ground.data }, { on := 11, ground := Ground.data }, { on := 16, ground := Ground.data }], guard := none }, { dst := some 49, op := Op.call { callee := Callee.value (Operand.func 77), args := #[Operand.tmp 48], argTypes := #[25] }, type := 3, pos := "term.go:32", after := #[{ on := 17, ground := Ground.data }, { on := 16, ground := Ground.chain }], guard := none }, { dst := some 4, op := Op.assign (Operand.tmp 49), type := 3, pos := "term.go:32", after := #[{ on := 18, ground := Ground.data }, { on := 18, ground := Ground.chain }, { on := 0, ground := Ground.phase }, { on := 1, ground := Ground.phase }, { on := 2, ground := Ground.phase }, { on := 3, ground := Ground.phase }, { on := 4, ground := Ground.phase }, { on := 5, ground := Ground.phase }, { on := 6, ground := Ground.phase }, { on := 7, ground := Ground.phase }, { on := 8, ground := Ground.phase }, { on := 9, ground := Ground.phase }, { on := 10, ground := Ground.phase }, { on := 11, ground := Ground.phase }, { on := 12, ground := Ground.phase }, { on := 13, ground := Ground.phase }, { on := 14, ground := Ground.phase }, { on := 15, ground := Ground.phase }, { on := 16, ground := Ground.phase }, { on := 17, ground := Ground.phase }, { on := 18, ground := Ground.phase }], guard := none }] a.tmps.size = true)
    (hT2 : a.tmps.getD 2 undef = .pointer (some ⟨g0, 0, none⟩)) (hX2 : w.heap[g0]? = some (.cells #[.int .i64 f, .slice A nl c] 30 (0, 0)))
    (hT3 : a.tmps.getD 3 undef = .pointer (some ⟨g1, 0, none⟩)) (hX3 : w.heap[g1]? = some (.cells #[.int .i64 g, .slice B nm e] 30 (0, 0)))
    (hF4 : ∀ w1, Below w.heap.size w w1 → Calls Try.prog 76 #[.int .i64 f, .int .i64 g] w1 fun e w2 => e = .returned (.int .i64 c1) ∧ Below w1.heap.size w1 w2)
    (hF11 : ∀ w1, Below w.heap.size w w1 → Calls Try.prog 76 #[.int .i64 (nl : Int), .int .i64 (nm : Int)] w1 fun e w2 => e = .returned (.int .i64 c2) ∧ Below w1.heap.size w1 w2)
    (hF16 : ∀ w1, Below w.heap.size w w1 → Calls Try.prog 78 #[.slice A nl c, .slice B nm e, .func (.func 36) #[] #[]] w1 fun e w2 => e = .returned (.int .i64 c3) ∧ Below w1.heap.size w1 w2)
    (hO : ∀ (w1 : World) (gs : Nat), w1.heap[gs]? = some (.cells #[.int .i64 c1, .int .i64 c2, .int .i64 c3] 3 (0, 0)) → Calls Try.prog 77 #[.slice (some ⟨gs, 0, none⟩) 3 3] w1 fun x w2 => x = .returned (.int .i64 r) ∧ Below w1.heap.size w1 w2) (hle : nl ≤ c) (hme : nm ≤ e)
    (hK : ∀ v w', Below w.heap.size w w' → v 19 = .int .i64 r → Q .normal { tmps := layL [some 31, some 32, some 33, some 34, some 35, some 36, some 37, some 38, some 39, some 40, some 41, some 42, some 43, some 44, some 45, some 46, some 47, some 48, some 49, some 4] 0 v a.tmps, defers := a.defers } w') :
    (Code.region id #[{ dst := some 31, op := Op.fieldAddr 30 (Operand.tmp 2) 0, type := 0, pos := "term.go:32", after := #[], guard := none }, { dst := some 32, op := Op.load 3 (Operand.tmp 31), type := 3, pos := "term.go:32", after := #[{ on := 0, ground := Ground.data }], guard := none }, { dst := some 33, op := Op.fieldAddr 30 (Operand.tmp 3) 0, type := 0, pos := "term.go:32", after := #[], guard := none }, { dst := some 34, op := Op.load 3 (Operand.tmp 33), type := 3, pos := "term.go:32", after := #[{ on := 2, ground := Ground.data }], guard := none }, { dst := some 35, op := Op.call { callee := Callee.value (Operand.func 76), args := #[Operand.tmp 32, Operand.tmp 34], argTypes := #[3, 3] }, type := 3, pos := "term.go:32", after := #[{ on := 1, ground := Ground.data }, { on := 3, ground := Ground.data }], guard := none }, { dst := some 36, op := Op.fieldAddr 30 (Operand.tmp 2) 1, type := 0, pos := "term.go:32", after := #[], guard := none }, { dst := some 37, op := Op.load 28 (Operand.tmp 36), type := 28, pos := "term.go:32", after := #[{ on := 5, ground := Ground.data }], guard := none }, { dst := some 38, op := Op.call { callee := Callee.builtin Builtin.len, args := #[Operand.tmp 37], argTypes := #[28] }, type := 3, pos := "term.go:32", after := #[{ on := 6, ground := Ground.data }], guard := none }, { dst := some 39, op := Op.fieldAddr 30 (Operand.tmp 3) 1, type := 0, pos := "term.go:32", after := #[], guard := none }, { dst := some 40, op := Op.load 28 (Operand.tmp 39), type := 28, pos := "term.go:32", after := #[{ on := 8, ground := Ground.data }], guard := none }, { dst := some 41, op := Op.call { callee := Callee.builtin Builtin.len, args := #[Operand.tmp 40], argTypes := #[28] }, type := 3, pos := "term.go:32", after := #[{ on := 9, ground := Ground.data }], guard := none }, { dst := some 42, op := Op.call { callee := Callee.value (Operand.func 76), args := #[Operand.tmp 38, Operand.tmp 41], argTypes := #[3, 3] }, type := 3, pos := "term.go:32", after := #[{ on := 7, ground := Ground.data }, { on := 10, ground := Ground.data }, { on := 4, ground := Ground.chain }], guard := none }, { dst := some 43, op := Op.fieldAddr 30 (Operand.tmp 2) 1, type := 0, pos := "term.go:32", after := #[], guard := none }, { dst := some 44, op := Op.load 28 (Operand.tmp 43), type := 28, pos := "term.go:32", after := #[{ on := 12, ground := Ground.data }], guard := none }, { dst := some 45, op := Op.fieldAddr 30 (Operand.tmp 3) 1, type := 0, pos := "term.go:32", after := #[], guard := none }, { dst := some 46, op := Op.load 28 (Operand.tmp 45), type := 28, pos := "term.go:32", after := #[{ on := 14, ground := Ground.data }], guard := none }, { dst := some 47, op := Op.call { callee := Callee.value (Operand.func 78), args := #[Operand.tmp 44, Operand.tmp 46, Operand.func 36], argTypes := #[28, 28, 49] }, type := 3, pos := "term.go:32", after := #[{ on := 13, ground := Ground.data }, { on := 15, ground := Ground.data }, { on := 11, ground := Ground.chain }], guard := none }, { dst := some 48, op := Op.buildSlice 25 3 #[(0, Operand.tmp 35), (1, Operand.tmp 42), (2, Operand.tmp 47)], type := 25, pos := "term.go:32", after := #[{ on := 4, ground := Ground.data }, { on := 11, ground := Ground.data }, { on := 16, ground := Ground.data }], guard := none }, { dst := some 49, op := Op.call { callee := Callee.value (Operand.func 77), args := #[Operand.tmp 48], argTypes := #[25] }, type := 3, pos := "term.go:32", after := #[{ on := 17, ground := Ground.data }, { on := 16, ground := Ground.chain }], guard := none }, { dst := some 4, op := Op.assign (Operand.tmp 49), type := 3, pos := "term.go:32", after := #[{ on := 18, ground := Ground.data }, { on := 18, ground := Ground.chain }, { on := 0, ground := Ground.phase }, { on := 1, ground := Ground.phase }, { on := 2, ground := Ground.phase }, { on := 3, ground := Ground.phase }, { on := 4, ground := Ground.phase }, { on := 5, ground := Ground.phase }, { on := 6, ground := Ground.phase }, { on := 7, ground := Ground.phase }, { on := 8, ground := Ground.phase }, { on := 9, ground := Ground.phase }, { on := 10, ground := Ground.phase }, { on := 11, ground := Ground.phase }, { on := 12, ground := Ground.phase }, { on := 13, ground := Ground.phase }, { on := 14, ground := Ground.phase }, { on := 15, ground := Ground.phase }, { on := 16, ground := Ground.phase }, { on := 17, ground := Ground.phase }, { on := 18, ground := Ground.phase }], guard := none }] true).wp Try.prog Q a w := by
  have hmx : Try.prog.follows .mixedOrders = true := by kernel_rfl
  refine region_detR 20 hmx hr (by kernel_rfl) ?_
  refine DetR.is (o := { dst := some 31, op := Op.fieldAddr 30 (Operand.tmp 2) 0, type := 0, pos := "term.go:32", after := #[], guard := none }) (u := ?ux1) rfl (by decide) (fun T w' hb hd hB K hK => ?sx1) ?rx1
  case sx1 =>
    have e2 := (hB 2 (by kernel_rfl)).trans hT2
    have q2_0 : w'.cell? ⟨g0, 0, none⟩ = some (.int .i64 f) := (blk_cell (blk_below hX2 hb) 0).trans rfl
    have q2_1 : w'.cell? ⟨g0, 1, none⟩ = some (.slice A nl c) := (blk_cell (blk_below hX2 hb) 1).trans rfl
    rw [if_pos (wanted_none _ rfl)]
    clear hd hB
    go_simp
    exact hK _ (Below.refl _ _)
  refine DetR.is (o := { dst := some 32, op := Op.load 3 (Operand.tmp 31), type := 3, pos := "term.go:32", after := #[{ on := 0, ground := Ground.data }], guard := none }) (u := ?ux2) rfl (by decide) (fun T w' hb hd hB K hK => ?sx2) ?rx2
  case sx2 =>
    have e31 := hd 0 31 _ (by decide) (by kernel_rfl) rfl rfl
    replace e31 : T.getD 31 undef = _ := e31
    rw [if_pos (wanted_none _ rfl)]
    have q2_0 : w'.cell? ⟨g0, 0, none⟩ = some (.int .i64 f) := (blk_cell (blk_below hX2 hb) 0).trans rfl
    have q2_1 : w'.cell? ⟨g0, 1, none⟩ = some (.slice A nl c) := (blk_cell (blk_below hX2 hb) 1).trans rfl
    have q3_0 : w'.cell? ⟨g1, 0, none⟩ = some (.int .i64 g) := (blk_cell (blk_below hX3 hb) 0).trans rfl
    have q3_1 : w'.cell? ⟨g1, 1, none⟩ = some (.slice B nm e) := (blk_cell (blk_below hX3 hb) 1).trans rfl
    clear hd hB
    go_simp
    exact hK _ (Below.refl _ _)
  refine DetR.is (o := { dst := some 33, op := Op.fieldAddr 30 (Operand.tmp 3) 0, type := 0, pos := "term.go:32", after := #[], guard := none }) (u := ?ux3) rfl (by decide) (fun T w' hb hd hB K hK => ?sx3) ?rx3
  case sx3 =>
    have e3 := (hB 3 (by kernel_rfl)).trans hT3
    have q3_0 : w'.cell? ⟨g1, 0, none⟩ = some (.int .i64 g) := (blk_cell (blk_below hX3 hb) 0).trans rfl
    have q3_1 : w'.cell? ⟨g1, 1, none⟩ = some (.slice B nm e) := (blk_cell (blk_below hX3 hb) 1).trans rfl
    rw [if_pos (wanted_none _ rfl)]
    clear hd hB
    go_simp
    exact hK _ (Below.refl _ _)
  refine DetR.is (o := { dst := some 34, op := Op.load 3 (Operand.tmp 33), type := 3, pos := "term.go:32", after := #[{ on := 2, ground := Ground.data }], guard := none }) (u := ?ux4) rfl (by decide) (fun T w' hb hd hB K hK => ?sx4) ?rx4
  case sx4 =>
    have e33 := hd 2 33 _ (by decide) (by kernel_rfl) rfl rfl
    replace e33 : T.getD 33 undef = _ := e33
    rw [if_pos (wanted_none _ rfl)]
    have q2_0 : w'.cell? ⟨g0, 0, none⟩ = some (.int .i64 f) := (blk_cell (blk_below hX2 hb) 0).trans rfl
    have q2_1 : w'.cell? ⟨g0, 1, none⟩ = some (.slice A nl c) := (blk_cell (blk_below hX2 hb) 1).trans rfl
    have q3_0 : w'.cell? ⟨g1, 0, none⟩ = some (.int .i64 g) := (blk_cell (blk_below hX3 hb) 0).trans rfl
    have q3_1 : w'.cell? ⟨g1, 1, none⟩ = some (.slice B nm e) := (blk_cell (blk_below hX3 hb) 1).trans rfl
    clear hd hB
    go_simp
    exact hK _ (Below.refl _ _)
  refine DetR.is (o := { dst := some 35, op := Op.call { callee := Callee.value (Operand.func 76), args := #[Operand.tmp 32, Operand.tmp 34], argTypes := #[3, 3] }, type := 3, pos := "term.go:32", after := #[{ on := 1, ground := Ground.data }, { on := 3, ground := Ground.data }], guard := none }) (u := ?ux5) rfl (by decide) (fun T w' hb hd hB K hK => ?sx5) ?rx5
  case sx5 =>
    have e32 := hd 1 32 _ (by decide) (by kernel_rfl) rfl rfl
    replace e32 : T.getD 32 undef = _ := e32
    have e34 := hd 3 34 _ (by decide) (by kernel_rfl) rfl rfl
    replace e34 : T.getD 34 undef = _ := e34
    rw [if_pos (wanted_none _ rfl)]
    have hcl := hF4 w' hb
    clear hd hB
    go_simp
    go_at_call 76
    refine hcl.mono ?_
    rintro e w2 ⟨rfl, h2⟩
    exact hK _ h2
  refine DetR.is (o := { dst := some 36, op := Op.fieldAddr 30 (Operand.tmp 2) 1, type := 0, pos := "term.go:32", after := #[], guard := none }) (u := ?ux6) rfl (by decide) (fun T w' hb hd hB K hK => ?sx6) ?rx6
  case sx6 =>
    have e2 := (hB 2 (by kernel_rfl)).trans hT2
    have q2_0 : w'.cell? ⟨g0, 0, none⟩ = some (.int .i64 f) := (blk_cell (blk_below hX2 hb) 0).trans rfl
    have q2_1 : w'.cell? ⟨g0, 1, none⟩ = some (.slice A nl c) := (blk_cell (blk_below hX2 hb) 1).trans rfl
    rw [if_pos (wanted_none _ rfl)]
    clear hd hB
    go_simp
    exact hK _ (Below.refl _ _)
  refine DetR.is (o := { dst := some 37, op := Op.load 28 (Operand.tmp 36), type := 28, pos := "term.go:32", after := #[{ on := 5, ground := Ground.data }], guard := none }) (u := ?ux7) rfl (by decide) (fun T w' hb hd hB K hK => ?sx7) ?rx7
  case sx7 =>
    have e36 := hd 5 36 _ (by decide) (by kernel_rfl) rfl rfl
    replace e36 : T.getD 36 undef = _ := e36
    rw [if_pos (wanted_none _ rfl)]
    have q2_0 : w'.cell? ⟨g0, 0, none⟩ = some (.int .i64 f) := (blk_cell (blk_below hX2 hb) 0).trans rfl
    have q2_1 : w'.cell? ⟨g0, 1, none⟩ = some (.slice A nl c) := (blk_cell (blk_below hX2 hb) 1).trans rfl
    have q3_0 : w'.cell? ⟨g1, 0, none⟩ = some (.int .i64 g) := (blk_cell (blk_below hX3 hb) 0).trans rfl
    have q3_1 : w'.cell? ⟨g1, 1, none⟩ = some (.slice B nm e) := (blk_cell (blk_below hX3 hb) 1).trans rfl
    clear hd hB
    go_simp
    exact hK _ (Below.refl _ _)
  refine DetR.is (o := { dst := some 38, op := Op.call { callee := Callee.builtin Builtin.len, args := #[Operand.tmp 37], argTypes := #[28] }, type := 3, pos := "term.go:32", after := #[{ on := 6, ground := Ground.data }], guard := none }) (u := ?ux8) rfl (by decide) (fun T w' hb hd hB K hK => ?sx8) ?rx8
  case sx8 =>
    have e37 := hd 6 37 _ (by decide) (by kernel_rfl) rfl rfl
    replace e37 : T.getD 37 undef = _ := e37
    rw [if_pos (wanted_none _ rfl)]
    clear hd hB
    go_simp
    exact hK _ (Below.refl _ _)
  refine DetR.is (o := { dst := some 39, op := Op.fieldAddr 30 (Operand.tmp 3) 1, type := 0, pos := "term.go:32", after := #[], guard := none }) (u := ?ux9) rfl (by decide) (fun T w' hb hd hB K hK => ?sx9) ?rx9
  case sx9 =>
    have e3 := (hB 3 (by kernel_rfl)).trans hT3
    have q3_0 : w'.cell? ⟨g1, 0, none⟩ = some (.int .i64 g) := (blk_cell (blk_below hX3 hb) 0).trans rfl
    have q3_1 : w'.cell? ⟨g1, 1, none⟩ = some (.slice B nm e) := (blk_cell (blk_below hX3 hb) 1).trans rfl
    rw [if_pos (wanted_none _ rfl)]
    clear hd hB
    go_simp
    exact hK _ (Below.refl _ _)
  refine DetR.is (o := { dst := some 40, op := Op.load 28 (Operand.tmp 39), type := 28, pos := "term.go:32", after := #[{ on := 8, ground := Ground.data }], guard := none }) (u := ?ux10) rfl (by decide) (fun T w' hb hd hB K hK => ?sx10) ?rx10
  case sx10 =>
    have e39 := hd 8 39 _ (by decide) (by kernel_rfl) rfl rfl
    replace e39 : T.getD 39 undef = _ := e39
    rw [if_pos (wanted_none _ rfl)]
    have q2_0 : w'.cell? ⟨g0, 0, none⟩ = some (.int .i64 f) := (blk_cell (blk_below hX2 hb) 0).trans rfl
    have q2_1 : w'.cell? ⟨g0, 1, none⟩ = some (.slice A nl c) := (blk_cell (blk_below hX2 hb) 1).trans rfl
    have q3_0 : w'.cell? ⟨g1, 0, none⟩ = some (.int .i64 g) := (blk_cell (blk_below hX3 hb) 0).trans rfl
    have q3_1 : w'.cell? ⟨g1, 1, none⟩ = some (.slice B nm e) := (blk_cell (blk_below hX3 hb) 1).trans rfl
    clear hd hB
    go_simp
    exact hK _ (Below.refl _ _)
  refine DetR.is (o := { dst := some 41, op := Op.call { callee := Callee.builtin Builtin.len, args := #[Operand.tmp 40], argTypes := #[28] }, type := 3, pos := "term.go:32", after := #[{ on := 9, ground := Ground.data }], guard := none }) (u := ?ux11) rfl (by decide) (fun T w' hb hd hB K hK => ?sx11) ?rx11
  case sx11 =>
    have e40 := hd 9 40 _ (by decide) (by kernel_rfl) rfl rfl
    replace e40 : T.getD 40 undef = _ := e40
    rw [if_pos (wanted_none _ rfl)]
    clear hd hB
    go_simp
    exact hK _ (Below.refl _ _)
  refine DetR.is (o := { dst := some 42, op := Op.call { callee := Callee.value (Operand.func 76), args := #[Operand.tmp 38, Operand.tmp 41], argTypes := #[3, 3] }, type := 3, pos := "term.go:32", after := #[{ on := 7, ground := Ground.data }, { on := 10, ground := Ground.data }, { on := 4, ground := Ground.chain }], guard := none }) (u := ?ux12) rfl (by decide) (fun T w' hb hd hB K hK => ?sx12) ?rx12
  case sx12 =>
    have e38 := hd 7 38 _ (by decide) (by kernel_rfl) rfl rfl
    replace e38 : T.getD 38 undef = _ := e38
    have e41 := hd 10 41 _ (by decide) (by kernel_rfl) rfl rfl
    replace e41 : T.getD 41 undef = _ := e41
    rw [if_pos (wanted_none _ rfl)]
    have hcl := hF11 w' hb
    clear hd hB
    go_simp
    go_at_call 76
    refine hcl.mono ?_
    rintro e w2 ⟨rfl, h2⟩
    exact hK _ h2
  refine DetR.is (o := { dst := some 43, op := Op.fieldAddr 30 (Operand.tmp 2) 1, type := 0, pos := "term.go:32", after := #[], guard := none }) (u := ?ux13) rfl (by decide) (fun T w' hb hd hB K hK => ?sx13) ?rx13
  case sx13 =>
    have e2 := (hB 2 (by kernel_rfl)).trans hT2
    have q2_0 : w'.cell? ⟨g0, 0, none⟩ = some (.int .i64 f) := (blk_cell (blk_below hX2 hb) 0).trans rfl
    have q2_1 : w'.cell? ⟨g0, 1, none⟩ = some (.slice A nl c) := (blk_cell (blk_below hX2 hb) 1).trans rfl
    rw [if_pos (wanted_none _ rfl)]
    clear hd hB
    go_simp
    exact hK _ (Below.refl _ _)
  refine DetR.is (o := { dst := some 44, op := Op.load 28 (Operand.tmp 43), type := 28, pos := "term.go:32", after := #[{ on := 12, ground := Ground.data }], guard := none }) (u := ?ux14) rfl (by decide) (fun T w' hb hd hB K hK => ?sx14) ?rx14
  case sx14 =>
    have e43 := hd 12 43 _ (by decide) (by kernel_rfl) rfl rfl
    replace e43 : T.getD 43 undef = _ := e43
    rw [if_pos (wanted_none _ rfl)]
    have q2_0 : w'.cell? ⟨g0, 0, none⟩ = some (.int .i64 f) := (blk_cell (blk_below hX2 hb) 0).trans rfl
    have q2_1 : w'.cell? ⟨g0, 1, none⟩ = some (.slice A nl c) := (blk_cell (blk_below hX2 hb) 1).trans rfl
    have q3_0 : w'.cell? ⟨g1, 0, none⟩ = some (.int .i64 g) := (blk_cell (blk_below hX3 hb) 0).trans rfl
    have q3_1 : w'.cell? ⟨g1, 1, none⟩ = some (.slice B nm e) := (blk_cell (blk_below hX3 hb) 1).trans rfl
    clear hd hB
    go_simp
    exact hK _ (Below.refl _ _)
  refine DetR.is (o := { dst := some 45, op := Op.fieldAddr 30 (Operand.tmp 3) 1, type := 0, pos := "term.go:32", after := #[], guard := none }) (u := ?ux15) rfl (by decide) (fun T w' hb hd hB K hK => ?sx15) ?rx15
  case sx15 =>
    have e3 := (hB 3 (by kernel_rfl)).trans hT3
    have q3_0 : w'.cell? ⟨g1, 0, none⟩ = some (.int .i64 g) := (blk_cell (blk_below hX3 hb) 0).trans rfl
    have q3_1 : w'.cell? ⟨g1, 1, none⟩ = some (.slice B nm e) := (blk_cell (blk_below hX3 hb) 1).trans rfl
    rw [if_pos (wanted_none _ rfl)]
    clear hd hB
    go_simp
    exact hK _ (Below.refl _ _)
  refine DetR.is (o := { dst := some 46, op := Op.load 28 (Operand.tmp 45), type := 28, pos := "term.go:32", after := #[{ on := 14, ground := Ground.data }], guard := none }) (u := ?ux16) rfl (by decide) (fun T w' hb hd hB K hK => ?sx16) ?rx16
  case sx16 =>
    have e45 := hd 14 45 _ (by decide) (by kernel_rfl) rfl rfl
    replace e45 : T.getD 45 undef = _ := e45
    rw [if_pos (wanted_none _ rfl)]
    have q2_0 : w'.cell? ⟨g0, 0, none⟩ = some (.int .i64 f) := (blk_cell (blk_below hX2 hb) 0).trans rfl
    have q2_1 : w'.cell? ⟨g0, 1, none⟩ = some (.slice A nl c) := (blk_cell (blk_below hX2 hb) 1).trans rfl
    have q3_0 : w'.cell? ⟨g1, 0, none⟩ = some (.int .i64 g) := (blk_cell (blk_below hX3 hb) 0).trans rfl
    have q3_1 : w'.cell? ⟨g1, 1, none⟩ = some (.slice B nm e) := (blk_cell (blk_below hX3 hb) 1).trans rfl
    clear hd hB
    go_simp
    exact hK _ (Below.refl _ _)
  refine DetR.is (o := { dst := some 47, op := Op.call { callee := Callee.value (Operand.func 78), args := #[Operand.tmp 44, Operand.tmp 46, Operand.func 36], argTypes := #[28, 28, 49] }, type := 3, pos := "term.go:32", after := #[{ on := 13, ground := Ground.data }, { on := 15, ground := Ground.data }, { on := 11, ground := Ground.chain }], guard := none }) (u := ?ux17) rfl (by decide) (fun T w' hb hd hB K hK => ?sx17) ?rx17
  case sx17 =>
    have e44 := hd 13 44 _ (by decide) (by kernel_rfl) rfl rfl
    replace e44 : T.getD 44 undef = _ := e44
    have e46 := hd 15 46 _ (by decide) (by kernel_rfl) rfl rfl
    replace e46 : T.getD 46 undef = _ := e46
    rw [if_pos (wanted_none _ rfl)]
    have hcl := hF16 w' hb
    clear hd hB
    go_simp
    go_at_call 78
    refine hcl.mono ?_
    rintro e w2 ⟨rfl, h2⟩
    exact hK _ h2
  refine DetR.cons (o := { dst := some 48, op := Op.buildSlice 25 3 #[(0, Operand.tmp 35), (1, Operand.tmp 42), (2, Operand.tmp 47)], type := 25, pos := "term.go:32", after := #[{ on := 4, ground := Ground.data }, { on := 11, ground := Ground.data }, { on := 16, ground := Ground.data }], guard := none }) (BlockTold 0 (fun g => .slice (some ⟨g, 0, none⟩) 3 3) #[.int .i64 c1, .int .i64 c2, .int .i64 c3] 3) rfl (by decide) (BlockTold.grows _ _ _ _) (fun T w' hb hd hB K hK => ?sx18) ?rx18
  case sx18 =>
    have e35 := hd 4 35 _ (by decide) (by kernel_rfl) rfl rfl
    replace e35 : T.getD 35 undef = _ := e35
    have e42 := hd 11 42 _ (by decide) (by kernel_rfl) rfl rfl
    replace e42 : T.getD 42 undef = _ := e42
    have e47 := hd 16 47 _ (by decide) (by kernel_rfl) rfl rfl
    replace e47 : T.getD 47 undef = _ := e47
    rw [if_pos (wanted_none _ rfl)]
    have z35 : T[35]?.getD undef = _ := Array.getD_eq_getD_getElem?.symm.trans e35
    have z42 : T[42]?.getD undef = _ := Array.getD_eq_getD_getElem?.symm.trans e42
    have z47 : T[47]?.getD undef = _ := Array.getD_eq_getD_getElem?.symm.trans e47
    clear hd hB
    go_simp
    exact hK _ _ (below_alloc (Below.refl _ _) _) ⟨w'.heap.size, rfl, Nat.zero_le _, heap_alloc_new _ _⟩
  refine DetR.is (o := { dst := some 49, op := Op.call { callee := Callee.value (Operand.func 77), args := #[Operand.tmp 48], argTypes := #[25] }, type := 3, pos := "term.go:32", after := #[{ on := 17, ground := Ground.data }, { on := 16, ground := Ground.chain }], guard := none }) (u := ?ux19) rfl (by decide) (fun T w' hb hd hB K hK => ?sx19) ?rx19
  case sx19 =>
    obtain ⟨gs, e48, hge, hbs⟩ := (hd 17 48 _ (by decide) (by kernel_rfl) rfl rfl)
    rw [if_pos (wanted_none _ rfl)]
    have hcl := hO w' gs hbs
    clear hd hB
    go_simp
    go_at_call 77
    refine hcl.mono ?_
    rintro e w2 ⟨rfl, h2⟩
    exact hK _ h2
  refine DetR.is (o := { dst := some 4, op := Op.assign (Operand.tmp 49), type := 3, pos := "term.go:32", after := #[{ on := 18, ground := Ground.data }, { on := 18, ground := Ground.chain }, { on := 0, ground := Ground.phase }, { on := 1, ground := Ground.phase }, { on := 2, ground := Ground.phase }, { on := 3, ground := Ground.phase }, { on := 4, ground := Ground.phase }, { on := 5, ground := Ground.phase }, { on := 6, ground := Ground.phase }, { on := 7, ground := Ground.phase }, { on := 8, ground := Ground.phase }, { on := 9, ground := Ground.phase }, { on := 10, ground := Ground.phase }, { on := 11, ground := Ground.phase }, { on := 12, ground := Ground.phase }, { on := 13, ground := Ground.phase }, { on := 14, ground := Ground.phase }, { on := 15, ground := Ground.phase }, { on := 16, ground := Ground.phase }, { on := 17, ground := Ground.phase }, { on := 18, ground := Ground.phase }], guard := none }) (u := ?ux20) rfl (by decide) (fun T w' hb hd hB K hK => ?sx20) ?rx20
  case sx20 =>
    have e49 := hd 18 49 _ (by decide) (by kernel_rfl) rfl rfl
    replace e49 : T.getD 49 undef = _ := e49
    rw [if_pos (wanted_none _ rfl)]
    clear hd hB
    go_simp
    exact hK _ (Below.refl _ _)
  refine DetR.done [some 31, some 32, some 33, some 34, some 35, some 36, some 37, some 38, some 39, some 40, some 41, some 42, some 43, some 44, some 45, some 46, some 47, some 48, some 49, some 4] (by kernel_rfl) rfl (by kernel_rfl) ?_
  intro v w' hb hv
  exact hK v w' hb (hv 19 _ (by decide) rfl)
def CmpAny (x : S30) : Prop := ∀ (y : S30) (A B : Option Addr) (c e : Nat) (w : World), k30.C w A x.f1.length x.f1 → x.f1.length ≤ c → k30.C w B y.f1.length y.f1 → y.f1.length ≤ e →
  Calls Try.prog 36 #[.agg #[.int .i64 x.f0, .slice A x.f1.length c], .agg #[.int .i64 y.f0, .slice B y.f1.length e]] w fun r w' => r = .returned (.int .i64 (cmpT x y)) ∧ Below w.heap.size w w'
theorem cmpTs_at (l m : List S30) (k : Nat) (hl : k < l.length) (hm : k < m.length) : cmpTs (l.drop k) (m.drop k) = if cmpT l[k] m[k] = 0 then cmpTs (l.drop (k + 1)) (m.drop (k + 1)) else cmpT l[k] m[k] := by
  rw [List.drop_eq_getElem_cons hl, List.drop_eq_getElem_cons hm, cmpTs]
theorem cell_lt' {w : World} {a : Addr} {v : Value} (h : w.cell? a = some v) : a.block < w.heap.size := by
  unfold World.cell? at h
  rcases Nat.lt_or_ge a.block w.heap.size with hlt | hge
  · exact hlt
  · rw [Array.getElem?_eq_none hge] at h
    simp at h
theorem rd30_at (l : List S30) (k : Nat) (h : k < l.length) : rd_T30 l (k : Int) = l[k] := by
  unfold rd_T30
  simp [List.getD, List.getElem?_eq_getElem h]
set_option maxHeartbeats 4000000 in
set_option maxRecDepth 100000 in
theorem CompareFunc_any (l m : List S30) (ih : ∀ x ∈ l, CmpAny x) (A B : Option Addr) (c e : Nat) (w : World) (hA : k30.C w A l.length l) (hc : l.length ≤ c) (hB : k30.C w B m.length m) (he : m.length ≤ e) :
    Calls Try.prog 78 #[.slice A l.length c, .slice B m.length e, .func (.func 36) #[] #[]] w fun r w' => r = .returned (.int .i64 (cmpTs l m)) ∧ Below w.heap.size w w' := by
  have hll : l.length ≤ 9223372036854775807 := hA.2.1
  have hml : m.length ≤ 9223372036854775807 := hB.2.1
  have hAz := Aside0.mk hA
  have hBz := Aside0.mk hB
  have hIz := Aside0.mk ih
  clear hA hB ih
  go_enter Try.func78, Try.ntmps78
  go_wp2
  go_loopw [13] (fun i wr => ∃ k : Nat, k ≤ l.length ∧ i = .int .i64 k ∧ Aside0 (k ≤ m.length) ∧ Aside0 (cmpTs l m = cmpTs (l.drop k) (m.drop k)) ∧ Aside0 (Below w.heap.size w wr)) (fun i wr => l.length - (intOf i).toNat)
  case atStart => exact ⟨0, Nat.zero_le _, rfl, ⟨Nat.zero_le _⟩, ⟨rfl⟩, ⟨Below.refl _ _⟩⟩
  case round =>
    obtain ⟨k, hk, rfl, hkm, hcm, hb⟩ := hrel
    by_cases hlt : k < l.length
    · obtain ⟨ad, A1, c1, rfl, hx0, hx1, hl1, hC1⟩ := at_T30 (Kd.C_below hAz.out hb.out) (k : Int) (by omega) (by omega)
      rw [rd30_at l k hlt] at hx0 hx1 hl1 hC1
      rw [Int.toNat_natCast] at hx0 hx1
      have hC1 := Aside0.mk hC1
      by_cases hlm : k < m.length
      · obtain ⟨bd, B1, e1, rfl, hy0, hy1, hm1, hD1⟩ := at_T30 (Kd.C_below hBz.out hb.out) (k : Int) (by omega) (by omega)
        rw [rd30_at m k hlm] at hy0 hy1 hm1 hD1
        rw [Int.toNat_natCast] at hy0 hy1
        have hD1 := Aside0.mk hD1
        have hat := cmpTs_at l m k hlt hlm
        have hih := Aside0.mk (hIz.out l[k] (List.getElem_mem hlt) m[k])
        generalize hxk : l[k] = x at hx0 hx1 hl1 hC1 hat hih
        generalize hyk : m[k] = y at hy0 hy1 hm1 hD1 hat hih
        obtain ⟨r, hr⟩ : ∃ r, r = cmpT x y := ⟨_, rfl⟩
        rw [← hr] at hat
        have hrz := Aside0.mk hr
        have hatz := Aside0.mk hat
        clear hxk hyk hat hr
        have hba := below_alloc (Below.refl wr.heap.size wr) (.cells #[.int .i64 x.f0, .slice A1 x.f1.length c1] 30)
        have hz0 := (hba.cell (cell_lt' hy0)).trans hy0
        have hz1 := (hba.cell (cell_lt' hy1)).trans hy1
        clear hba
        have hin : Aside0 (∀ W, Below wr.heap.size wr W → Calls Try.prog 36 #[.agg #[.int .i64 x.f0, .slice A1 x.f1.length c1], .agg #[.int .i64 y.f0, .slice B1 y.f1.length e1]] W fun q w' => q = .returned (.int .i64 r) ∧ Below W.heap.size W w') := ⟨fun W hW => by rw [hrz.out]; exact hih.out A1 B1 c1 e1 W (Kd.C_below hC1.out hW) hl1 (Kd.C_below hD1.out hW) hm1⟩
        clear hih hrz
        by_cases hr0 : r = 0
        · subst hr0
          go_wp2_with (go_at_call 36; refine (hin.out _ (below_alloc (below_alloc (Below.refl _ _) _) _)).mono ?_; rintro q w3 ⟨rfl, hb3⟩; have hb4 : Below w.heap.size w w3 := (hb.out.trans ((below_alloc (below_alloc (Below.refl _ _) _) _ : Below wr.heap.size wr _).mono hb.out.size)).trans (hb3.mono (by have := hb.out.size; simp; omega)); have hb5 := Aside0.mk hb4; clear hb3 hb4)
          go_roundw
          case rel => exact ⟨k + 1, by omega, by go_num, ⟨by omega⟩, ⟨by rw [hcm.out, hatz.out]; simp⟩, hb5⟩
          case measure => simp [intOf]; omega
        · have hr1 : (r == 0) = false := by simpa using hr0
          have hr2 : (r != 0) = true := by simpa using hr0
          go_wp2_with (go_at_call 36; refine (hin.out _ (below_alloc (below_alloc (Below.refl _ _) _) _)).mono ?_; rintro q w3 ⟨rfl, hb3⟩; have hb4 : Below w.heap.size w w3 := (hb.out.trans ((below_alloc (below_alloc (Below.refl _ _) _) _ : Below wr.heap.size wr _).mono hb.out.size)).trans (hb3.mono (by have := hb.out.size; simp; omega)); have hb5 := Aside0.mk hb4; clear hb3 hb4)
          have hres : cmpTs l m = r := by rw [hcm.out, hatz.out, if_neg hr0]
          go_ret
          rw [hres]
          exact ⟨rfl, hb5.out⟩
      · have hres : cmpTs l m = 1 := by
          have hke : k = m.length := by have := hkm.out; omega
          rw [hcm.out, hke, List.drop_length, List.drop_eq_getElem_cons (by omega), cmpTs]
        have hge : (m.length : Int) ≤ (k : Int) := by omega
        generalize l[k] = x at hx0 hx1 hl1 hC1
        go_wp2
        go_ret
        rw [hres]
        exact ⟨rfl, below_alloc hb.out _⟩
    · have hke : k = l.length := by omega
      have hkm' := hkm.out
      by_cases hlm : l.length < m.length
      · have hres : cmpTs l m = -1 := by rw [hcm.out, hke, List.drop_length, List.drop_eq_getElem_cons (by omega), cmpTs]
        go_wp2
        go_ret
        rw [hres]
        exact ⟨rfl, hb.out⟩
      · have hres : cmpTs l m = 0 := by rw [hcm.out, hke, List.drop_length, show l.length = m.length by omega, List.drop_length, cmpTs]
        go_wp2
        go_ret
        rw [hres]
        exact ⟨rfl, hb.out⟩
set_option maxHeartbeats 4000000 in
set_option maxRecDepth 100000 in
theorem Compare_any : ∀ x : S30, CmpAny x := by
  refine S30.ind ?_
  intro f l ih y A B c e w hA hc hB he
  obtain ⟨g, m⟩ := y
  simp only at hA hc hB he
  have hc76 := fun (a b : Int) (w1 : World) => cmp_Compare_int.calls a b _ w1 (cmpI_f a b)
  have hIz := Aside0.mk ih
  have hCF := Aside0.mk (fun w1 (hb : Below w.heap.size w w1) => CompareFunc_any l m ih A B c e w1 (Kd.C_below hA hb) hc (Kd.C_below hB hb) he)
  have h76 := Aside0.mk hc76
  clear hc76 hA hB ih hIz
  go_enter Try.func36, Try.ntmps36
  by_cases hv : f < 0 ∨ g < 0
  · by_cases h2 : f < 0 ∧ g < 0
    · have hres : cmpT ⟨f, l⟩ ⟨g, m⟩ = cmpI g f := by rw [cmpT, if_pos hv, if_pos h2]
      have hf1 : decide (f < 0) = true := decide_eq_true h2.1
      have hg1 : decide (g < 0) = true := decide_eq_true h2.2
      clear hv h2
      go_wp2_with (go_at_call 76; refine (h76.out _ _ _).mono ?_; rintro q w1 ⟨rfl, hd⟩; have hb1 := Aside0.mk (hd.below); clear hd)
      go_ret
      rw [hres]
      exact ⟨rfl, (below_alloc (below_alloc (Below.refl _ _) _) _).trans (hb1.out.mono (by simp; omega))⟩
    · have hres : cmpT ⟨f, l⟩ ⟨g, m⟩ = cmpI f g := by rw [cmpT, if_pos hv, if_neg h2]
      by_cases hf : f < 0
      · have hf1 : decide (f < 0) = true := decide_eq_true hf
        have hg1 : decide (g < 0) = false := decide_eq_false (fun h => h2 ⟨hf, h⟩)
        clear hv h2
        go_wp2_with (go_at_call 76; refine (h76.out _ _ _).mono ?_; rintro q w1 ⟨rfl, hd⟩; have hb1 := Aside0.mk (hd.below); clear hd)
        go_ret
        rw [hres]
        exact ⟨rfl, (below_alloc (below_alloc (Below.refl _ _) _) _).trans (hb1.out.mono (by simp; omega))⟩
      · have hf1 : decide (f < 0) = false := decide_eq_false hf
        have hg1 : decide (g < 0) = true := decide_eq_true (hv.resolve_left hf)
        clear hv h2
        go_wp2_with (go_at_call 76; refine (h76.out _ _ _).mono ?_; rintro q w1 ⟨rfl, hd⟩; have hb1 := Aside0.mk (hd.below); clear hd)
        go_ret
        rw [hres]
        exact ⟨rfl, (below_alloc (below_alloc (Below.refl _ _) _) _).trans (hb1.out.mono (by simp; omega))⟩
  · have hres : cmpT ⟨f, l⟩ ⟨g, m⟩ = orI (cmpI f g) (cmpI l.length m.length) (cmpTs l m) := by rw [cmpT, if_neg hv]
    have hf1 : decide (f < 0) = false := decide_eq_false (fun h => hv (.inl h))
    have hg1 : decide (g < 0) = false := decide_eq_false (fun h => hv (.inr h))
    obtain ⟨r, hr⟩ : ∃ r, r = orI (cmpI f g) (cmpI l.length m.length) (cmpTs l m) := ⟨_, rfl⟩
    obtain ⟨ko, hko⟩ := (orI_f (cmpI f g) (cmpI l.length m.length) (cmpTs l m)).rounds
    rw [← hr] at hres hko
    have hkz := Aside0.mk hko
    clear hv hr hko
    go_wp2
    refine Compare_r5 (f := f) (g := g) (c1 := cmpI f g) (c2 := cmpI l.length m.length) (c3 := cmpTs l m) (r := r) (A := A) (B := B) (nl := l.length) (nm := m.length) (c := c) (e := e) (g0 := w.heap.size) (g1 := w.heap.size + 1) (by kernel_rfl) rfl (blk_alloc (heap_alloc_new _ _) _) rfl ?_ ?_ ?_ ?_ ?_ hc he ?_
    · have := heap_alloc_new (w.alloc (.cells #[.int .i64 f, .slice A l.length c] 30)) (.cells #[.int .i64 g, .slice B m.length e] 30)
      rw [World.size_alloc] at this
      exact this
    · intro w1 hb; exact (h76.out _ _ _).mono (fun q w2 h => ⟨h.1, h.2.below⟩)
    · intro w1 hb; exact (h76.out _ _ _).mono (fun q w2 h => ⟨h.1, h.2.below⟩)
    · intro w1 hb; exact hCF.out w1 ((below_alloc (below_alloc (Below.refl _ _) _) _).trans (hb.mono (by simp; omega)))
    · intro w1 gs hgs
      refine (cmp_Or_int.calls ko (some ⟨gs, 0, none⟩) 3 [cmpI f g, cmpI l.length m.length, cmpTs l m] r w1 ?_ (by simp) hkz.out).mono (fun q w2 h => ⟨h.1, h.2.below⟩)
      refine ⟨rfl, by simp, fun _ => ⟨_, rfl, fun j p hj => ?_⟩⟩
      have hcell := fun i => blk_cell hgs i
      match j with
      | 0 => simp at hj; subst hj; exact ⟨[.int .i64 _], rfl, rfl, fun i u hi => by (match i with | 0 => simp at hi; subst hi; exact (hcell 0).trans rfl | i + 1 => simp at hi)⟩
      | 1 => simp at hj; subst hj; exact ⟨[.int .i64 _], rfl, rfl, fun i u hi => by (match i with | 0 => simp at hi; subst hi; exact (hcell 1).trans rfl | i + 1 => simp at hi)⟩
      | 2 => simp at hj; subst hj; exact ⟨[.int .i64 _], rfl, rfl, fun i u hi => by (match i with | 0 => simp at hi; subst hi; exact (hcell 2).trans rfl | i + 1 => simp at hi)⟩
      | j + 3 => simp at hj
    intro v w2 hb2 hv19
    simp only [layL, Nat.reduceAdd, List.setIfInBounds_toArray, List.set_cons_zero, List.set_cons_succ, hv19]
    have hb2 := Aside0.mk hb2
    clear hv19
    go_wp2
    go_ret
    rw [hres]
    exact ⟨rfl, (below_alloc (below_alloc (Below.refl _ _) _) _).trans (hb2.out.mono (by simp; omega))⟩
theorem term_Compare.calls (a0_0 : Int) (A0_1 : Option Addr) (c0_1 : Nat) (l0_1 : List S30) (a1_0 : Int) (A1_1 : Option Addr) (c1_1 : Nat) (l1_1 : List S30) (r : Int) (w : World) (hr0_1 : Kd.C k30 w A0_1 l0_1.length l0_1) (hc0_1 : l0_1.length ≤ c0_1) (hr1_1 : Kd.C k30 w A1_1 l1_1.length l1_1) (hc1_1 : l1_1.length ≤ c1_1) (h : term_Compare.f a0_0 l0_1 a1_0 l1_1 = some r) :
    Calls Try.prog 36 #[.agg #[.int .i64 a0_0, .slice A0_1 l0_1.length c0_1], .agg #[.int .i64 a1_0, .slice A1_1 l1_1.length c1_1]] w fun e w' => e = .returned (.int .i64 r) ∧ Below w.heap.size w w' := by
  unfold term_Compare.f at h
  obtain rfl := Option.some.inj h
  exact Compare_any ⟨a0_0, l0_1⟩ ⟨a1_0, l1_1⟩ A0_1 A1_1 c0_1 c1_1 w hr0_1 hc0_1 hr1_1 hc1_1
end Go.Proofs.Ytpfddihcikiofaa.P
end

section
namespace Go.Proofs.Ytpfddihcikiofaa.P
open Go.RowKit Go.Proofs.YtpfddihcikiofaaW.PrintWords Go.Proofs.YtpfddihcikiofaaW.PrintLast Go.Proofs.YtpfddihcikiofaaW.PrintMore
attribute [local go_sem] max2_int min2_int max_two min_two max_three min_three max_four min_four
set_option linter.unusedVariables false
set_option linter.unusedSimpArgs false
def term_Same.f (a0_0 : Int) (l0_1 : List (S30)) (a1_0 : Int) (l1_1 : List (S30)) : Option (Bool) := (term_Compare.f a0_0 l0_1 a1_0 l1_1).bind fun t263 => (some (t263 == 0))
set_option maxHeartbeats 8000000 in
set_option maxRecDepth 100000 in
theorem term_Same.calls (a0_0 : Int) (A0_1 : Option Addr) (c0_1 : Nat) (l0_1 : List (S30)) (a1_0 : Int) (A1_1 : Option Addr) (c1_1 : Nat) (l1_1 : List (S30)) (r : Bool) (w : World) (hr0_1 : Kd.C k30 w A0_1 l0_1.length l0_1) (hc0_1 : l0_1.length ≤ c0_1) (hr1_1 : Kd.C k30 w A1_1 l1_1.length l1_1) (hc1_1 : l1_1.length ≤ c1_1) (h : term_Same.f a0_0 l0_1 a1_0 l1_1 = some r) :
    Calls Try.prog 37 #[.agg #[.int .i64 a0_0, .slice A0_1 l0_1.length c0_1], .agg #[.int .i64 a1_0, .slice A1_1 l1_1.length c1_1]] w fun e w' => e = .returned (.bool r) ∧ Below w.heap.size w w' := by
  have hu30 := Try.underlying30
  have HR0_1 := Aside0.mk hr0_1
  have HC0_1 := Aside0.mk hc0_1
  clear hr0_1 hc0_1
  have HR1_1 := Aside0.mk hr1_1
  have HC1_1 := Aside0.mk hc1_1
  clear hr1_1 hc1_1
  have HB := Aside0.mk (Below.refl w.heap.size w)
  have H : ((term_Compare.f a0_0 l0_1 a1_0 l1_1).bind fun t263 => (some (t263 == 0))) = some r := h
  clear h
  replace H := Option.bind_eq_some_iff.mp H
  obtain ⟨t263, A30, H⟩ := H
  replace H : (some (t263 == 0)) = some r := H
  have A3 := Aside0.mk A30
  clear A30
  obtain rfl := Option.some.inj H
  go_enter Try.func37, Try.ntmps37
  go_wp2_with (first | ((with_reducible refine gate_dst (N := 2) rfl ?_); refine box_event ?hg (N := 2) ?hd (cs := #[.int .i64 a0_0, .slice A0_1 l0_1.length c0_1]) (t := 30) ?hr ?_; (case hd => rfl); (case hg => rfl); (case hr => first | (go_simp; done) | (go_simp; rfl)); intro gb261 hg w4 hbox hb; have n0_ := Aside0.mk (below_step (by repeat (first | (with_reducible first | exact HB.out | apply below_alloc | apply pw_below_drewN | apply below_drew1) | exact HB.out)) hb); have n1_ := Aside0.mk (hbox); have n2_ := Aside0.mk ((by rw [hg]; exact (below_size (by repeat (first | (with_reducible first | exact HB.out | apply below_alloc | apply pw_below_drewN | apply below_drew1) | exact HB.out))) : w.heap.size ≤ gb261)); have n3_ := Aside0.mk ((by rw [hg]; exact (below_size (by repeat (first | (with_reducible first | exact HB.out | apply below_alloc | apply pw_below_drewN | apply below_drew1) | exact HB.out))) : w.heap.size ≤ gb261)); clear HB; have HB := n0_; have BK261 := n1_; have GW261 := n2_; have GE261 := n3_; clear n0_ n1_ n2_ n3_; clear hb hbox hg) | ((with_reducible refine gate_dst (N := 3) rfl ?_); refine box_event ?hg (N := 3) ?hd (cs := #[.int .i64 a1_0, .slice A1_1 l1_1.length c1_1]) (t := 30) ?hr ?_; (case hd => rfl); (case hg => rfl); (case hr => first | (go_simp; done) | (go_simp; rfl)); intro gb262 hg w5 hbox hb; have n0_ := Aside0.mk (blk_below (g := gb261) (o := .cells #[.int .i64 a0_0, .slice A0_1 l0_1.length c0_1] 30 (0, 0)) (by (with_reducible repeat (first | refine blk_drewN ?_ _ | refine blk_drew ?_ | refine blk_alloc ?_ _)); exact BK261.out) hb); have n1_ := Aside0.mk (below_step (by repeat (first | (with_reducible first | exact HB.out | apply below_alloc | apply pw_below_drewN | apply below_drew1 | refine below_set ?_ GE261.out) | exact HB.out)) hb); have n2_ := Aside0.mk (hbox); have n3_ := Aside0.mk ((by rw [hg]; exact (below_size (by repeat (first | (with_reducible first | exact HB.out | apply below_alloc | apply pw_below_drewN | apply below_drew1 | refine below_set ?_ GE261.out) | exact HB.out))) : w.heap.size ≤ gb262)); have n4_ := Aside0.mk ((by rw [hg]; exact (below_size (by repeat (first | (with_reducible first | exact HB.out | apply below_alloc | apply pw_below_drewN | apply below_drew1 | refine below_set ?_ GE261.out) | exact HB.out))) : w.heap.size ≤ gb262)); have n5_ := Aside0.mk ((by rw [hg]; exact Nat.ne_of_lt (blk_lt (g := gb261) (o := .cells #[.int .i64 a0_0, .slice A0_1 l0_1.length c0_1] 30 (0, 0)) (by (with_reducible repeat (first | refine blk_drewN ?_ _ | refine blk_drew ?_ | refine blk_alloc ?_ _)); exact BK261.out)) : gb261 ≠ gb262)); have n6_ := Aside0.mk ((by rw [hg]; exact Nat.ne_of_gt (blk_lt (g := gb261) (o := .cells #[.int .i64 a0_0, .slice A0_1 l0_1.length c0_1] 30 (0, 0)) (by (with_reducible repeat (first | refine blk_drewN ?_ _ | refine blk_drew ?_ | refine blk_alloc ?_ _)); exact BK261.out)) : gb262 ≠ gb261)); clear BK261; clear HB; have BK261 := n0_; have HB := n1_; have BK262 := n2_; have GW262 := n3_; have GE262 := n4_; have NB261_262 := n5_; have NB262_261 := n6_; clear n0_ n1_ n2_ n3_ n4_ n5_ n6_; clear hb hbox hg; have hnb6 := NB261_262.out; have hnc6 := NB262_261.out; have hcz7_0 : w5.cell? ⟨gb261, 0, none⟩ = some (.int .i64 a0_0) := (blk_cell BK261.out 0).trans rfl; have hcz7_1 : w5.cell? ⟨gb261, 1, none⟩ = some (.slice A0_1 l0_1.length c0_1) := (blk_cell BK261.out 1).trans rfl; have hfz7_0 := blk_frozen BK261.out 0; have hfz7_1 := blk_frozen BK261.out 1; have hcz8_0 : w5.cell? ⟨gb262, 0, none⟩ = some (.int .i64 a1_0) := (blk_cell BK262.out 0).trans rfl; have hcz8_1 : w5.cell? ⟨gb262, 1, none⟩ = some (.slice A1_1 l1_1.length c1_1) := (blk_cell BK262.out 1).trans rfl; have hfz8_0 := blk_frozen BK262.out 0; have hfz8_1 := blk_frozen BK262.out 1) | ((with_reducible refine gate_callee (f := 36) rfl ?_); refine goesL_ (some 7) rfl rfl Try.func36 (by kernel_rfl) rfl #[.agg #[.int .i64 a0_0, .slice A0_1 l0_1.length c0_1], .agg #[.int .i64 a1_0, .slice A1_1 l1_1.length c1_1]] rfl (by (try simp only [List.map_toArray, List.map_cons, List.map_nil]); first | done | rfl | (simp only [List.length_drop, List.length_take]; rfl)) ?_; (with_reducible refine (term_Compare.calls a0_0 _ _ l0_1 a1_0 _ _ l1_1 t263 _ ?side1 ?side2 ?side3 ?side4 A3.out).mono ?_); (case side1 => repeat (first | exact (Kd.C_below HR0_1.out HB.out) | (with_reducible refine Kd.C_alloc ?_ _) | (with_reducible refine Kd.C_drewN ?_ _) | (with_reducible refine Kd.C_drew ?_))); (case side2 => exact HC0_1.out); (case side3 => repeat (first | exact (Kd.C_below HR1_1.out HB.out) | (with_reducible refine Kd.C_alloc ?_ _) | (with_reducible refine Kd.C_drewN ?_ _) | (with_reducible refine Kd.C_drew ?_))); (case side4 => exact HC1_1.out); rintro e w9 ⟨rfl, hb⟩; refine ⟨_, rfl, ?_⟩; have n0_ := Aside0.mk (blk_below (g := gb261) (o := .cells #[.int .i64 a0_0, .slice A0_1 l0_1.length c0_1] 30 (0, 0)) (by (with_reducible repeat (first | refine blk_drewN ?_ _ | refine blk_drew ?_ | refine blk_alloc ?_ _)); exact BK261.out) hb); have n1_ := Aside0.mk (blk_below (g := gb262) (o := .cells #[.int .i64 a1_0, .slice A1_1 l1_1.length c1_1] 30 (0, 0)) (by (with_reducible repeat (first | refine blk_drewN ?_ _ | refine blk_drew ?_ | refine blk_alloc ?_ _)); exact BK262.out) hb); have n2_ := Aside0.mk (below_step (by repeat (first | (with_reducible first | exact HB.out | apply below_alloc | apply pw_below_drewN | apply below_drew1 | refine below_set ?_ GE261.out | refine below_set ?_ GE262.out) | exact HB.out)) hb); clear BK261; clear BK262; clear HB; have BK261 := n0_; have BK262 := n1_; have HB := n2_; clear n0_ n1_ n2_; (try clear hb); (try clear hb2); (try clear hk); (try clear hi)))
  go_ret
  exact ⟨by first | rfl | (simp [errW_none, errW_some] <;> rfl) | (simp [*, errW_none, errW_some] <;> rfl), by repeat (first | (with_reducible first | exact HB.out | apply below_alloc | apply pw_below_drewN | apply below_drew1 | refine below_set ?_ GE261.out | refine below_set ?_ GE262.out) | exact HB.out)⟩
end Go.Proofs.Ytpfddihcikiofaa.P
end

section
namespace Go.Proofs.Ytpfddihcikiofaa.P
open Go.RowKit Go.Proofs.YtpfddihcikiofaaW.PrintWords Go.Proofs.YtpfddihcikiofaaW.PrintLast Go.Proofs.YtpfddihcikiofaaW.PrintMore
set_option linter.unusedVariables false
set_option linter.unusedSimpArgs false
theorem cmpI_self (a : Int) : cmpI a a = 0 := by unfold cmpI; (repeat' split) <;> omega
def T3 (p q r : Int) : Prop := p ≤ 0 → q ≤ 0 → r ≤ 0 ∧ (r = 0 ↔ p = 0 ∧ q = 0)
theorem pick_spec (a b : Int) : (a = 0 ∧ (if a = 0 then b else a) = b) ∨ (a ≠ 0 ∧ (if a = 0 then b else a) = a) := by split <;> omega
theorem T3.pick {p q r p' q' r' : Int} (h : T3 p q r) (h' : T3 p' q' r') : T3 (if p = 0 then p' else p) (if q = 0 then q' else q) (if r = 0 then r' else r) := by
  have e1 := pick_spec p p'
  have e2 := pick_spec q q'
  have e3 := pick_spec r r'
  generalize (if p = 0 then p' else p) = P at e1 ⊢
  generalize (if q = 0 then q' else q) = Q at e2 ⊢
  generalize (if r = 0 then r' else r) = R at e3 ⊢
  unfold T3 at *
  rcases e1 with e1 | e1 <;> rcases e2 with e2 | e2 <;> rcases e3 with e3 | e3 <;> intro h3 h4 <;> omega
theorem Same_of (x y : S30) : term_Same.f x.f0 x.f1 y.f0 y.f1 = some (cmpT x y == 0) := by
  simp only [term_Same.f, term_Compare.f, S30.eta, Option.bind_some]
end Go.Proofs.Ytpfddihcikiofaa.P
end

section
namespace Go.Proofs.Ytpfddihcikiofaa.P
open Go.RowKit Go.Proofs.YtpfddihcikiofaaW.PrintWords Go.Proofs.YtpfddihcikiofaaW.PrintLast Go.Proofs.YtpfddihcikiofaaW.PrintMore
set_option linter.unusedVariables false
set_option linter.unusedSimpArgs false
theorem Size_is {t : S30} (h : (nodes t).length ≤ 1099511627776) : term_Size.f t.f0 t.f1 = some ((nodes t).length : Int) := by
  unfold term_Size.f
  rw [S30.eta, flatP_len, if_pos h]
end Go.Proofs.Ytpfddihcikiofaa.P
end

section
namespace Go.Proofs.Ytpfddihcikiofaa.P
open Go.RowKit Go.Maps Go.Proofs.YtpfddihcikiofaaW.PrintWords Go.Proofs.YtpfddihcikiofaaW.PrintLast Go.Proofs.YtpfddihcikiofaaW.PrintMore
set_option linter.unusedVariables false
set_option linter.unusedSimpArgs false
theorem law3 : Keyed Try.prog 3 := int_keyed Try.underlying3
theorem zero3 (w : World) : (zeroValue 3).run Try.prog w = .ok (.int .i64 0) w := by kernel_rfl
abbrev i64D (c : Int) : DataW Unit := .lit (.int .i64 c)
def ReadsM (D : DataW Unit) (g : Int → Int) : Prop := IsMap D ∧ ∀ x, (Lit.int .i64 x).wf = true → D.atKey (.int .i64 x) (i64D 0) = i64D (g x)
def addV (g : Int → Int) (s : Int) (l : List S30) : Int → Int := fun x => g x + (if x < 0 then s * (countN x l : Int) else 0)
theorem addV_nil (g : Int → Int) (s : Int) : addV g s [] = g := by
  funext x
  simp [addV, countN]
theorem countN_append (x : Int) (l m : List S30) : countN x (l ++ m) = countN x l + countN x m := by simp [countN]
theorem countN_le (x : Int) (l : List S30) : countN x l ≤ l.length := by unfold countN; exact List.length_filter_le _ _
theorem addV_append (g : Int → Int) (s : Int) (l m : List S30) : addV g s (l ++ m) = addV (addV g s l) s m := by
  funext x
  simp only [addV, countN_append]
  split
  · rw [Int.natCast_add, Int.mul_add]; omega
  · omega
theorem addV_bound {g : Int → Int} {s M : Int} (hs : s = 1 ∨ s = -1) (h : ∀ x, -M ≤ g x ∧ g x ≤ M) (l : List S30) (x : Int) : -(M + l.length) ≤ addV g s l x ∧ addV g s l x ≤ M + l.length := by
  have h1 := countN_le x l
  have h2 := h x
  unfold addV
  split
  · rcases hs with rfl | rfl
    · rw [Int.one_mul]; omega
    · rw [Int.neg_mul, Int.one_mul]; omega
  · omega
def SmallN (t : S30) : Prop := ∀ x ∈ nodes t, -1000000 ≤ x.f0 ∧ x.f0 ≤ 1000000
theorem nodess_take (l : List S30) (k : Nat) (h : k < l.length) : nodess (l.take (k + 1)) = nodess (l.take k) ++ nodes l[k] := by
  have key : ∀ a b : List S30, nodess (a ++ b) = nodess a ++ nodess b := by
    intro a
    induction a with
    | nil => intro b; rfl
    | cons x a ih => intro b; rw [List.cons_append, nodess, nodess, ih, List.append_assoc]
  rw [List.take_succ_eq_append_getElem h, key]
  simp [nodess]
theorem nodess_mem {l : List S30} {x y : S30} (hx : x ∈ l) (hy : y ∈ nodes x) : y ∈ nodess l := by
  induction l with
  | nil => cases hx
  | cons z l ih =>
    rw [nodess, List.mem_append]
    rcases List.mem_cons.1 hx with rfl | hx
    · exact .inl hy
    · exact .inr (ih hx)
theorem nodess_take_le (l : List S30) (k : Nat) : (nodess (l.take k)).length ≤ (nodess l).length := by
  have key : ∀ a b : List S30, nodess (a ++ b) = nodess a ++ nodess b := by
    intro a
    induction a with
    | nil => intro b; rfl
    | cons x a ih => intro b; rw [List.cons_append, nodess, nodess, ih, List.append_assoc]
  have h : nodess l = nodess (l.take k) ++ nodess (l.drop k) := by rw [← key, List.take_append_drop]
  rw [h, List.length_append]
  omega
def CountsOk (t : S30) : Prop := ∀ (w0 w : World) (A : Option Addr) (c B n : Nat) (D : DataW Unit) (g : Int → Int) (s M : Int), k30.C w0 A t.f1.length t.f1 → t.f1.length ≤ c → Below w0.heap.size w0 w → w0.heap.size ≤ B →
  w.ownsMap Try.prog 3 (plainElem Try.prog 3) B n D → ReadsM D g → (∀ x, -M ≤ g x ∧ g x ≤ M) → M + (nodes t).length ≤ 1000000000 → n + (nodes t).length ≤ 1000000000 → (s = 1 ∨ s = -1) → SmallN t →
  Calls Try.prog 79 #[.agg #[.int .i64 t.f0, .slice A t.f1.length c], .map (some B), .int .i64 s] w fun e w' => e = .returned (.tuple #[]) ∧
    ∃ D', w'.ownsMap Try.prog 3 (plainElem Try.prog 3) B (n + (nodes t).length) D' ∧ ReadsM D' (addV g s (nodes t)) ∧ Below w0.heap.size w0 w'
theorem rdC_at (l : List S30) (k : Nat) (h : k < l.length) : rd_T30 l (k : Int) = l[k] := by
  unfold rd_T30
  simp [List.getD, List.getElem?_eq_getElem h]
theorem put_reads {D : DataW Unit} {g : Int → Int} {t : S30} {s c : Int} (h : ReadsM D g) (hneg : t.f0 < 0) (hn : nodes t = [t]) (hc : c = g t.f0 + s) (hw : (Lit.int .i64 t.f0).wf = true) : ReadsM (D.put (.int .i64 t.f0) (i64D c)) (addV g s (nodes t)) := by
  refine ⟨h.1.put _ _, fun x hx => ?_⟩
  by_cases hxt : x = t.f0
  · subst hxt
    rw [atKey_put_same h.1 (by simp [WideAt.IsKeyLit]), hn, hc]
    simp [addV, hneg, countN]
  · rw [atKey_put_other (by intro e; injection e with _ e; exact hxt e), h.2 x hx, hn]
    have : countN x [t] = 0 := by simp [countN]; exact fun e => hxt e.symm
    simp [addV, this]
set_option maxHeartbeats 4000000 in
set_option maxRecDepth 100000 in
theorem counts_any : ∀ t : S30, CountsOk t := by
  refine S30.ind ?_
  intro f l ih w0 w A c B n D g s M hC hc hb0 hB hown hR hg hM hn hs hsm
  have hll : l.length ≤ 9223372036854775807 := hC.2.1
  have hCz := Aside0.mk hC
  have hIz := Aside0.mk ih
  have hSz := Aside0.mk hsm
  have hf : -1000000 ≤ f ∧ f ≤ 1000000 := hsm ⟨f, l⟩ (by simp [nodes])
  have hwf : (Lit.int .i64 f).wf = true := by simp [Lit.wf, IntKind.min, IntKind.max, IntKind.signed, IntKind.bits]; omega
  clear hC ih hsm
  by_cases hneg : f < 0
  · have hnd : nodes ⟨f, l⟩ = [⟨f, l⟩] := by simp [nodes, hneg]
    have hlt : decide (f < 0) = true := decide_eq_true hneg
    have hgf := hg f
    have hkey : keyOf Try.prog 3 (.int .i64 f) = some (.int .i64 f) := keyOf_int_mk Try.underlying3 hwf
    have hownb := hown.alloc (.cells #[.int .i64 f, .slice A l.length c] 30)
    have hR' := Aside0.mk hR
    have hg' := Aside0.mk hg
    have hn1 : n + 1 ≤ 1000000000 := by rw [hnd] at hn; exact hn
    have hM1 : M + 1 ≤ 1000000000 := by rw [hnd] at hM; exact hM
    clear hR hg hn hM
    go_enter Try.func79, Try.ntmps79
    go_wp2_with (first
      | (at_lookup; refine wpList_lookup_own_int _ rfl _ _ 106 rfl 3 3 .i64 law3 Try.underlying106 Try.underlying3 (zero3 _) B n _ rfl hownb _ _ rfl hkey ?_; intro c1 hat hwc)
      | (at_mapUpdate; refine wpList_mapUpdate_own _ rfl _ _ _ 106 rfl 3 3 law3 Try.underlying106 _ B n _ rfl hownb (by unfold maxLen; omega) _ _ _ rfl rfl hkey _ [] (plainElem_int Try.underlying3 (wrap64_wf _)) ?_; intro w1 hown1 hgrow1)
      | go_in)
    have hc1 : c1 = g f := by
      have h1 := hR'.out.2 f hwf
      rw [hat] at h1
      simpa [i64D] using h1
    have hgf' := hg'.out f
    have hwr : wrap64 (c1 + s) = g f + s := by
      rw [hc1]
      unfold wrap64
      rcases hs with rfl | rfl <;> omega
    have hbb := (below_alloc hb0 (.cells #[.int .i64 f, .slice A l.length c] 30)).grown hgrow1 (Nat.le_trans hb0.size (by simp)) (fun j hj => by cases hj; exact hB)
    have hres := put_reads hR'.out (t := ⟨f, l⟩) hneg (by simp [nodes, hneg]) hwr hwf
    rw [show nodes ⟨f, l⟩ = [⟨f, l⟩] by simp [nodes, hneg]] at hres
    refine bodyPost_ret (results_none (by rfl) _ _ _) (by rfl) ?_
    exact ⟨rfl, _, hown1, hres, hbb⟩
  · have hge : decide (f < 0) = false := decide_eq_false hneg
    have hnd : nodes ⟨f, l⟩ = ⟨f, l⟩ :: nodess l := by simp [nodes, hneg]
    have hadd : addV g s (nodes ⟨f, l⟩) = addV g s (nodess l) := by
      funext x
      rw [hnd]
      unfold addV
      split
      · rename_i hx
        have : countN x (⟨f, l⟩ :: nodess l) = countN x (nodess l) := by
          unfold countN
          rw [List.filter_cons_of_neg]
          simp
          omega
        rw [this]
      · rfl
    have hln : (nodes ⟨f, l⟩).length = 1 + (nodess l).length := by rw [hnd, List.length_cons]; omega
    rw [hln] at hM hn ⊢
    rw [hadd]
    have hSl : ∀ x ∈ l, SmallN x := fun x hx y hy => hSz.out y (by rw [hnd]; exact List.mem_cons_of_mem _ (nodess_mem hx hy))
    have hSl := Aside0.mk hSl
    have hR' := Aside0.mk hR
    have hg' := Aside0.mk hg
    have hownb := Aside0.mk (hown.alloc (.cells #[.int .i64 f, .slice A l.length c] 30))
    have hbb := Aside0.mk (below_alloc hb0 (.cells #[.int .i64 f, .slice A l.length c] 30))
    clear hR hg hnd hadd hln hSz hb0 hown hf hwf
    go_enter Try.func79, Try.ntmps79
    go_wp2
    go_loopw [20] (fun i wr => ∃ k : Nat, k ≤ l.length ∧ i = .int .i64 k ∧ Aside0 (∃ D', wr.ownsMap Try.prog 3 (plainElem Try.prog 3) B (n + (nodess (l.take k)).length) D' ∧ ReadsM D' (addV g s (nodess (l.take k))) ∧ Below w0.heap.size w0 wr)) (fun i wr => l.length - (intOf i).toNat)
    case atStart => exact ⟨0, Nat.zero_le _, rfl, ⟨D, hownb.out, by rw [List.take_zero, nodess, addV_nil]; exact hR'.out, hbb.out⟩⟩
    case round =>
      obtain ⟨k, hk, rfl, ⟨D1, hown1, hR1, hb1⟩⟩ := hrel
      by_cases hlt : k < l.length
      · obtain ⟨ad, A1, c1, rfl, hx0, hx1, hl1, hC1⟩ := at_T30 hCz.out (k : Int) (by omega) (by omega)
        rw [rdC_at l k hlt] at hx0 hx1 hl1 hC1
        rw [Int.toNat_natCast] at hx0 hx1
        replace hx0 := (hb1.cell (cell_lt' hx0)).trans hx0
        replace hx1 := (hb1.cell (cell_lt' hx1)).trans hx1
        have htk := nodess_take l k hlt
        have htl := nodess_take_le l (k + 1)
        rw [htk, List.length_append] at htl
        have hih := hIz.out l[k] (List.getElem_mem hlt)
        have hsx := hSl.out l[k] (List.getElem_mem hlt)
        generalize hxk : l[k] = x at hx0 hx1 hl1 hC1 htk htl hih hsx
        obtain ⟨P, hP⟩ : ∃ P, P = nodess (l.take k) := ⟨_, rfl⟩
        rw [← hP] at htk htl hown1 hR1
        have hgb := addV_bound hs hg'.out P
        have hin : Aside0 (Calls Try.prog 79 #[.agg #[.int .i64 x.f0, .slice A1 x.f1.length c1], .map (some B), .int .i64 s] (wr.alloc (.cells #[.int .i64 x.f0, .slice A1 x.f1.length c1] 30)) fun e w' => e = .returned (.tuple #[]) ∧
            ∃ D', w'.ownsMap Try.prog 3 (plainElem Try.prog 3) B (n + P.length + (nodes x).length) D' ∧ ReadsM D' (addV (addV g s P) s (nodes x)) ∧ Below w0.heap.size w0 w') := ⟨hih w0 _ A1 c1 B (n + P.length) D1 (addV g s P) s (M + P.length) hC1 hl1 (below_alloc hb1 _) hB (hown1.alloc _) hR1 hgb (by omega) (by omega) hs hsx⟩
        have htkz := Aside0.mk htk
        have hsz := Aside0.mk hs
        clear hxk hgb hown1 hR1 hb1 hC1 htl htk hih hsx hP hs
        go_wp2_with (go_at_call 79; refine hin.out.mono ?_; rintro e w3 ⟨rfl, D2, h1, h2, h3⟩; have H1 := Aside0.mk h1; have H2 := Aside0.mk h2; have H3 := Aside0.mk h3; clear h1 h2 h3)
        go_roundw
        case rel => exact ⟨k + 1, by omega, by go_num, ⟨D2, by rw [htkz.out, List.length_append, ← Nat.add_assoc]; exact H1.out, by rw [htkz.out, addV_append]; exact H2.out, H3.out⟩⟩
        case measure => simp [intOf]; omega
      · have hke : k = l.length := by omega
        subst hke
        rw [List.take_length] at hown1 hR1
        have hown1 := Aside0.mk hown1
        have hR1 := Aside0.mk hR1
        have hb1 := Aside0.mk hb1
        go_wp2
        go_end0
        exact ⟨rfl, D1, hown1.out.mono (by omega), hR1.out, hb1.out⟩
def covT (a b : S30) : Bool := (nodes b).all fun x => decide (0 ≤ x.f0) || decide (countN x.f0 (nodes b) ≤ countN x.f0 (nodes a))
def netV (a b : S30) : Int → Int := addV (addV (fun _ => 0) 1 (nodes a)) (-1) (nodes b)
theorem netV_eq (a b : S30) (x : Int) : netV a b x = if x < 0 then (countN x (nodes a) : Int) - (countN x (nodes b) : Int) else 0 := by
  unfold netV addV
  simp only []
  split
  · rw [Int.one_mul, Int.neg_mul, Int.one_mul]; omega
  · omega
theorem covT_iff (a b : S30) : covT a b = true ↔ ∀ x, 0 ≤ netV a b x := by
  unfold covT
  rw [List.all_eq_true]
  constructor
  · intro h x
    rw [netV_eq]
    split
    · rename_i hx
      by_cases hz : countN x (nodes b) = 0
      · omega
      · obtain ⟨y, hy⟩ : ∃ y, y ∈ (nodes b).filter fun z => z.f0 == x := List.exists_mem_of_length_pos (Nat.pos_of_ne_zero hz)
        rw [List.mem_filter, beq_iff_eq] at hy
        have := h y hy.1
        rw [hy.2, Bool.or_eq_true, decide_eq_true_eq, decide_eq_true_eq] at this
        omega
    · exact Int.le_refl _
  · intro h x hx
    have := h x.f0
    rw [netV_eq] at this
    rw [Bool.or_eq_true, decide_eq_true_eq, decide_eq_true_eq]
    split at this <;> omega
set_option maxHeartbeats 4000000 in
set_option maxRecDepth 100000 in
theorem Covers_calls (a b : S30) (A : Option Addr) (c : Nat) (A' : Option Addr) (c' : Nat) (w : World) (hA : k30.C w A a.f1.length a.f1) (hc : a.f1.length ≤ c) (hB : k30.C w A' b.f1.length b.f1) (hc' : b.f1.length ≤ c')
    (hsa : SmallN a) (hsb : SmallN b) (hna : (nodes a).length ≤ 1000000) (hnb : (nodes b).length ≤ 1000000) :
    Calls Try.prog 45 #[.agg #[.int .i64 a.f0, .slice A a.f1.length c], .agg #[.int .i64 b.f0, .slice A' b.f1.length c']] w fun e w' => e = .returned (.bool (covT a b)) ∧ Below w.heap.size w w' := by
  have hmm := @run_makeMap Try.prog
  obtain ⟨W2, hW2⟩ : ∃ W2, W2 = (w.alloc (.cells #[.int .i64 a.f0, .slice A a.f1.length c] 30)).alloc (.cells #[.int .i64 b.f0, .slice A' b.f1.length c'] 30) := ⟨_, rfl⟩
  have hb2 : Below w.heap.size w W2 := by rw [hW2]; exact below_alloc (below_alloc (Below.refl _ _) _) _
  have hs2 : W2.heap.size = w.heap.size + 1 + 1 := by rw [hW2, World.size_alloc, World.size_alloc]
  have hbx : W2.heap[w.heap.size + 1]? = some (.cells #[.int .i64 b.f0, .slice A' b.f1.length c'] 30 (0, 0)) := by
    rw [hW2]
    have := heap_alloc_new (w.alloc (.cells #[.int .i64 a.f0, .slice A a.f1.length c] 30)) (.cells #[.int .i64 b.f0, .slice A' b.f1.length c'] 30)
    rw [World.size_alloc] at this
    exact this
  have hmade := World.ownsMap_made W2 Try.prog 3 (plainElem (H := Unit) Try.prog 3)
  rw [hs2] at hmade
  have h1 : Aside0 (Calls Try.prog 79 #[.agg #[.int .i64 a.f0, .slice A a.f1.length c], .map (some (w.heap.size + 1 + 1)), .int .i64 1] (W2.alloc (.map #[] 0)) fun e w' => e = .returned (.tuple #[]) ∧
      ∃ D', w'.ownsMap Try.prog 3 (plainElem (H := Unit) Try.prog 3) (w.heap.size + 1 + 1) (0 + (nodes a).length) D' ∧ ReadsM D' (addV (fun _ => 0) 1 (nodes a)) ∧ Below W2.heap.size W2 w') :=
    ⟨counts_any a W2 _ A c _ 0 _ (fun _ => 0) 1 0 (Kd.C_below hA hb2) hc (below_alloc (Below.refl _ _) _) (Nat.le_of_eq hs2) hmade ⟨isMap_empty, fun x _ => rfl⟩ (fun x => ⟨by omega, by omega⟩) (by omega) (by omega) (.inl rfl) hsa⟩
  have h2 : Aside0 (∀ w4 D1, w4.ownsMap Try.prog 3 (plainElem (H := Unit) Try.prog 3) (w.heap.size + 1 + 1) (0 + (nodes a).length) D1 → ReadsM D1 (addV (fun _ => 0) 1 (nodes a)) → Below W2.heap.size W2 w4 → Calls Try.prog 79 #[.agg #[.int .i64 b.f0, .slice A' b.f1.length c'], .map (some (w.heap.size + 1 + 1)), .int .i64 (-1)] w4 fun e w' => e = .returned (.tuple #[]) ∧
      ∃ D', w'.ownsMap Try.prog 3 (plainElem (H := Unit) Try.prog 3) (w.heap.size + 1 + 1) (0 + (nodes a).length + (nodes b).length) D' ∧ ReadsM D' (netV a b) ∧ Below W2.heap.size W2 w') :=
    ⟨fun w4 D1 g1 g2 g3 => counts_any b W2 w4 A' c' _ _ _ _ (-1) (nodes a).length (Kd.C_below hB hb2) hc' g3 (Nat.le_of_eq hs2) g1 g2 (fun x => by have := addV_bound (g := fun _ => 0) (M := 0) (.inl rfl) (fun x => ⟨by omega, by omega⟩) (nodes a) x; omega) (by omega) (by omega) (.inr rfl) hsb⟩
  have hbig : Aside0 (∀ x, ¬ (Lit.int .i64 x).wf = true → netV a b x = 0) := ⟨fun x hx => by
    have hz : ∀ t : S30, SmallN t → countN x (nodes t) = 0 := fun t ht => by
      unfold countN
      rw [List.length_eq_zero_iff, List.filter_eq_nil_iff]
      intro y hy e
      rw [beq_iff_eq] at e
      have := ht y hy
      apply hx
      simp [Lit.wf, IntKind.min, IntKind.max, IntKind.signed, IntKind.bits]
      omega
    rw [netV_eq, hz a hsa, hz b hsb]
    split <;> rfl⟩
  have hb2z := Aside0.mk hb2
  have hbxz := Aside0.mk hbx
  have hW2z := Aside0.mk hW2
  have hs2z := Aside0.mk hs2
  clear hA hB hsa hsb hna hnb hmade hb2 hbx hs2 hW2
  go_enter Try.func45, Try.ntmps45
  go_wp2_with (first
    | (go_at_call 79; rw [← hW2z.out]; refine h1.out.mono ?_; rintro e w4 ⟨rfl, D1, g1, g2, g3⟩; have G1 := Aside0.mk (And.intro g1 (And.intro g2 g3)); have k0 : w4.cell? ⟨w.heap.size + 1, 0, none⟩ = some (.int .i64 b.f0) := (blk_cell (blk_below hbxz.out g3) 0).trans rfl; have k1 : w4.cell? ⟨w.heap.size + 1, 1, none⟩ = some (.slice A' b.f1.length c') := (blk_cell (blk_below hbxz.out g3) 1).trans rfl; clear g1 g2 g3)
    | (go_at_call 79; refine (h2.out _ _ G1.out.1 G1.out.2.1 G1.out.2.2).mono ?_; rintro e w5 ⟨rfl, D2, g4, g5, g6⟩; have G2 := Aside0.mk (And.intro g5 g6))
    | (at_range; refine wpList_range_own _ rfl _ 106 rfl 3 3 law3 Try.underlying106 _ (w.heap.size + 1 + 1) _ _ rfl g4 ?_; intro w6 hrg0 hg0 hs0)
    | go_in)
  have hB6 : Below w.heap.size w w6 := (hb2z.out.trans (G2.out.2.mono hb2z.out.size)).grown hg0 (Nat.le_trans hb2z.out.size G2.out.2.size) (fun j hj => by cases hj)
  have hlt5 : w.heap.size ≤ w5.heap.size := Nat.le_trans hb2z.out.size G2.out.2.size
  have hrel0 : ∀ x, (Lit.int .i64 x).wf = true → Maps.has D2 (.int .i64 x) = false → 0 ≤ netV a b x := fun x hx hh => by
    have h3 := G2.out.1.2 x hx
    rw [atKey_of_not_has hh] at h3
    have : netV a b x = 0 := by simpa [i64D] using h3.symm
    omega
  have hrel0z := Aside0.mk hrel0
  have hB6z := Aside0.mk hB6
  have hat2 := Aside0.mk G2.out.1
  clear g4 G1 G2 h1 h2 hmm hrel0 hB6 k0 k1 hg0 hs0
  go_frame
  go_loopw [7] (fun _ wr => ∃ (left : Lit → Bool) (cnt : Nat), wr.ranges Try.prog 3 (plainElem (H := Unit) Try.prog 3) (w.heap.size + 1 + 1) w5.heap.size (0 + (nodes a).length + (nodes b).length) D2 left cnt ∧ Aside0 (∀ x, (Lit.int .i64 x).wf = true → left (.int .i64 x) = false → 0 ≤ netV a b x) ∧ Aside0 (Below w.heap.size w wr))
    (fun _ wr => wr.rangeLeft (w.heap.size + 1 + 1) w5.heap.size)
  case atStart => exact ⟨_, _, hrg0, hrel0z, hB6z⟩
  case round =>
    obtain ⟨left, cnt, hrg, hl, hbw⟩ := hrel
    go_wp2_with (first
      | (at_next; refine wpList_next_ranges_ii _ rfl _ rfl 3 3 .i64 .i64 law3 Try.underlying3 Try.underlying3 (w.heap.size + 1 + 1) w5.heap.size _ _ _ _ rfl hrg ?_ ?_)
      | go_in)
    · intro _ hl0
      have hcv : covT a b = true := by
        rw [covT_iff]
        intro x
        by_cases hx : (Lit.int .i64 x).wf = true
        · exact hl.out x hx (hl0 _)
        · rw [hbig.out x hx]
          exact Int.le_refl _
      go_wp2
      go_ret
      rw [hcv]
      exact ⟨rfl, hbw.out⟩
    · intro x c1 w7 cnt1 hwx hwc hlx hat hrg1 hlt hg1 hs1 hen
      have hnet : netV a b x = c1 := by
        have h3 := hat2.out.2 x hwx
        rw [hat] at h3
        simpa [i64D] using h3.symm
      have hbw1 := Aside0.mk (hbw.out.grown hg1 hbw.out.size (fun j hj => by cases hj; exact hlt5))
      by_cases hneg : c1 < 0
      · have hd : decide (c1 < 0) = true := decide_eq_true hneg
        have hcv : covT a b = false := by
          rw [← Bool.not_eq_true, covT_iff]
          intro h
          have := h x
          omega
        clear hnet
        go_wp2
        go_ret
        rw [hcv]
        exact ⟨rfl, hbw1.out⟩
      · have hd : decide (c1 < 0) = false := decide_eq_false hneg
        have hl2 : Aside0 (∀ y, (Lit.int .i64 y).wf = true → (fun z => left z && !z.sameKey (.int .i64 x)) (.int .i64 y) = false → 0 ≤ netV a b y) := ⟨fun y hy hly => by
          by_cases hyx : y = x
          · subst hyx; omega
          · rw [show (fun z => left z && !z.sameKey (.int .i64 x)) (.int .i64 y) = (left (.int .i64 y) && !(Lit.int .i64 y).sameKey (.int .i64 x)) from rfl, Maps.sameKey_ne (by intro e; injection e with _ e; exact hyx e)] at hly
            exact hl.out y hy (by simpa using hly)⟩
        have hmeas : w7.rangeLeft (w.heap.size + 1 + 1) w5.heap.size < wr.rangeLeft (w.heap.size + 1 + 1) w5.heap.size := by rw [hrg1.left_eq, hrg.left_eq]; exact hlt
        have hmz := Aside0.mk hmeas
        clear hnet hmeas
        go_wp2
        go_roundw
        case rel => exact ⟨(fun z => left z && !z.sameKey (.int .i64 x)), cnt1, by rw [Nat.zero_add]; exact hrg1, hl2, hbw1⟩
        case measure => exact hmz.out
def fitB (t : S30) : Bool := decide ((nodes t).length ≤ 1000000) && (nodes t).all fun x => decide (-1000000 ≤ x.f0) && decide (x.f0 ≤ 1000000)
theorem fitB_iff (t : S30) : fitB t = true ↔ (nodes t).length ≤ 1000000 ∧ SmallN t := by
  unfold fitB SmallN
  rw [Bool.and_eq_true, decide_eq_true_eq, List.all_eq_true]
  simp only [Bool.and_eq_true, decide_eq_true_eq]
def kbo_Covers.f (a0_0 : Int) (l0_1 : List S30) (a1_0 : Int) (l1_1 : List S30) : Option Bool := if (fitB ⟨a0_0, l0_1⟩ && fitB ⟨a1_0, l1_1⟩) = true then some (covT ⟨a0_0, l0_1⟩ ⟨a1_0, l1_1⟩) else none
theorem kbo_Covers.calls (a0_0 : Int) (A0_1 : Option Addr) (c0_1 : Nat) (l0_1 : List (S30)) (a1_0 : Int) (A1_1 : Option Addr) (c1_1 : Nat) (l1_1 : List (S30)) (r : Bool) (w : World) (hr0_1 : Kd.C k30 w A0_1 l0_1.length l0_1) (hc0_1 : l0_1.length ≤ c0_1) (hr1_1 : Kd.C k30 w A1_1 l1_1.length l1_1) (hc1_1 : l1_1.length ≤ c1_1) (h : kbo_Covers.f a0_0 l0_1 a1_0 l1_1 = some r) :
    Calls Try.prog 45 #[.agg #[.int .i64 a0_0, .slice A0_1 l0_1.length c0_1], .agg #[.int .i64 a1_0, .slice A1_1 l1_1.length c1_1]] w fun e w' => e = .returned (.bool r) ∧ Below w.heap.size w w' := by
  unfold kbo_Covers.f at h
  split at h
  · rename_i hf
    rw [Bool.and_eq_true, fitB_iff, fitB_iff] at hf
    obtain rfl := Option.some.inj h
    exact Covers_calls ⟨a0_0, l0_1⟩ ⟨a1_0, l1_1⟩ A0_1 c0_1 A1_1 c1_1 w hr0_1 hc0_1 hr1_1 hc1_1 hf.1.2 hf.2.2 hf.1.1 hf.2.1
  · cases h
end Go.Proofs.Ytpfddihcikiofaa.P
end

section
namespace Go.Proofs.Ytpfddihcikiofaa.P
open Go.RowKit Go.Proofs.YtpfddihcikiofaaW.PrintWords Go.Proofs.YtpfddihcikiofaaW.PrintLast Go.Proofs.YtpfddihcikiofaaW.PrintMore
attribute [local go_sem] max2_int min2_int max_two min_two max_three min_three max_four min_four
set_option linter.unusedVariables false
set_option linter.unusedSimpArgs false
mutual
def soritesref06_Same.l0 : Nat → Int → Int → List (S24) → Int → List (S24) → Option (Bool)
  | 0, _, _, _, _, _ => none
  | k + 1, x5, x178000, x178001, x179000, x179001 => if x5 < (x178001.length : Int) then (if 0 ≤ x5 then (if x5 < (x179001.length : Int) then ((soritesref06_Same.f k ((rd_T24 x178001 x5).f0) ((rd_T24 x178001 x5).f1) ((rd_T24 x179001 x5).f0) ((rd_T24 x179001 x5).f1)).bind fun t181 => (if t181 = true then (soritesref06_Same.l0 k (wrap64 (x5 + 1)) x178000 x178001 x179000 x179001) else (some false))) else (none)) else (none)) else (some true)
def soritesref06_Same.f : Nat → Int → List (S24) → Int → List (S24) → Option (Bool)
  | 0, _, _, _, _ => none
  | k + 1, a0_0, l0_1, a1_0, l1_1 => if a0_0 = a1_0 then (if a0_0 < 0 then (some true) else (if (l0_1.length : Int) = (l1_1.length : Int) then (soritesref06_Same.l0 k 0 a0_0 l0_1 a1_0 l1_1) else (some false))) else (some false)
end
def soritesref06_Same.T10 : Bool × List (List Nat × List Nat) := (true, [([], []), ([0], [0]), ([], []), ([1, 2], [1, 2]), ([3], [3]), ([], []), ([5], [5]), ([], []), ([6, 7], [6, 7]), ([8], [8]), ([4, 9], [4, 9]), ([10], [10])])
def soritesref06_Same.B10 : List Nat := [0, 1, 0, 7, 15, 0, 32, 0, 224, 480, 1023, 2047]
theorem soritesref06_Same.tab10 : rtab .any (opsOf Try.f28 10) = soritesref06_Same.T10 := by kernel_rfl
theorem soritesref06_Same.bits10 : waitsOk soritesref06_Same.T10.2 soritesref06_Same.B10 = true := by kernel_rfl
set_option maxHeartbeats 8000000 in
set_option maxRecDepth 100000 in
theorem soritesref06_Same.calls (k : Nat) : ∀ (a0_0 : Int) (A0_1 : Option Addr) (c0_1 : Nat) (l0_1 : List (S24)) (a1_0 : Int) (A1_1 : Option Addr) (c1_1 : Nat) (l1_1 : List (S24)) (r : Bool) (w : World) (hr0_1 : Kd.C k24 w A0_1 l0_1.length l0_1) (hc0_1 : l0_1.length ≤ c0_1) (hr1_1 : Kd.C k24 w A1_1 l1_1.length l1_1) (hc1_1 : l1_1.length ≤ c1_1) (h : soritesref06_Same.f k a0_0 l0_1 a1_0 l1_1 = some r),
    Calls Try.prog 28 #[.agg #[.int .i64 a0_0, .slice A0_1 l0_1.length c0_1], .agg #[.int .i64 a1_0, .slice A1_1 l1_1.length c1_1]] w fun e w' => e = .returned (.bool r) ∧ Below w.heap.size w w' := by
  induction k using Nat.strongRecOn with
  | _ k ih =>
  intro a0_0 A0_1 c0_1 l0_1 a1_0 A1_1 c1_1 l1_1 r w hr0_1 hc0_1 hr1_1 hc1_1 h
  cases k with
  | zero => exact absurd h (by simp [soritesref06_Same.f])
  | succ k =>
  simp only [soritesref06_Same.f] at h
  have hu24 := Try.underlying24
  have HR0_1 := Aside0.mk hr0_1
  have HC0_1 := Aside0.mk hc0_1
  clear hr0_1 hc0_1
  have HR1_1 := Aside0.mk hr1_1
  have HC1_1 := Aside0.mk hc1_1
  clear hr1_1 hc1_1
  have HB := Aside0.mk (Below.refl w.heap.size w)
  have H : (if a0_0 = a1_0 then (if a0_0 < 0 then (some true) else (if (l0_1.length : Int) = (l1_1.length : Int) then (soritesref06_Same.l0 k 0 a0_0 l0_1 a1_0 l1_1) else (some false))) else (some false)) = some r := h
  clear h
  by_cases c3 : a0_0 = a1_0
  · rw [if_pos c3] at H
    have c3b0 : (a0_0 == a1_0) = true := beq_iff_eq.mpr c3
    have c3b1 : (a0_0 != a1_0) = false := bne_eq_false_iff_eq.mpr c3
    clear c3
    by_cases c4 : a0_0 < 0
    · rw [if_pos c4] at H
      have c4b0 : decide (a0_0 < 0) = true := decide_eq_true c4
      clear c4
      obtain rfl := Option.some.inj H
      go_enter Try.func28, Try.ntmps28
      go_wp2_with (first | ((with_reducible refine gate_dst (N := 2) rfl ?_); refine box_event ?hg (N := 2) ?hd (cs := #[.int .i64 a0_0, .slice A0_1 l0_1.length c0_1]) (t := 24) ?hr ?_; (case hd => rfl); (case hg => rfl); (case hr => first | (go_simp; done) | (go_simp; rfl)); intro gb177 hg w5 hbox hb; have n0_ := Aside0.mk (below_step (by repeat (first | (with_reducible first | exact HB.out | apply below_alloc | apply pw_below_drewN | apply below_drew1) | exact HB.out)) hb); have n1_ := Aside0.mk (hbox); have n2_ := Aside0.mk ((by rw [hg]; exact (below_size (by repeat (first | (with_reducible first | exact HB.out | apply below_alloc | apply pw_below_drewN | apply below_drew1) | exact HB.out))) : w.heap.size ≤ gb177)); have n3_ := Aside0.mk ((by rw [hg]; exact (below_size (by repeat (first | (with_reducible first | exact HB.out | apply below_alloc | apply pw_below_drewN | apply below_drew1) | exact HB.out))) : w.heap.size ≤ gb177)); clear HB; have HB := n0_; have BK177 := n1_; have GW177 := n2_; have GE177 := n3_; clear n0_ n1_ n2_ n3_; clear hb hbox hg) | ((with_reducible refine gate_dst (N := 3) rfl ?_); refine box_event ?hg (N := 3) ?hd (cs := #[.int .i64 a1_0, .slice A1_1 l1_1.length c1_1]) (t := 24) ?hr ?_; (case hd => rfl); (case hg => rfl); (case hr => first | (go_simp; done) | (go_simp; rfl)); intro gb178 hg w6 hbox hb; have n0_ := Aside0.mk (blk_below (g := gb177) (o := .cells #[.int .i64 a0_0, .slice A0_1 l0_1.length c0_1] 24 (0, 0)) (by (with_reducible repeat (first | refine blk_drewN ?_ _ | refine blk_drew ?_ | refine blk_alloc ?_ _)); exact BK177.out) hb); have n1_ := Aside0.mk (below_step (by repeat (first | (with_reducible first | exact HB.out | apply below_alloc | apply pw_below_drewN | apply below_drew1 | refine below_set ?_ GE177.out) | exact HB.out)) hb); have n2_ := Aside0.mk (hbox); have n3_ := Aside0.mk ((by rw [hg]; exact (below_size (by repeat (first | (with_reducible first | exact HB.out | apply below_alloc | apply pw_below_drewN | apply below_drew1 | refine below_set ?_ GE177.out) | exact HB.out))) : w.heap.size ≤ gb178)); have n4_ := Aside0.mk ((by rw [hg]; exact (below_size (by repeat (first | (with_reducible first | exact HB.out | apply below_alloc | apply pw_below_drewN | apply below_drew1 | refine below_set ?_ GE177.out) | exact HB.out))) : w.heap.size ≤ gb178)); have n5_ := Aside0.mk ((by rw [hg]; exact Nat.ne_of_lt (blk_lt (g := gb177) (o := .cells #[.int .i64 a0_0, .slice A0_1 l0_1.length c0_1] 24 (0, 0)) (by (with_reducible repeat (first | refine blk_drewN ?_ _ | refine blk_drew ?_ | refine blk_alloc ?_ _)); exact BK177.out)) : gb177 ≠ gb178)); have n6_ := Aside0.mk ((by rw [hg]; exact Nat.ne_of_gt (blk_lt (g := gb177) (o := .cells #[.int .i64 a0_0, .slice A0_1 l0_1.length c0_1] 24 (0, 0)) (by (with_reducible repeat (first | refine blk_drewN ?_ _ | refine blk_drew ?_ | refine blk_alloc ?_ _)); exact BK177.out)) : gb178 ≠ gb177)); clear BK177; clear HB; have BK177 := n0_; have HB := n1_; have BK178 := n2_; have GW178 := n3_; have GE178 := n4_; have NB177_178 := n5_; have NB178_177 := n6_; clear n0_ n1_ n2_ n3_ n4_ n5_ n6_; clear hb hbox hg; have hnb7 := NB177_178.out; have hnc7 := NB178_177.out; have hcz8_0 : w6.cell? ⟨gb177, 0, none⟩ = some (.int .i64 a0_0) := (blk_cell BK177.out 0).trans rfl; have hcz8_1 : w6.cell? ⟨gb177, 1, none⟩ = some (.slice A0_1 l0_1.length c0_1) := (blk_cell BK177.out 1).trans rfl; have hfz8_0 := blk_frozen BK177.out 0; have hfz8_1 := blk_frozen BK177.out 1; have hcz9_0 : w6.cell? ⟨gb178, 0, none⟩ = some (.int .i64 a1_0) := (blk_cell BK178.out 0).trans rfl; have hcz9_1 : w6.cell? ⟨gb178, 1, none⟩ = some (.slice A1_1 l1_1.length c1_1) := (blk_cell BK178.out 1).trans rfl; have hfz9_0 := blk_frozen BK178.out 0; have hfz9_1 := blk_frozen BK178.out 1))
      go_ret
      exact ⟨by first | rfl | (simp [errW_none, errW_some] <;> rfl) | (simp [*, errW_none, errW_some] <;> rfl), by repeat (first | (with_reducible first | exact HB.out | apply below_alloc | apply pw_below_drewN | apply below_drew1 | refine below_set ?_ GE177.out | refine below_set ?_ GE178.out) | exact HB.out)⟩
    · rw [if_neg c4] at H
      have c4b0 : decide (a0_0 < 0) = false := decide_eq_false c4
      clear c4
      by_cases c10 : (l0_1.length : Int) = (l1_1.length : Int)
      · rw [if_pos c10] at H
        have c10b0 : ((l0_1.length : Int) == (l1_1.length : Int)) = true := beq_iff_eq.mpr c10
        have c10b1 : ((l0_1.length : Int) != (l1_1.length : Int)) = false := bne_eq_false_iff_eq.mpr c10
        have c10b2 : (l0_1.length == l1_1.length) = true := by first | simpa using c10 | (simp at c10 ⊢; omega)
        clear c10
        have H' := Aside0.mk H
        clear H
        go_enter Try.func28, Try.ntmps28
        go_wp2_with (first | ((with_reducible refine gate_dst (N := 2) rfl ?_); refine box_event ?hg (N := 2) ?hd (cs := #[.int .i64 a0_0, .slice A0_1 l0_1.length c0_1]) (t := 24) ?hr ?_; (case hd => rfl); (case hg => rfl); (case hr => first | (go_simp; done) | (go_simp; rfl)); intro gb177 hg w11 hbox hb; have n0_ := Aside0.mk (below_step (by repeat (first | (with_reducible first | exact HB.out | apply below_alloc | apply pw_below_drewN | apply below_drew1) | exact HB.out)) hb); have n1_ := Aside0.mk (hbox); have n2_ := Aside0.mk ((by rw [hg]; exact (below_size (by repeat (first | (with_reducible first | exact HB.out | apply below_alloc | apply pw_below_drewN | apply below_drew1) | exact HB.out))) : w.heap.size ≤ gb177)); have n3_ := Aside0.mk ((by rw [hg]; exact (below_size (by repeat (first | (with_reducible first | exact HB.out | apply below_alloc | apply pw_below_drewN | apply below_drew1) | exact HB.out))) : w.heap.size ≤ gb177)); clear HB; have HB := n0_; have BK177 := n1_; have GW177 := n2_; have GE177 := n3_; clear n0_ n1_ n2_ n3_; clear hb hbox hg) | ((with_reducible refine gate_dst (N := 3) rfl ?_); refine box_event ?hg (N := 3) ?hd (cs := #[.int .i64 a1_0, .slice A1_1 l1_1.length c1_1]) (t := 24) ?hr ?_; (case hd => rfl); (case hg => rfl); (case hr => first | (go_simp; done) | (go_simp; rfl)); intro gb178 hg w12 hbox hb; have n0_ := Aside0.mk (blk_below (g := gb177) (o := .cells #[.int .i64 a0_0, .slice A0_1 l0_1.length c0_1] 24 (0, 0)) (by (with_reducible repeat (first | refine blk_drewN ?_ _ | refine blk_drew ?_ | refine blk_alloc ?_ _)); exact BK177.out) hb); have n1_ := Aside0.mk (below_step (by repeat (first | (with_reducible first | exact HB.out | apply below_alloc | apply pw_below_drewN | apply below_drew1 | refine below_set ?_ GE177.out) | exact HB.out)) hb); have n2_ := Aside0.mk (hbox); have n3_ := Aside0.mk ((by rw [hg]; exact (below_size (by repeat (first | (with_reducible first | exact HB.out | apply below_alloc | apply pw_below_drewN | apply below_drew1 | refine below_set ?_ GE177.out) | exact HB.out))) : w.heap.size ≤ gb178)); have n4_ := Aside0.mk ((by rw [hg]; exact (below_size (by repeat (first | (with_reducible first | exact HB.out | apply below_alloc | apply pw_below_drewN | apply below_drew1 | refine below_set ?_ GE177.out) | exact HB.out))) : w.heap.size ≤ gb178)); have n5_ := Aside0.mk ((by rw [hg]; exact Nat.ne_of_lt (blk_lt (g := gb177) (o := .cells #[.int .i64 a0_0, .slice A0_1 l0_1.length c0_1] 24 (0, 0)) (by (with_reducible repeat (first | refine blk_drewN ?_ _ | refine blk_drew ?_ | refine blk_alloc ?_ _)); exact BK177.out)) : gb177 ≠ gb178)); have n6_ := Aside0.mk ((by rw [hg]; exact Nat.ne_of_gt (blk_lt (g := gb177) (o := .cells #[.int .i64 a0_0, .slice A0_1 l0_1.length c0_1] 24 (0, 0)) (by (with_reducible repeat (first | refine blk_drewN ?_ _ | refine blk_drew ?_ | refine blk_alloc ?_ _)); exact BK177.out)) : gb178 ≠ gb177)); clear BK177; clear HB; have BK177 := n0_; have HB := n1_; have BK178 := n2_; have GW178 := n3_; have GE178 := n4_; have NB177_178 := n5_; have NB178_177 := n6_; clear n0_ n1_ n2_ n3_ n4_ n5_ n6_; clear hb hbox hg; have hnb13 := NB177_178.out; have hnc13 := NB178_177.out; have hcz14_0 : w12.cell? ⟨gb177, 0, none⟩ = some (.int .i64 a0_0) := (blk_cell BK177.out 0).trans rfl; have hcz14_1 : w12.cell? ⟨gb177, 1, none⟩ = some (.slice A0_1 l0_1.length c0_1) := (blk_cell BK177.out 1).trans rfl; have hfz14_0 := blk_frozen BK177.out 0; have hfz14_1 := blk_frozen BK177.out 1; have hcz15_0 : w12.cell? ⟨gb178, 0, none⟩ = some (.int .i64 a1_0) := (blk_cell BK178.out 0).trans rfl; have hcz15_1 : w12.cell? ⟨gb178, 1, none⟩ = some (.slice A1_1 l1_1.length c1_1) := (blk_cell BK178.out 1).trans rfl; have hfz15_0 := blk_frozen BK178.out 0; have hfz15_1 := blk_frozen BK178.out 1))
        go_loopg [5] k (fun kq v5 w' => ∃ (x5_1 : Int), v5 = .int .i64 x5_1 ∧ Aside0 (soritesref06_Same.l0 kq x5_1 a0_0 l0_1 a1_0 l1_1 = some r) ∧ Aside0 (kq ≤ k) ∧ Aside0 (w'.heap[gb177]? = some (.cells #[.int .i64 a0_0, (.slice A0_1 l0_1.length c0_1)] 24 (0, 0))) ∧ Aside0 (w'.heap[gb178]? = some (.cells #[.int .i64 a1_0, (.slice A1_1 l1_1.length c1_1)] 24 (0, 0))) ∧ Aside0 (Below w.heap.size w w'))
        case atStart => exact ⟨(0), (by first | rfl | (simp; done) | (simp [*]; done)), H', ⟨Nat.le_refl _⟩, ⟨by (with_reducible repeat (first | refine blk_drewN ?_ _ | refine blk_drew ?_ | refine blk_alloc ?_ _)); exact BK177.out⟩, ⟨by (with_reducible repeat (first | refine blk_drewN ?_ _ | refine blk_drew ?_ | refine blk_alloc ?_ _)); exact BK178.out⟩, ⟨by repeat (first | (with_reducible first | exact HB.out | apply below_alloc | apply pw_below_drewN | apply below_drew1 | refine below_set ?_ GE177.out | refine below_set ?_ GE178.out) | exact HB.out)⟩⟩
        case round =>
          clear H'
          try clear c1
          try clear c2
          try clear p2
          try clear c3
          try clear c3b0
          try clear c3b1
          try clear c4
          try clear c4b0
          try clear c7
          try clear c10
          try clear c10b0
          try clear c10b1
          try clear c10b2
          try clear c13
          try clear hcz14_0
          try clear hcz14_1
          try clear hcz15_0
          try clear hcz15_1
          try clear hcz8_0
          try clear hcz8_1
          try clear hcz9_0
          try clear hcz9_1
          try clear hfz14_0
          try clear hfz14_1
          try clear hfz15_0
          try clear hfz15_1
          try clear hfz8_0
          try clear hfz8_1
          try clear hfz9_0
          try clear hfz9_1
          obtain ⟨x5_1, rfl, HA, HK1, BK177, BK178, HB⟩ := hrel
          cases gk with
          | zero => exact absurd HA.out (by simp [soritesref06_Same.l0])
          | succ k1 =>
            have H := HA.out
            clear HA
            simp only [soritesref06_Same.l0] at H
            by_cases c16 : x5_1 < (l0_1.length : Int)
            · rw [if_pos c16] at H
              have c16b0 : decide (x5_1 < (l0_1.length : Int)) = true := decide_eq_true c16
              clear c16
              by_cases c17 : 0 ≤ x5_1
              · rw [if_pos c17] at H
                have c17b0 : decide (0 ≤ x5_1) = true := decide_eq_true c17
                clear c17
                by_cases c18 : x5_1 < (l1_1.length : Int)
                · rw [if_pos c18] at H
                  have c18b0 : decide (x5_1 < (l1_1.length : Int)) = true := decide_eq_true c18
                  clear c18
                  replace H := Option.bind_eq_some_iff.mp H
                  obtain ⟨t181, A190, H⟩ := H
                  replace H : (if t181 = true then (soritesref06_Same.l0 k1 (wrap64 (x5_1 + 1)) a0_0 l0_1 a1_0 l1_1) else (some false)) = some r := H
                  have A19 := Aside0.mk A190
                  clear A190
                  by_cases c20 : t181 = true
                  · subst c20
                    have H1 : (soritesref06_Same.l0 k1 (wrap64 (x5_1 + 1)) a0_0 l0_1 a1_0 l1_1) = some r := by rw [if_pos rfl] at H; exact H
                    clear H
                    have H := H1
                    clear H1
                    have H' := Aside0.mk H
                    clear H
                    have hnb21 := NB177_178.out
                    have hnc21 := NB178_177.out
                    have hcz22_0 : wr.cell? ⟨gb177, 0, none⟩ = some (.int .i64 a0_0) := (blk_cell BK177.out 0).trans rfl
                    have hcz22_1 : wr.cell? ⟨gb177, 1, none⟩ = some (.slice A0_1 l0_1.length c0_1) := (blk_cell BK177.out 1).trans rfl
                    have hfz22_0 := blk_frozen BK177.out 0
                    have hfz22_1 := blk_frozen BK177.out 1
                    try go_wp2
                    have n0_ := Aside0.mk (blk_drew BK177.out)
                    have n1_ := Aside0.mk (blk_drew BK178.out)
                    have n2_ := Aside0.mk (below_drew1 HB.out)
                    clear BK177
                    clear BK178
                    clear HB
                    have BK177 := n0_
                    have BK178 := n1_
                    have HB := n2_
                    clear n0_ n1_ n2_
                    have p179 : 0 ≤ (x5_1 : Int) := of_decide_eq_true (by first | (with_reducible assumption) | assumption)
                    have q179 : x5_1 < (l0_1.length : Int) := of_decide_eq_true (by first | (with_reducible assumption) | assumption)
                    obtain ⟨ad179, A179_1, c179_1, e179, hx179_0, hx179_1, hl179_1, hi179_1⟩ := at_T24 HR0_1.out x5_1 p179 q179
                    have hw179_1 := hx179_1
                    have hw179_0 := hx179_0
                    cases e179
                    replace hx179_0 := (HB.out.cell (World.block_lt_of_cell? w _ hx179_0)).trans hx179_0
                    replace hx179_1 := (HB.out.cell (World.block_lt_of_cell? w _ hx179_1)).trans hx179_1
                    have HR179_1 := Aside0.mk hi179_1
                    have HC179_1 := Aside0.mk hl179_1
                    clear hi179_1 hl179_1
                    replace p179 := eq_true p179
                    replace q179 := eq_true q179
                    have p180 : 0 ≤ (x5_1 : Int) := of_decide_eq_true (by first | (with_reducible assumption) | assumption)
                    have q180 : x5_1 < (l1_1.length : Int) := of_decide_eq_true (by first | (with_reducible assumption) | assumption)
                    obtain ⟨ad180, A180_1, c180_1, e180, hx180_0, hx180_1, hl180_1, hi180_1⟩ := at_T24 HR1_1.out x5_1 p180 q180
                    have hw180_1 := hx180_1
                    have hw180_0 := hx180_0
                    cases e180
                    replace hx180_0 := (HB.out.cell (World.block_lt_of_cell? w _ hx180_0)).trans hx180_0
                    replace hx180_1 := (HB.out.cell (World.block_lt_of_cell? w _ hx180_1)).trans hx180_1
                    have HR180_1 := Aside0.mk hi180_1
                    have HC180_1 := Aside0.mk hl180_1
                    clear hi180_1 hl180_1
                    replace p180 := eq_true p180
                    replace q180 := eq_true q180
                    refine start_ (n := 12) (S := fun w' => w'.cell? ⟨gb177, 0, none⟩ = some (.int .i64 a0_0) ∧ w'.cell? ⟨gb177, 1, none⟩ = some (.slice (some ad179) l0_1.length c0_1) ∧ w'.cell? ⟨gb178, 0, none⟩ = some (.int .i64 a1_0) ∧ w'.cell? ⟨gb178, 1, none⟩ = some (.slice (some ad180) l1_1.length c1_1) ∧ w'.cell? (ad179.add ((x5_1).toNat * 2)) = some (.int .i64 ((rd_T24 l0_1 x5_1).f0)) ∧ w'.cell? ⟨(ad179.add ((x5_1).toNat * 2)).block, (ad179.add ((x5_1).toNat * 2)).off + 1, none⟩ = some (.slice A179_1 ((rd_T24 l0_1 x5_1).f1).length c179_1) ∧ w'.cell? (ad180.add ((x5_1).toNat * 2)) = some (.int .i64 ((rd_T24 l1_1 x5_1).f0)) ∧ w'.cell? ⟨(ad180.add ((x5_1).toNat * 2)).block, (ad180.add ((x5_1).toNat * 2)).off + 1, none⟩ = some (.slice A180_1 ((rd_T24 l1_1 x5_1).f1).length c180_1)) (ds := []) #[false, false, false, false, false, false, false, false, false, false, false, false] (by kernel_rfl) rfl rfl ⟨(blk_cell BK177.out 0).trans rfl, (blk_cell BK177.out 1).trans rfl, (blk_cell BK178.out 0).trans rfl, (blk_cell BK178.out 1).trans rfl, ((HB.out.cell (World.block_lt_of_cell? w _ hw179_0)).trans hw179_0), ((HB.out.cell (World.block_lt_of_cell? w _ hw179_1)).trans hw179_1), ((HB.out.cell (World.block_lt_of_cell? w _ hw180_0)).trans hw180_0), ((HB.out.cell (World.block_lt_of_cell? w _ hw180_1)).trans hw180_1)⟩ (fun hHeld => ?_); refine with_tabW soritesref06_Same.tab10 soritesref06_Same.bits10 (fun HT_ HW_ => ?_)
                    generalize wr.drew = w23 at BK177 BK178 HB HR179_1 HR180_1 hx179_0 hx179_1 hx180_0 hx180_1 hHeld ⊢
                    refine pure_ (i := 0) (N := some 28) (v := ?_) (a' := ?_) #[true, false, false, false, false, false, false, false, false, false, false, false] rfl rfl (any_of HT_.out (by kernel_rfl)) (fun _ _ _ h => h) (Or.inl ⟨by rfl, ?_⟩) ?_ ?_
                    rotate_left
                    · intro w'
                      go_simp
                      with_reducible rfl
                    rotate_left
                    · simp only [Act.put, List.setIfInBounds_toArray, List.set_cons_zero, List.set_cons_succ, i64_w, i32_w]
                      rfl
                    refine pure_ (i := 2) (N := some 30) (v := ?_) (a' := ?_) #[true, false, true, false, false, false, false, false, false, false, false, false] rfl rfl (any_of HT_.out (by kernel_rfl)) (fun _ _ _ h => h) (Or.inl ⟨by rfl, ?_⟩) ?_ ?_
                    rotate_left
                    · intro w'
                      go_simp
                      with_reducible rfl
                    rotate_left
                    · simp only [Act.put, List.setIfInBounds_toArray, List.set_cons_zero, List.set_cons_succ, i64_w, i32_w]
                      rfl
                    refine pure_ (i := 5) (N := some 33) (v := ?_) (a' := ?_) #[true, false, true, false, false, true, false, false, false, false, false, false] rfl rfl (any_of HT_.out (by kernel_rfl)) (fun _ _ _ h => h) (Or.inl ⟨by rfl, ?_⟩) ?_ ?_
                    rotate_left
                    · intro w'
                      go_simp
                      with_reducible rfl
                    rotate_left
                    · simp only [Act.put, List.setIfInBounds_toArray, List.set_cons_zero, List.set_cons_succ, i64_w, i32_w]
                      rfl
                    refine pure_ (i := 7) (N := some 35) (v := ?_) (a' := ?_) #[true, false, true, false, false, true, false, true, false, false, false, false] rfl rfl (any_of HT_.out (by kernel_rfl)) (fun _ _ _ h => h) (Or.inl ⟨by rfl, ?_⟩) ?_ ?_
                    rotate_left
                    · intro w'
                      go_simp
                      with_reducible rfl
                    rotate_left
                    · simp only [Act.put, List.setIfInBounds_toArray, List.set_cons_zero, List.set_cons_succ, i64_w, i32_w]
                      rfl
                    refine take_ (i := 1) (N := some 29) (v := ?_) (a' := ?_) #[true, true, true, false, false, true, false, true, false, false, false, false] rfl rfl (take_ofW HT_.out HW_.out (by kernel_rfl)) (fun _ _ _ h => h) (Or.inl ⟨by rfl, ?_⟩) hHeld ?_ ?_
                    rotate_left
                    · rintro w' ⟨s0, s1, s2, s3, s4, s5, s6, s7⟩
                      go_simp
                      with_reducible rfl
                    rotate_left
                    · simp only [Act.put, List.setIfInBounds_toArray, List.set_cons_zero, List.set_cons_succ, i64_w, i32_w]
                      rfl
                    refine pure_ (i := 3) (N := some 31) (v := ?_) (a' := ?_) #[true, true, true, true, false, true, false, true, false, false, false, false] rfl rfl (any_of HT_.out (by kernel_rfl)) (fun _ _ _ h => h) (Or.inl ⟨by rfl, ?_⟩) ?_ ?_
                    rotate_left
                    · intro w'
                      go_simp
                      with_reducible rfl
                    rotate_left
                    · simp only [Act.put, List.setIfInBounds_toArray, List.set_cons_zero, List.set_cons_succ, i64_w, i32_w]
                      rfl
                    refine take_ (i := 4) (N := some 32) (v := ?_) (a' := ?_) #[true, true, true, true, true, true, false, true, false, false, false, false] rfl rfl (take_ofW HT_.out HW_.out (by kernel_rfl)) (fun _ _ _ h => h) (Or.inl ⟨by rfl, ?_⟩) hHeld ?_ ?_
                    rotate_left
                    · rintro w' ⟨s0, s1, s2, s3, s4, s5, s6, s7⟩
                      go_simp
                      with_reducible rfl
                    rotate_left
                    · simp only [Act.put, List.setIfInBounds_toArray, List.set_cons_zero, List.set_cons_succ, i64_w, i32_w]
                      rfl
                    refine take_ (i := 6) (N := some 34) (v := ?_) (a' := ?_) #[true, true, true, true, true, true, true, true, false, false, false, false] rfl rfl (take_ofW HT_.out HW_.out (by kernel_rfl)) (fun _ _ _ h => h) (Or.inl ⟨by rfl, ?_⟩) hHeld ?_ ?_
                    rotate_left
                    · rintro w' ⟨s0, s1, s2, s3, s4, s5, s6, s7⟩
                      go_simp
                      with_reducible rfl
                    rotate_left
                    · simp only [Act.put, List.setIfInBounds_toArray, List.set_cons_zero, List.set_cons_succ, i64_w, i32_w]
                      rfl
                    refine pure_ (i := 8) (N := some 36) (v := ?_) (a' := ?_) #[true, true, true, true, true, true, true, true, true, false, false, false] rfl rfl (any_of HT_.out (by kernel_rfl)) (fun _ _ _ h => h) (Or.inl ⟨by rfl, ?_⟩) ?_ ?_
                    rotate_left
                    · intro w'
                      go_simp
                      with_reducible rfl
                    rotate_left
                    · simp only [Act.put, List.setIfInBounds_toArray, List.set_cons_zero, List.set_cons_succ, i64_w, i32_w]
                      rfl
                    refine take_ (i := 9) (N := some 37) (v := ?_) (a' := ?_) #[true, true, true, true, true, true, true, true, true, true, false, false] rfl rfl (take_ofW HT_.out HW_.out (by kernel_rfl)) (fun _ _ _ h => h) (Or.inl ⟨by rfl, ?_⟩) hHeld ?_ ?_
                    rotate_left
                    · rintro w' ⟨s0, s1, s2, s3, s4, s5, s6, s7⟩
                      go_simp
                      with_reducible rfl
                    rotate_left
                    · simp only [Act.put, List.setIfInBounds_toArray, List.set_cons_zero, List.set_cons_succ, i64_w, i32_w]
                      rfl
                    refine one_ (i := 10) (N := some 38) #[true, true, true, true, true, true, true, true, true, true, true, false] rfl rfl (one_of HT_.out (by kernel_rfl)) (by decide) (fun K hK => ?_)
                    refine goes_ Try.func28 (by kernel_rfl) rfl #[.agg #[.int .i64 ((rd_T24 l0_1 x5_1).f0), .slice A179_1 ((rd_T24 l0_1 x5_1).f1).length c179_1], .agg #[.int .i64 ((rd_T24 l1_1 x5_1).f0), .slice A180_1 ((rd_T24 l1_1 x5_1).f1).length c180_1]] (by rfl) rfl rfl (by (try simp only [List.map_toArray, List.map_cons, List.map_nil]); first | done | rfl | (simp only [List.length_drop, List.length_take]; rfl)) ?_
                    with_reducible refine (ih k1 (by have := HK1.out; omega) ((rd_T24 l0_1 x5_1).f0) _ _ ((rd_T24 l0_1 x5_1).f1) ((rd_T24 l1_1 x5_1).f0) _ _ ((rd_T24 l1_1 x5_1).f1) true _ ?side1 ?side2 ?side3 ?side4 A19.out).mono ?_
                    (case side1 => repeat (first | exact (Kd.C_below HR179_1.out HB.out) | (with_reducible refine Kd.C_alloc ?_ _) | (with_reducible refine Kd.C_drewN ?_ _) | (with_reducible refine Kd.C_drew ?_)))
                    (case side2 => exact HC179_1.out)
                    (case side3 => repeat (first | exact (Kd.C_below HR180_1.out HB.out) | (with_reducible refine Kd.C_alloc ?_ _) | (with_reducible refine Kd.C_drewN ?_ _) | (with_reducible refine Kd.C_drew ?_)))
                    (case side4 => exact HC180_1.out)
                    rintro e w24 ⟨rfl, hb⟩
                    refine ⟨_, rfl, ?_⟩
                    have n0_ := Aside0.mk (blk_below (g := gb177) (o := .cells #[.int .i64 a0_0, .slice (some ad179) l0_1.length c0_1] 24 (0, 0)) (by (with_reducible repeat (first | refine blk_drewN ?_ _ | refine blk_drew ?_ | refine blk_alloc ?_ _)); exact BK177.out) hb)
                    have n1_ := Aside0.mk (blk_below (g := gb178) (o := .cells #[.int .i64 a1_0, .slice (some ad180) l1_1.length c1_1] 24 (0, 0)) (by (with_reducible repeat (first | refine blk_drewN ?_ _ | refine blk_drew ?_ | refine blk_alloc ?_ _)); exact BK178.out) hb)
                    have n2_ := Aside0.mk (below_step (by repeat (first | (with_reducible first | exact HB.out | apply below_alloc | apply pw_below_drewN | apply below_drew1 | refine below_set ?_ GE177.out | refine below_set ?_ GE178.out) | exact HB.out)) hb)
                    clear BK177
                    clear BK178
                    clear HB
                    have BK177 := n0_
                    have BK178 := n1_
                    have HB := n2_
                    clear n0_ n1_ n2_
                    (try clear hb)
                    (try clear hb2)
                    (try clear hk)
                    (try clear hi)
                    refine hK.out _ _ ⟨(blk_cell BK177.out 0).trans rfl, (blk_cell BK177.out 1).trans rfl, (blk_cell BK178.out 0).trans rfl, (blk_cell BK178.out 1).trans rfl, ((HB.out.cell (World.block_lt_of_cell? w _ hw179_0)).trans hw179_0), ((HB.out.cell (World.block_lt_of_cell? w _ hw179_1)).trans hw179_1), ((HB.out.cell (World.block_lt_of_cell? w _ hw180_0)).trans hw180_0), ((HB.out.cell (World.block_lt_of_cell? w _ hw180_1)).trans hw180_1)⟩ (fun hHeld => ?_)
                    clear hK K
                    refine norm_ (a' := ?_) ?_ ?_
                    rotate_left
                    · show Act.put _ (some 38) _ = _
                      simp only [Act.put, List.setIfInBounds_toArray, List.set_cons_zero, List.set_cons_succ, i64_w, i32_w]
                      rfl
                    refine pure_ (i := 11) (N := some 39) (v := ?_) (a' := ?_) #[true, true, true, true, true, true, true, true, true, true, true, true] rfl rfl (any_of HT_.out (by kernel_rfl)) (fun _ _ _ h => h) (Or.inl ⟨by rfl, ?_⟩) ?_ ?_
                    rotate_left
                    · intro w'
                      go_simp
                      with_reducible rfl
                    rotate_left
                    · simp only [Act.put, List.setIfInBounds_toArray, List.set_cons_zero, List.set_cons_succ, i64_w, i32_w]
                      rfl
                    refine done_ (done_of HT_.out (by kernel_rfl)) ?_
                    try go_wp2
                    go_roundg k1
                    case measure => have := HK1.out; omega
                    case rel => exact ⟨(wrap64 (x5_1 + 1)), (by first | rfl | (simp; done) | (simp [*]; done)), H', ⟨by have := HK1.out; omega⟩, ⟨by (with_reducible repeat (first | refine blk_drewN ?_ _ | refine blk_drew ?_ | refine blk_alloc ?_ _)); exact BK177.out⟩, ⟨by (with_reducible repeat (first | refine blk_drewN ?_ _ | refine blk_drew ?_ | refine blk_alloc ?_ _)); exact BK178.out⟩, ⟨by repeat (first | (with_reducible first | exact HB.out | apply below_alloc | apply pw_below_drewN | apply below_drew1 | refine below_set ?_ GE177.out | refine below_set ?_ GE178.out) | exact HB.out)⟩⟩
                  · replace c20 := Bool.eq_false_iff.mpr c20
                    subst c20
                    have H1 : (some false) = some r := by rw [if_neg (show ¬ (false = true) by decide)] at H; exact H
                    clear H
                    have H := H1
                    clear H1
                    obtain rfl := Option.some.inj H
                    have hnb25 := NB177_178.out
                    have hnc25 := NB178_177.out
                    have hcz26_0 : wr.cell? ⟨gb177, 0, none⟩ = some (.int .i64 a0_0) := (blk_cell BK177.out 0).trans rfl
                    have hcz26_1 : wr.cell? ⟨gb177, 1, none⟩ = some (.slice A0_1 l0_1.length c0_1) := (blk_cell BK177.out 1).trans rfl
                    have hfz26_0 := blk_frozen BK177.out 0
                    have hfz26_1 := blk_frozen BK177.out 1
                    try go_wp2
                    have n0_ := Aside0.mk (blk_drew BK177.out)
                    have n1_ := Aside0.mk (blk_drew BK178.out)
                    have n2_ := Aside0.mk (below_drew1 HB.out)
                    clear BK177
                    clear BK178
                    clear HB
                    have BK177 := n0_
                    have BK178 := n1_
                    have HB := n2_
                    clear n0_ n1_ n2_
                    have p179 : 0 ≤ (x5_1 : Int) := of_decide_eq_true (by first | (with_reducible assumption) | assumption)
                    have q179 : x5_1 < (l0_1.length : Int) := of_decide_eq_true (by first | (with_reducible assumption) | assumption)
                    obtain ⟨ad179, A179_1, c179_1, e179, hx179_0, hx179_1, hl179_1, hi179_1⟩ := at_T24 HR0_1.out x5_1 p179 q179
                    have hw179_1 := hx179_1
                    have hw179_0 := hx179_0
                    cases e179
                    replace hx179_0 := (HB.out.cell (World.block_lt_of_cell? w _ hx179_0)).trans hx179_0
                    replace hx179_1 := (HB.out.cell (World.block_lt_of_cell? w _ hx179_1)).trans hx179_1
                    have HR179_1 := Aside0.mk hi179_1
                    have HC179_1 := Aside0.mk hl179_1
                    clear hi179_1 hl179_1
                    replace p179 := eq_true p179
                    replace q179 := eq_true q179
                    have p180 : 0 ≤ (x5_1 : Int) := of_decide_eq_true (by first | (with_reducible assumption) | assumption)
                    have q180 : x5_1 < (l1_1.length : Int) := of_decide_eq_true (by first | (with_reducible assumption) | assumption)
                    obtain ⟨ad180, A180_1, c180_1, e180, hx180_0, hx180_1, hl180_1, hi180_1⟩ := at_T24 HR1_1.out x5_1 p180 q180
                    have hw180_1 := hx180_1
                    have hw180_0 := hx180_0
                    cases e180
                    replace hx180_0 := (HB.out.cell (World.block_lt_of_cell? w _ hx180_0)).trans hx180_0
                    replace hx180_1 := (HB.out.cell (World.block_lt_of_cell? w _ hx180_1)).trans hx180_1
                    have HR180_1 := Aside0.mk hi180_1
                    have HC180_1 := Aside0.mk hl180_1
                    clear hi180_1 hl180_1
                    replace p180 := eq_true p180
                    replace q180 := eq_true q180
                    refine start_ (n := 12) (S := fun w' => w'.cell? ⟨gb177, 0, none⟩ = some (.int .i64 a0_0) ∧ w'.cell? ⟨gb177, 1, none⟩ = some (.slice (some ad179) l0_1.length c0_1) ∧ w'.cell? ⟨gb178, 0, none⟩ = some (.int .i64 a1_0) ∧ w'.cell? ⟨gb178, 1, none⟩ = some (.slice (some ad180) l1_1.length c1_1) ∧ w'.cell? (ad179.add ((x5_1).toNat * 2)) = some (.int .i64 ((rd_T24 l0_1 x5_1).f0)) ∧ w'.cell? ⟨(ad179.add ((x5_1).toNat * 2)).block, (ad179.add ((x5_1).toNat * 2)).off + 1, none⟩ = some (.slice A179_1 ((rd_T24 l0_1 x5_1).f1).length c179_1) ∧ w'.cell? (ad180.add ((x5_1).toNat * 2)) = some (.int .i64 ((rd_T24 l1_1 x5_1).f0)) ∧ w'.cell? ⟨(ad180.add ((x5_1).toNat * 2)).block, (ad180.add ((x5_1).toNat * 2)).off + 1, none⟩ = some (.slice A180_1 ((rd_T24 l1_1 x5_1).f1).length c180_1)) (ds := []) #[false, false, false, false, false, false, false, false, false, false, false, false] (by kernel_rfl) rfl rfl ⟨(blk_cell BK177.out 0).trans rfl, (blk_cell BK177.out 1).trans rfl, (blk_cell BK178.out 0).trans rfl, (blk_cell BK178.out 1).trans rfl, ((HB.out.cell (World.block_lt_of_cell? w _ hw179_0)).trans hw179_0), ((HB.out.cell (World.block_lt_of_cell? w _ hw179_1)).trans hw179_1), ((HB.out.cell (World.block_lt_of_cell? w _ hw180_0)).trans hw180_0), ((HB.out.cell (World.block_lt_of_cell? w _ hw180_1)).trans hw180_1)⟩ (fun hHeld => ?_); refine with_tabW soritesref06_Same.tab10 soritesref06_Same.bits10 (fun HT_ HW_ => ?_)
                    generalize wr.drew = w27 at BK177 BK178 HB HR179_1 HR180_1 hx179_0 hx179_1 hx180_0 hx180_1 hHeld ⊢
                    refine pure_ (i := 0) (N := some 28) (v := ?_) (a' := ?_) #[true, false, false, false, false, false, false, false, false, false, false, false] rfl rfl (any_of HT_.out (by kernel_rfl)) (fun _ _ _ h => h) (Or.inl ⟨by rfl, ?_⟩) ?_ ?_
                    rotate_left
                    · intro w'
                      go_simp
                      with_reducible rfl
                    rotate_left
                    · simp only [Act.put, List.setIfInBounds_toArray, List.set_cons_zero, List.set_cons_succ, i64_w, i32_w]
                      rfl
                    refine pure_ (i := 2) (N := some 30) (v := ?_) (a' := ?_) #[true, false, true, false, false, false, false, false, false, false, false, false] rfl rfl (any_of HT_.out (by kernel_rfl)) (fun _ _ _ h => h) (Or.inl ⟨by rfl, ?_⟩) ?_ ?_
                    rotate_left
                    · intro w'
                      go_simp
                      with_reducible rfl
                    rotate_left
                    · simp only [Act.put, List.setIfInBounds_toArray, List.set_cons_zero, List.set_cons_succ, i64_w, i32_w]
                      rfl
                    refine pure_ (i := 5) (N := some 33) (v := ?_) (a' := ?_) #[true, false, true, false, false, true, false, false, false, false, false, false] rfl rfl (any_of HT_.out (by kernel_rfl)) (fun _ _ _ h => h) (Or.inl ⟨by rfl, ?_⟩) ?_ ?_
                    rotate_left
                    · intro w'
                      go_simp
                      with_reducible rfl
                    rotate_left
                    · simp only [Act.put, List.setIfInBounds_toArray, List.set_cons_zero, List.set_cons_succ, i64_w, i32_w]
                      rfl
                    refine pure_ (i := 7) (N := some 35) (v := ?_) (a' := ?_) #[true, false, true, false, false, true, false, true, false, false, false, false] rfl rfl (any_of HT_.out (by kernel_rfl)) (fun _ _ _ h => h) (Or.inl ⟨by rfl, ?_⟩) ?_ ?_
                    rotate_left
                    · intro w'
                      go_simp
                      with_reducible rfl
                    rotate_left
                    · simp only [Act.put, List.setIfInBounds_toArray, List.set_cons_zero, List.set_cons_succ, i64_w, i32_w]
                      rfl
                    refine take_ (i := 1) (N := some 29) (v := ?_) (a' := ?_) #[true, true, true, false, false, true, false, true, false, false, false, false] rfl rfl (take_ofW HT_.out HW_.out (by kernel_rfl)) (fun _ _ _ h => h) (Or.inl ⟨by rfl, ?_⟩) hHeld ?_ ?_
                    rotate_left
                    · rintro w' ⟨s0, s1, s2, s3, s4, s5, s6, s7⟩
                      go_simp
                      with_reducible rfl
                    rotate_left
                    · simp only [Act.put, List.setIfInBounds_toArray, List.set_cons_zero, List.set_cons_succ, i64_w, i32_w]
                      rfl
                    refine pure_ (i := 3) (N := some 31) (v := ?_) (a' := ?_) #[true, true, true, true, false, true, false, true, false, false, false, false] rfl rfl (any_of HT_.out (by kernel_rfl)) (fun _ _ _ h => h) (Or.inl ⟨by rfl, ?_⟩) ?_ ?_
                    rotate_left
                    · intro w'
                      go_simp
                      with_reducible rfl
                    rotate_left
                    · simp only [Act.put, List.setIfInBounds_toArray, List.set_cons_zero, List.set_cons_succ, i64_w, i32_w]
                      rfl
                    refine take_ (i := 4) (N := some 32) (v := ?_) (a' := ?_) #[true, true, true, true, true, true, false, true, false, false, false, false] rfl rfl (take_ofW HT_.out HW_.out (by kernel_rfl)) (fun _ _ _ h => h) (Or.inl ⟨by rfl, ?_⟩) hHeld ?_ ?_
                    rotate_left
                    · rintro w' ⟨s0, s1, s2, s3, s4, s5, s6, s7⟩
                      go_simp
                      with_reducible rfl
                    rotate_left
                    · simp only [Act.put, List.setIfInBounds_toArray, List.set_cons_zero, List.set_cons_succ, i64_w, i32_w]
                      rfl
                    refine take_ (i := 6) (N := some 34) (v := ?_) (a' := ?_) #[true, true, true, true, true, true, true, true, false, false, false, false] rfl rfl (take_ofW HT_.out HW_.out (by kernel_rfl)) (fun _ _ _ h => h) (Or.inl ⟨by rfl, ?_⟩) hHeld ?_ ?_
                    rotate_left
                    · rintro w' ⟨s0, s1, s2, s3, s4, s5, s6, s7⟩
                      go_simp
                      with_reducible rfl
                    rotate_left
                    · simp only [Act.put, List.setIfInBounds_toArray, List.set_cons_zero, List.set_cons_succ, i64_w, i32_w]
                      rfl
                    refine pure_ (i := 8) (N := some 36) (v := ?_) (a' := ?_) #[true, true, true, true, true, true, true, true, true, false, false, false] rfl rfl (any_of HT_.out (by kernel_rfl)) (fun _ _ _ h => h) (Or.inl ⟨by rfl, ?_⟩) ?_ ?_
                    rotate_left
                    · intro w'
                      go_simp
                      with_reducible rfl
                    rotate_left
                    · simp only [Act.put, List.setIfInBounds_toArray, List.set_cons_zero, List.set_cons_succ, i64_w, i32_w]
                      rfl
                    refine take_ (i := 9) (N := some 37) (v := ?_) (a' := ?_) #[true, true, true, true, true, true, true, true, true, true, false, false] rfl rfl (take_ofW HT_.out HW_.out (by kernel_rfl)) (fun _ _ _ h => h) (Or.inl ⟨by rfl, ?_⟩) hHeld ?_ ?_
                    rotate_left
                    · rintro w' ⟨s0, s1, s2, s3, s4, s5, s6, s7⟩
                      go_simp
                      with_reducible rfl
                    rotate_left
                    · simp only [Act.put, List.setIfInBounds_toArray, List.set_cons_zero, List.set_cons_succ, i64_w, i32_w]
                      rfl
                    refine one_ (i := 10) (N := some 38) #[true, true, true, true, true, true, true, true, true, true, true, false] rfl rfl (one_of HT_.out (by kernel_rfl)) (by decide) (fun K hK => ?_)
                    refine goes_ Try.func28 (by kernel_rfl) rfl #[.agg #[.int .i64 ((rd_T24 l0_1 x5_1).f0), .slice A179_1 ((rd_T24 l0_1 x5_1).f1).length c179_1], .agg #[.int .i64 ((rd_T24 l1_1 x5_1).f0), .slice A180_1 ((rd_T24 l1_1 x5_1).f1).length c180_1]] (by rfl) rfl rfl (by (try simp only [List.map_toArray, List.map_cons, List.map_nil]); first | done | rfl | (simp only [List.length_drop, List.length_take]; rfl)) ?_
                    with_reducible refine (ih k1 (by have := HK1.out; omega) ((rd_T24 l0_1 x5_1).f0) _ _ ((rd_T24 l0_1 x5_1).f1) ((rd_T24 l1_1 x5_1).f0) _ _ ((rd_T24 l1_1 x5_1).f1) false _ ?side1 ?side2 ?side3 ?side4 A19.out).mono ?_
                    (case side1 => repeat (first | exact (Kd.C_below HR179_1.out HB.out) | (with_reducible refine Kd.C_alloc ?_ _) | (with_reducible refine Kd.C_drewN ?_ _) | (with_reducible refine Kd.C_drew ?_)))
                    (case side2 => exact HC179_1.out)
                    (case side3 => repeat (first | exact (Kd.C_below HR180_1.out HB.out) | (with_reducible refine Kd.C_alloc ?_ _) | (with_reducible refine Kd.C_drewN ?_ _) | (with_reducible refine Kd.C_drew ?_)))
                    (case side4 => exact HC180_1.out)
                    rintro e w28 ⟨rfl, hb⟩
                    refine ⟨_, rfl, ?_⟩
                    have n0_ := Aside0.mk (blk_below (g := gb177) (o := .cells #[.int .i64 a0_0, .slice (some ad179) l0_1.length c0_1] 24 (0, 0)) (by (with_reducible repeat (first | refine blk_drewN ?_ _ | refine blk_drew ?_ | refine blk_alloc ?_ _)); exact BK177.out) hb)
                    have n1_ := Aside0.mk (blk_below (g := gb178) (o := .cells #[.int .i64 a1_0, .slice (some ad180) l1_1.length c1_1] 24 (0, 0)) (by (with_reducible repeat (first | refine blk_drewN ?_ _ | refine blk_drew ?_ | refine blk_alloc ?_ _)); exact BK178.out) hb)
                    have n2_ := Aside0.mk (below_step (by repeat (first | (with_reducible first | exact HB.out | apply below_alloc | apply pw_below_drewN | apply below_drew1 | refine below_set ?_ GE177.out | refine below_set ?_ GE178.out) | exact HB.out)) hb)
                    clear BK177
                    clear BK178
                    clear HB
                    have BK177 := n0_
                    have BK178 := n1_
                    have HB := n2_
                    clear n0_ n1_ n2_
                    (try clear hb)
                    (try clear hb2)
                    (try clear hk)
                    (try clear hi)
                    refine hK.out _ _ ⟨(blk_cell BK177.out 0).trans rfl, (blk_cell BK177.out 1).trans rfl, (blk_cell BK178.out 0).trans rfl, (blk_cell BK178.out 1).trans rfl, ((HB.out.cell (World.block_lt_of_cell? w _ hw179_0)).trans hw179_0), ((HB.out.cell (World.block_lt_of_cell? w _ hw179_1)).trans hw179_1), ((HB.out.cell (World.block_lt_of_cell? w _ hw180_0)).trans hw180_0), ((HB.out.cell (World.block_lt_of_cell? w _ hw180_1)).trans hw180_1)⟩ (fun hHeld => ?_)
                    clear hK K
                    refine norm_ (a' := ?_) ?_ ?_
                    rotate_left
                    · show Act.put _ (some 38) _ = _
                      simp only [Act.put, List.setIfInBounds_toArray, List.set_cons_zero, List.set_cons_succ, i64_w, i32_w]
                      rfl
                    refine pure_ (i := 11) (N := some 39) (v := ?_) (a' := ?_) #[true, true, true, true, true, true, true, true, true, true, true, true] rfl rfl (any_of HT_.out (by kernel_rfl)) (fun _ _ _ h => h) (Or.inl ⟨by rfl, ?_⟩) ?_ ?_
                    rotate_left
                    · intro w'
                      go_simp
                      with_reducible rfl
                    rotate_left
                    · simp only [Act.put, List.setIfInBounds_toArray, List.set_cons_zero, List.set_cons_succ, i64_w, i32_w]
                      rfl
                    refine done_ (done_of HT_.out (by kernel_rfl)) ?_
                    try go_wp2
                    go_ret
                    exact ⟨by first | rfl | (simp [errW_none, errW_some] <;> rfl) | (simp [*, errW_none, errW_some] <;> rfl), by repeat (first | (with_reducible first | exact HB.out | apply below_alloc | apply pw_below_drewN | apply below_drew1 | refine below_set ?_ GE177.out | refine below_set ?_ GE178.out) | exact HB.out)⟩
                · rw [if_neg c18] at H
                  exact absurd H (by simp)
              · rw [if_neg c17] at H
                exact absurd H (by simp)
            · rw [if_neg c16] at H
              have c16b0 : decide (x5_1 < (l0_1.length : Int)) = false := decide_eq_false c16
              clear c16
              obtain rfl := Option.some.inj H
              have hnb29 := NB177_178.out
              have hnc29 := NB178_177.out
              have hcz30_0 : wr.cell? ⟨gb177, 0, none⟩ = some (.int .i64 a0_0) := (blk_cell BK177.out 0).trans rfl
              have hcz30_1 : wr.cell? ⟨gb177, 1, none⟩ = some (.slice A0_1 l0_1.length c0_1) := (blk_cell BK177.out 1).trans rfl
              have hfz30_0 := blk_frozen BK177.out 0
              have hfz30_1 := blk_frozen BK177.out 1
              go_wp2
              go_ret
              exact ⟨by first | rfl | (simp [errW_none, errW_some] <;> rfl) | (simp [*, errW_none, errW_some] <;> rfl), by repeat (first | (with_reducible first | exact HB.out | apply below_alloc | apply pw_below_drewN | apply below_drew1 | refine below_set ?_ GE177.out | refine below_set ?_ GE178.out) | exact HB.out)⟩
      · rw [if_neg c10] at H
        have c10b0 : ((l0_1.length : Int) == (l1_1.length : Int)) = false := beq_eq_false_iff_ne.mpr c10
        have c10b1 : ((l0_1.length : Int) != (l1_1.length : Int)) = true := bne_iff_ne.mpr c10
        have c10b2 : (l0_1.length == l1_1.length) = false := by first | simpa using c10 | (simp at c10 ⊢; omega)
        obtain rfl := Option.some.inj H
        go_enter Try.func28, Try.ntmps28
        go_wp2_with (first | ((with_reducible refine gate_dst (N := 2) rfl ?_); refine box_event ?hg (N := 2) ?hd (cs := #[.int .i64 a0_0, .slice A0_1 l0_1.length c0_1]) (t := 24) ?hr ?_; (case hd => rfl); (case hg => rfl); (case hr => first | (go_simp; done) | (go_simp; rfl)); intro gb177 hg w31 hbox hb; have n0_ := Aside0.mk (below_step (by repeat (first | (with_reducible first | exact HB.out | apply below_alloc | apply pw_below_drewN | apply below_drew1) | exact HB.out)) hb); have n1_ := Aside0.mk (hbox); have n2_ := Aside0.mk ((by rw [hg]; exact (below_size (by repeat (first | (with_reducible first | exact HB.out | apply below_alloc | apply pw_below_drewN | apply below_drew1) | exact HB.out))) : w.heap.size ≤ gb177)); have n3_ := Aside0.mk ((by rw [hg]; exact (below_size (by repeat (first | (with_reducible first | exact HB.out | apply below_alloc | apply pw_below_drewN | apply below_drew1) | exact HB.out))) : w.heap.size ≤ gb177)); clear HB; have HB := n0_; have BK177 := n1_; have GW177 := n2_; have GE177 := n3_; clear n0_ n1_ n2_ n3_; clear hb hbox hg) | ((with_reducible refine gate_dst (N := 3) rfl ?_); refine box_event ?hg (N := 3) ?hd (cs := #[.int .i64 a1_0, .slice A1_1 l1_1.length c1_1]) (t := 24) ?hr ?_; (case hd => rfl); (case hg => rfl); (case hr => first | (go_simp; done) | (go_simp; rfl)); intro gb178 hg w32 hbox hb; have n0_ := Aside0.mk (blk_below (g := gb177) (o := .cells #[.int .i64 a0_0, .slice A0_1 l0_1.length c0_1] 24 (0, 0)) (by (with_reducible repeat (first | refine blk_drewN ?_ _ | refine blk_drew ?_ | refine blk_alloc ?_ _)); exact BK177.out) hb); have n1_ := Aside0.mk (below_step (by repeat (first | (with_reducible first | exact HB.out | apply below_alloc | apply pw_below_drewN | apply below_drew1 | refine below_set ?_ GE177.out) | exact HB.out)) hb); have n2_ := Aside0.mk (hbox); have n3_ := Aside0.mk ((by rw [hg]; exact (below_size (by repeat (first | (with_reducible first | exact HB.out | apply below_alloc | apply pw_below_drewN | apply below_drew1 | refine below_set ?_ GE177.out) | exact HB.out))) : w.heap.size ≤ gb178)); have n4_ := Aside0.mk ((by rw [hg]; exact (below_size (by repeat (first | (with_reducible first | exact HB.out | apply below_alloc | apply pw_below_drewN | apply below_drew1 | refine below_set ?_ GE177.out) | exact HB.out))) : w.heap.size ≤ gb178)); have n5_ := Aside0.mk ((by rw [hg]; exact Nat.ne_of_lt (blk_lt (g := gb177) (o := .cells #[.int .i64 a0_0, .slice A0_1 l0_1.length c0_1] 24 (0, 0)) (by (with_reducible repeat (first | refine blk_drewN ?_ _ | refine blk_drew ?_ | refine blk_alloc ?_ _)); exact BK177.out)) : gb177 ≠ gb178)); have n6_ := Aside0.mk ((by rw [hg]; exact Nat.ne_of_gt (blk_lt (g := gb177) (o := .cells #[.int .i64 a0_0, .slice A0_1 l0_1.length c0_1] 24 (0, 0)) (by (with_reducible repeat (first | refine blk_drewN ?_ _ | refine blk_drew ?_ | refine blk_alloc ?_ _)); exact BK177.out)) : gb178 ≠ gb177)); clear BK177; clear HB; have BK177 := n0_; have HB := n1_; have BK178 := n2_; have GW178 := n3_; have GE178 := n4_; have NB177_178 := n5_; have NB178_177 := n6_; clear n0_ n1_ n2_ n3_ n4_ n5_ n6_; clear hb hbox hg; have hnb33 := NB177_178.out; have hnc33 := NB178_177.out; have hcz34_0 : w32.cell? ⟨gb177, 0, none⟩ = some (.int .i64 a0_0) := (blk_cell BK177.out 0).trans rfl; have hcz34_1 : w32.cell? ⟨gb177, 1, none⟩ = some (.slice A0_1 l0_1.length c0_1) := (blk_cell BK177.out 1).trans rfl; have hfz34_0 := blk_frozen BK177.out 0; have hfz34_1 := blk_frozen BK177.out 1; have hcz35_0 : w32.cell? ⟨gb178, 0, none⟩ = some (.int .i64 a1_0) := (blk_cell BK178.out 0).trans rfl; have hcz35_1 : w32.cell? ⟨gb178, 1, none⟩ = some (.slice A1_1 l1_1.length c1_1) := (blk_cell BK178.out 1).trans rfl; have hfz35_0 := blk_frozen BK178.out 0; have hfz35_1 := blk_frozen BK178.out 1))
        go_ret
        exact ⟨by first | rfl | (simp [errW_none, errW_some] <;> rfl) | (simp [*, errW_none, errW_some] <;> rfl), by repeat (first | (with_reducible first | exact HB.out | apply below_alloc | apply pw_below_drewN | apply below_drew1 | refine below_set ?_ GE177.out | refine below_set ?_ GE178.out) | exact HB.out)⟩
  · rw [if_neg c3] at H
    have c3b0 : (a0_0 == a1_0) = false := beq_eq_false_iff_ne.mpr c3
    have c3b1 : (a0_0 != a1_0) = true := bne_iff_ne.mpr c3
    obtain rfl := Option.some.inj H
    go_enter Try.func28, Try.ntmps28
    go_wp2_with (first | ((with_reducible refine gate_dst (N := 2) rfl ?_); refine box_event ?hg (N := 2) ?hd (cs := #[.int .i64 a0_0, .slice A0_1 l0_1.length c0_1]) (t := 24) ?hr ?_; (case hd => rfl); (case hg => rfl); (case hr => first | (go_simp; done) | (go_simp; rfl)); intro gb177 hg w36 hbox hb; have n0_ := Aside0.mk (below_step (by repeat (first | (with_reducible first | exact HB.out | apply below_alloc | apply pw_below_drewN | apply below_drew1) | exact HB.out)) hb); have n1_ := Aside0.mk (hbox); have n2_ := Aside0.mk ((by rw [hg]; exact (below_size (by repeat (first | (with_reducible first | exact HB.out | apply below_alloc | apply pw_below_drewN | apply below_drew1) | exact HB.out))) : w.heap.size ≤ gb177)); have n3_ := Aside0.mk ((by rw [hg]; exact (below_size (by repeat (first | (with_reducible first | exact HB.out | apply below_alloc | apply pw_below_drewN | apply below_drew1) | exact HB.out))) : w.heap.size ≤ gb177)); clear HB; have HB := n0_; have BK177 := n1_; have GW177 := n2_; have GE177 := n3_; clear n0_ n1_ n2_ n3_; clear hb hbox hg) | ((with_reducible refine gate_dst (N := 3) rfl ?_); refine box_event ?hg (N := 3) ?hd (cs := #[.int .i64 a1_0, .slice A1_1 l1_1.length c1_1]) (t := 24) ?hr ?_; (case hd => rfl); (case hg => rfl); (case hr => first | (go_simp; done) | (go_simp; rfl)); intro gb178 hg w37 hbox hb; have n0_ := Aside0.mk (blk_below (g := gb177) (o := .cells #[.int .i64 a0_0, .slice A0_1 l0_1.length c0_1] 24 (0, 0)) (by (with_reducible repeat (first | refine blk_drewN ?_ _ | refine blk_drew ?_ | refine blk_alloc ?_ _)); exact BK177.out) hb); have n1_ := Aside0.mk (below_step (by repeat (first | (with_reducible first | exact HB.out | apply below_alloc | apply pw_below_drewN | apply below_drew1 | refine below_set ?_ GE177.out) | exact HB.out)) hb); have n2_ := Aside0.mk (hbox); have n3_ := Aside0.mk ((by rw [hg]; exact (below_size (by repeat (first | (with_reducible first | exact HB.out | apply below_alloc | apply pw_below_drewN | apply below_drew1 | refine below_set ?_ GE177.out) | exact HB.out))) : w.heap.size ≤ gb178)); have n4_ := Aside0.mk ((by rw [hg]; exact (below_size (by repeat (first | (with_reducible first | exact HB.out | apply below_alloc | apply pw_below_drewN | apply below_drew1 | refine below_set ?_ GE177.out) | exact HB.out))) : w.heap.size ≤ gb178)); have n5_ := Aside0.mk ((by rw [hg]; exact Nat.ne_of_lt (blk_lt (g := gb177) (o := .cells #[.int .i64 a0_0, .slice A0_1 l0_1.length c0_1] 24 (0, 0)) (by (with_reducible repeat (first | refine blk_drewN ?_ _ | refine blk_drew ?_ | refine blk_alloc ?_ _)); exact BK177.out)) : gb177 ≠ gb178)); have n6_ := Aside0.mk ((by rw [hg]; exact Nat.ne_of_gt (blk_lt (g := gb177) (o := .cells #[.int .i64 a0_0, .slice A0_1 l0_1.length c0_1] 24 (0, 0)) (by (with_reducible repeat (first | refine blk_drewN ?_ _ | refine blk_drew ?_ | refine blk_alloc ?_ _)); exact BK177.out)) : gb178 ≠ gb177)); clear BK177; clear HB; have BK177 := n0_; have HB := n1_; have BK178 := n2_; have GW178 := n3_; have GE178 := n4_; have NB177_178 := n5_; have NB178_177 := n6_; clear n0_ n1_ n2_ n3_ n4_ n5_ n6_; clear hb hbox hg; have hnb38 := NB177_178.out; have hnc38 := NB178_177.out; have hcz39_0 : w37.cell? ⟨gb177, 0, none⟩ = some (.int .i64 a0_0) := (blk_cell BK177.out 0).trans rfl; have hcz39_1 : w37.cell? ⟨gb177, 1, none⟩ = some (.slice A0_1 l0_1.length c0_1) := (blk_cell BK177.out 1).trans rfl; have hfz39_0 := blk_frozen BK177.out 0; have hfz39_1 := blk_frozen BK177.out 1; have hcz40_0 : w37.cell? ⟨gb178, 0, none⟩ = some (.int .i64 a1_0) := (blk_cell BK178.out 0).trans rfl; have hcz40_1 : w37.cell? ⟨gb178, 1, none⟩ = some (.slice A1_1 l1_1.length c1_1) := (blk_cell BK178.out 1).trans rfl; have hfz40_0 := blk_frozen BK178.out 0; have hfz40_1 := blk_frozen BK178.out 1))
    go_ret
    exact ⟨by first | rfl | (simp [errW_none, errW_some] <;> rfl) | (simp [*, errW_none, errW_some] <;> rfl), by repeat (first | (with_reducible first | exact HB.out | apply below_alloc | apply pw_below_drewN | apply below_drew1 | refine below_set ?_ GE177.out | refine below_set ?_ GE178.out) | exact HB.out)⟩
end Go.Proofs.Ytpfddihcikiofaa.P
end

section
namespace Go.Proofs.Ytpfddihcikiofaa.P
open Go.RowKit Go.Proofs.YtpfddihcikiofaaW.PrintWords Go.Proofs.YtpfddihcikiofaaW.PrintLast Go.Proofs.YtpfddihcikiofaaW.PrintMore
attribute [local go_sem] max2_int min2_int max_two min_two max_three min_three max_four min_four
set_option linter.unusedVariables false
set_option linter.unusedSimpArgs false
mutual
def soritesref06_Flat.l0 : Nat → List (S24) → Int → Int → List (S24) → Option ((List (S24)))
  | 0, _, _, _, _ => none
  | k + 1, x3, x4, x159000, x159001 => if x159000 ≥ 0 then (if x4 < (x159001.length : Int) then (if 0 ≤ x4 then ((soritesref06_Flat.f k ((rd_T24 x159001 x4).f0) ((rd_T24 x159001 x4).f1)).bind fun t163 => (if x3.length + t163.length < 4398046511104 then (soritesref06_Flat.l0 k (x3 ++ t163) (wrap64 (x4 + 1)) x159000 x159001) else (none))) else (none)) else (some x3)) else (some x3)
def soritesref06_Flat.f : Nat → Int → List (S24) → Option ((List (S24)))
  | 0, _, _ => none
  | k + 1, a0_0, l0_1 => soritesref06_Flat.l0 k (([(⟨a0_0, l0_1⟩ : S24)] : List (S24))) 0 a0_0 l0_1
end
set_option maxHeartbeats 8000000 in
set_option maxRecDepth 100000 in
theorem soritesref06_Flat.calls (k : Nat) : ∀ (a0_0 : Int) (P0_1_ : Nat → Prop) (A0_1 : Option Addr) (c0_1 : Nat) (l0_1 : List (S24)) (r : List (S24)) (w : World) (hs0_1 : Kd.V k24 24 w w.heap.size (fun k_ => P0_1_ k_) (.slice A0_1 l0_1.length c0_1) l0_1) (h : soritesref06_Flat.f k a0_0 l0_1 = some r),
    Calls Try.prog 26 #[.agg #[.int .i64 a0_0, .slice A0_1 l0_1.length c0_1]] w fun e w' => ∃ v0_ : Value, e = .returned (v0_) ∧ Kd.N k24 24 w' w.heap.size (fun k_ => (P0_1_ k_ ∨ w.heap.size ≤ k_)) v0_ r ∧ Below w.heap.size w w' := by
  induction k using Nat.strongRecOn with
  | _ k ih =>
  intro a0_0 P0_1_ A0_1 c0_1 l0_1 r w hs0_1 h
  cases k with
  | zero => exact absurd h (by simp [soritesref06_Flat.f])
  | succ k =>
  simp only [soritesref06_Flat.f] at h
  have hu24 := Try.underlying24
  have HO0_1 := Aside0.mk (show Kd.V k24 24 w w.heap.size (fun k_ => (P0_1_ k_ ∨ w.heap.size ≤ k_)) (.slice A0_1 l0_1.length c0_1) l0_1 from Kd.V_mono hs0_1 (fun k_ hk => .inl hk))
  have HB := Aside0.mk (Below.refl w.heap.size w)
  have H : (soritesref06_Flat.l0 k (([(⟨a0_0, l0_1⟩ : S24)] : List (S24))) 0 a0_0 l0_1) = some r := h
  clear h
  obtain ⟨y159, hy159⟩ : ∃ y_ : List (S24), y_ = (([(⟨a0_0, l0_1⟩ : S24)] : List (S24))) := ⟨_, rfl⟩
  replace H : (soritesref06_Flat.l0 k y159 0 a0_0 l0_1) = some r := by first | (rw [hy159]; with_reducible exact H) | (have H2_ := (Option.bind_some _ _).symm.trans H; rw [hy159]; with_reducible exact H2_) | (have H2_ := (Option.bind_some _ _).symm.trans H; with_reducible exact H2_) | with_reducible exact H | (rw [hy159]; exact H) | exact H
  have Ny159 := Aside0.mk hy159
  clear hy159
  have H' := Aside0.mk H
  clear H
  go_enter Try.func26, Try.ntmps26
  go_wp2_with (first | ((with_reducible refine gate_dst (N := 1) rfl ?_); (try (refine gate_guard (by rfl) ?_; dsimp only)); refine box_event ?hg (N := 1) ?hd (cs := #[.int .i64 a0_0, .slice A0_1 l0_1.length c0_1]) (t := 24) ?hr ?_; (case hd => rfl); (case hg => rfl); (case hr => first | (go_simp; done) | (go_simp; rfl)); intro gb158 hg w2 hbox hb; have n0_ := Aside0.mk (Kd.V_below (Kd.V_elderB (by (with_reducible repeat (first | apply Kd.V_alloc | apply Kd.V_drewN | apply Kd.V_drew)); exact HO0_1.out) gb158 (Nat.le_of_eq hg.symm)) hb); have n1_ := Aside0.mk (below_step (by repeat (first | (with_reducible first | exact HB.out | apply below_alloc | apply pw_below_drewN | apply below_drew1) | exact HB.out)) hb); have n2_ := Aside0.mk (hbox); have n3_ := Aside0.mk ((by rw [hg]; exact (below_size (by repeat (first | (with_reducible first | exact HB.out | apply below_alloc | apply pw_below_drewN | apply below_drew1) | exact HB.out))) : w.heap.size ≤ gb158)); have n4_ := Aside0.mk ((by rw [hg]; exact (below_size (by repeat (first | (with_reducible first | exact HB.out | apply below_alloc | apply pw_below_drewN | apply below_drew1) | exact HB.out))) : w.heap.size ≤ gb158)); clear HO0_1; clear HB; have HO0_1 := n0_; have HB := n1_; have BK158 := n2_; have GW158 := n3_; have GE158 := n4_; clear n0_ n1_ n2_ n3_ n4_; clear hb hbox hg; have hcz3_0 : w2.cell? ⟨gb158, 0, none⟩ = some (.int .i64 a0_0) := (blk_cell BK158.out 0).trans rfl; have hcz3_1 : w2.cell? ⟨gb158, 1, none⟩ = some (.slice A0_1 l0_1.length c0_1) := (blk_cell BK158.out 1).trans rfl; have hfz3_0 := blk_frozen BK158.out 0; have hfz3_1 := blk_frozen BK158.out 1) | ((with_reducible refine gate_dst (N := 6) rfl ?_); (try (refine gate_guard (by rfl) ?_; dsimp only)); refine Kd.N_lit k24 _ 24 ?hg (N' := 6) ?hd (xs := ([(⟨a0_0, l0_1⟩ : S24)] : List (S24))) (inner := [.int .i64 a0_0, .slice A0_1 l0_1.length c0_1]) (ok := (fun k_ => (P0_1_ k_ ∨ w.heap.size ≤ k_) ∧ k_ ≠ gb158)) (okp := (fun k_ => (P0_1_ k_ ∨ w.heap.size ≤ k_) ∧ k_ ≠ gb158)) ?hr ?hp (fun _ hk => hk) ((show ∀ k_, w2.heap.size ≤ k_ → (fun k_ => (P0_1_ k_ ∨ w.heap.size ≤ k_) ∧ k_ ≠ gb158) k_ from fun k_ hk => ⟨(.inr (Nat.le_trans (below_size (by repeat (first | (with_reducible first | exact HB.out | apply below_alloc | apply pw_below_drewN | apply below_drew1 | refine below_set ?_ GE158.out) | exact HB.out))) hk)), Kd.freshB (g := gb158) (o := .cells #[.int .i64 a0_0, .slice A0_1 l0_1.length c0_1] 24 (0, 0)) (by (with_reducible repeat (first | refine blk_drewN ?_ _ | refine blk_drew ?_ | refine blk_alloc ?_ _)); exact BK158.out) k_ hk⟩) _ (Nat.le_refl _)) (Below.refl _ _) (Nat.le_refl _) (by simp) ?_; (case hd => rfl); (case hg => rfl); (case hr => first | (go_simp; done) | (go_simp; rfl)); (case hp => exact (Reps.c2 (show Kd.FK k24 _ _ (⟨a0_0, l0_1⟩ : S24) [.int .i64 a0_0, .slice A0_1 l0_1.length c0_1] from (k24_mkF _ _ (⟨a0_0, l0_1⟩ : S24) (Kd.V_reads' (Kd.V_mono (ok' := (fun k_ => (P0_1_ k_ ∨ w.heap.size ≤ k_) ∧ k_ ≠ gb158)) (HO0_1.out) (fun k_ hk => ⟨hk.1, hk.2⟩))).2.1 (Kd.V_F (Kd.V_mono (ok' := (fun k_ => (P0_1_ k_ ∨ w.heap.size ≤ k_) ∧ k_ ≠ gb158)) (HO0_1.out) (fun k_ hk => ⟨hk.1, hk.2⟩))))) (Reps.none _ _))); intro v160 w4 ho5 hb hg_ hnew_; clear hg_ hnew_; (first | rw [← Ny159.out] at ho5 | (simp only [Int.reduceToNat] at ho5; rw [← Ny159.out] at ho5)); have n0_ := Aside0.mk (Kd.V_elder' (by (with_reducible repeat (first | apply Kd.V_alloc | apply Kd.V_drewN | apply Kd.V_drew)); exact HO0_1.out) (Kd.N_base ho5) hb); have n1_ := Aside0.mk (Kd.N_lower ho5 (below_size (by repeat (first | (with_reducible first | exact HB.out | apply below_alloc | apply pw_below_drewN | apply below_drew1 | refine below_set ?_ GE158.out) | exact HB.out)))); have n2_ := Aside0.mk (blk_below (g := gb158) (o := .cells #[.int .i64 a0_0, .slice A0_1 l0_1.length c0_1] 24 (0, 0)) (by (with_reducible repeat (first | refine blk_drewN ?_ _ | refine blk_drew ?_ | refine blk_alloc ?_ _)); exact BK158.out) hb); have n3_ := Aside0.mk (below_step (by repeat (first | (with_reducible first | exact HB.out | apply below_alloc | apply pw_below_drewN | apply below_drew1 | refine below_set ?_ GE158.out) | exact HB.out)) hb); clear HO0_1; clear BK158; clear HB; have HO0_1 := n0_; have HO161 := n1_; have BK158 := n2_; have HB := n3_; clear n0_ n1_ n2_ n3_; clear hb ho5))
  go_loopg [3, 4] k (fun kq v3 v4 w' => ∃ (x3_1 : List (S24)) (x4_1 : Int), v4 = .int .i64 x4_1 ∧ Aside0 (soritesref06_Flat.l0 kq x3_1 x4_1 a0_0 l0_1 = some r) ∧ Aside0 (kq ≤ k) ∧ Aside0 (Kd.N k24 24 w' w.heap.size (fun k_ => (P0_1_ k_ ∨ w.heap.size ≤ k_) ∧ k_ ≠ gb158) v3 x3_1) ∧ Aside0 (Kd.V k24 24 w' w.heap.size (fun k_ => (P0_1_ k_ ∨ w.heap.size ≤ k_) ∧ some k_ ≠ (v3 : Value).ownBlock ∧ k_ ≠ gb158) (.slice A0_1 l0_1.length c0_1) l0_1) ∧ Aside0 (w'.heap[gb158]? = some (.cells #[.int .i64 a0_0, (.slice A0_1 l0_1.length c0_1)] 24 (0, 0))) ∧ Aside0 (Below w.heap.size w w'))
  case atStart => exact ⟨(y159), (0), (by first | rfl | (simp; done) | (simp [*]; done)), H', ⟨Nat.le_refl _⟩, ⟨by (with_reducible repeat (first | apply Kd.N_alloc | apply Kd.N_drewN | apply Kd.N_drew)); exact HO161.out⟩, ⟨by (with_reducible repeat (first | apply Kd.V_alloc | apply Kd.V_drewN | apply Kd.V_drew)); exact Kd.V_mono HO0_1.out (fun _ hk => ⟨hk.1.1, ⟨hk.2, hk.1.2⟩⟩)⟩, ⟨by (with_reducible repeat (first | refine blk_drewN ?_ _ | refine blk_drew ?_ | refine blk_alloc ?_ _)); exact BK158.out⟩, ⟨by repeat (first | (with_reducible first | exact HB.out | apply below_alloc | apply pw_below_drewN | apply below_drew1 | refine below_set ?_ GE158.out) | exact HB.out)⟩⟩
  case round =>
    clear H'
    try clear c2
    try clear p2
    try clear hcz3_0
    try clear hcz3_1
    try clear hfz3_0
    try clear hfz3_1
    obtain ⟨x3_1, x4_1, rfl, HA, HK1, HO_3, HO_159001, BK158, HB⟩ := hrel
    cases gk with
    | zero => exact absurd HA.out (by simp [soritesref06_Flat.l0])
    | succ k1 =>
      have H := HA.out
      clear HA
      simp only [soritesref06_Flat.l0] at H
      by_cases c6 : a0_0 ≥ 0
      · rw [if_pos c6] at H
        have c6b0 : decide (0 ≤ a0_0) = true := decide_eq_true c6
        clear c6
        by_cases c7 : x4_1 < (l0_1.length : Int)
        · rw [if_pos c7] at H
          have c7b0 : decide (x4_1 < (l0_1.length : Int)) = true := decide_eq_true c7
          clear c7
          by_cases c8 : 0 ≤ x4_1
          · rw [if_pos c8] at H
            have c8b0 : decide (0 ≤ x4_1) = true := decide_eq_true c8
            clear c8
            replace H := Option.bind_eq_some_iff.mp H
            obtain ⟨t163, A90, H⟩ := H
            replace H : (if x3_1.length + t163.length < 4398046511104 then (soritesref06_Flat.l0 k1 (x3_1 ++ t163) (wrap64 (x4_1 + 1)) a0_0 l0_1) else (none)) = some r := H
            have A9 := Aside0.mk A90
            clear A90
            by_cases c10 : x3_1.length + t163.length < 4398046511104
            · rw [if_pos c10] at H
              have LMc10 := Aside0.mk c10
              clear c10
              obtain ⟨y166, hy166⟩ : ∃ y_ : List (S24), y_ = (x3_1 ++ t163) := ⟨_, rfl⟩
              replace H : (soritesref06_Flat.l0 k1 y166 (wrap64 (x4_1 + 1)) a0_0 l0_1) = some r := by first | (rw [hy166]; with_reducible exact H) | (have H2_ := (Option.bind_some _ _).symm.trans H; rw [hy166]; with_reducible exact H2_) | (have H2_ := (Option.bind_some _ _).symm.trans H; with_reducible exact H2_) | with_reducible exact H | (rw [hy166]; exact H) | exact H
              have Ny166 := Aside0.mk hy166
              clear hy166
              have H' := Aside0.mk H
              clear H
              have hcz11_0 : wr.cell? ⟨gb158, 0, none⟩ = some (.int .i64 a0_0) := (blk_cell BK158.out 0).trans rfl
              have hcz11_1 : wr.cell? ⟨gb158, 1, none⟩ = some (.slice A0_1 l0_1.length c0_1) := (blk_cell BK158.out 1).trans rfl
              have hfz11_0 := blk_frozen BK158.out 0
              have hfz11_1 := blk_frozen BK158.out 1
              have p162 : 0 ≤ (x4_1 : Int) := of_decide_eq_true (by first | (with_reducible assumption) | assumption)
              have q162 : x4_1 < (l0_1.length : Int) := of_decide_eq_true (by first | (with_reducible assumption) | assumption)
              obtain ⟨ad162, A162_1, c162_1, e162, hx162_0, hx162_1, hl162_1, hi162_1⟩ := at_T24 (Kd.V_reads' HO_159001.out).2.2 x4_1 p162 q162
              cases e162
              obtain ⟨ce162, hce162, hMe162, hcc162⟩ := Kd.V_get HO_159001.out z24 x4_1 p162 (by first | exact q162 | exact of_decide_eq_true (by first | (with_reducible assumption) | assumption) | (have e_ := (Kd.V_reads' HO_159001.out).1; omega))
              obtain ⟨ua162_1, uc162_1, rfl, ul162_1, ge162_1⟩ := k24_openF hMe162
              have hv162_1 := hcc162 1 _ rfl
              rw [add_field _ _ 1 (by omega)] at hv162_1
              replace hv162_1 := Option.some.inj (hv162_1.symm.trans hx162_1)
              injection hv162_1 with hva_ hvn_ hvc_
              rw [hva_] at ge162_1
              rw [hvc_] at ul162_1
              have HL162_1 := Aside0.mk (show Kd.V k24 24 _ w.heap.size _ _ ((rd_T24 l0_1 x4_1).f1) from Kd.V_mk ul162_1 ge162_1)
              clear hva_ hvn_ hvc_ ge162_1 ul162_1
              clear hcc162 hce162
              have HR162_1 := Aside0.mk hi162_1
              have HC162_1 := Aside0.mk hl162_1
              clear hi162_1 hl162_1
              replace p162 := eq_true p162
              replace q162 := eq_true q162
              go_wp2_with (first | ((with_reducible refine gate_callee (f := 26) rfl ?_); refine goesL_ (some 25) rfl rfl Try.func26 (by kernel_rfl) rfl #[.agg #[.int .i64 ((rd_T24 l0_1 x4_1).f0), .slice A162_1 ((rd_T24 l0_1 x4_1).f1).length c162_1]] rfl (by (try simp only [List.map_toArray, List.map_cons, List.map_nil]); first | done | rfl | (simp only [List.length_drop, List.length_take]; rfl)) ?_; (with_reducible refine (ih k1 (by have := HK1.out; omega) ((rd_T24 l0_1 x4_1).f0) (fun k_ => ((P0_1_ k_ ∨ w.heap.size ≤ k_) ∧ (some k_ ≠ (u3 : Value).ownBlock ∧ k_ ≠ gb158))) _ _ ((rd_T24 l0_1 x4_1).f1) t163 _ ?side1 A9.out).mono ?_); (case side1 => exact HL162_1.out); rintro e w12 ⟨v164, rfl, ho0, hb⟩; refine ⟨_, rfl, ?_⟩; have n0_ := Aside0.mk (Kd.N_elder' (by (with_reducible repeat (first | apply Kd.N_alloc | apply Kd.N_drewN | apply Kd.N_drew)); exact HO_3.out) (Kd.N_base ho0) hb); have n1_ := Aside0.mk (Kd.V_elder' (by (with_reducible repeat (first | apply Kd.V_alloc | apply Kd.V_drewN | apply Kd.V_drew)); exact HO_159001.out) (Kd.N_base ho0) hb); have n2_ := Aside0.mk (Kd.V_elder' (by (with_reducible repeat (first | apply Kd.V_alloc | apply Kd.V_drewN | apply Kd.V_drew)); exact HL162_1.out) (Kd.N_base ho0) hb); have n3_ := Aside0.mk (Kd.N_lower (Kd.N_mono (ok' := fun k_ => (P0_1_ k_ ∨ w.heap.size ≤ k_) ∧ some k_ ≠ (u3 : Value).ownBlock ∧ k_ ≠ gb158) ho0 (fun k_ hk_ => ⟨Or.elim hk_ (fun hs_ => hs_.1) (fun hn_ => (.inr (Nat.le_trans (below_size (by repeat (first | (with_reducible first | exact HB.out | apply below_alloc | apply pw_below_drewN | apply below_drew1 | refine below_set ?_ GE158.out) | exact HB.out))) hn_))), Or.elim hk_ (fun hs_ => hs_.2.1) (fun hn_ => (Kd.fresh' (Kd.N_lt (by (with_reducible repeat (first | apply Kd.N_alloc | apply Kd.N_drewN | apply Kd.N_drew)); exact HO_3.out)) k_ hn_)), Or.elim hk_ (fun hs_ => hs_.2.2) (fun hn_ => (Kd.freshB (g := gb158) (o := .cells #[.int .i64 a0_0, .slice (some ad162) l0_1.length c0_1] 24 (0, 0)) (by (with_reducible repeat (first | refine blk_drewN ?_ _ | refine blk_drew ?_ | refine blk_alloc ?_ _)); exact BK158.out) k_ hn_))⟩)) (below_size (by repeat (first | (with_reducible first | exact HB.out | apply below_alloc | apply pw_below_drewN | apply below_drew1 | refine below_set ?_ GE158.out) | exact HB.out)))); have n4_ := Aside0.mk (blk_below (g := gb158) (o := .cells #[.int .i64 a0_0, .slice (some ad162) l0_1.length c0_1] 24 (0, 0)) (by (with_reducible repeat (first | refine blk_drewN ?_ _ | refine blk_drew ?_ | refine blk_alloc ?_ _)); exact BK158.out) hb); have n5_ := Aside0.mk (Kd.C_below (by repeat (first | (with_reducible exact HR162_1.out) | (with_reducible refine Kd.C_alloc ?_ _) | (with_reducible refine Kd.C_drewN ?_ _) | (with_reducible refine Kd.C_drew ?_) | exact HR162_1.out)) hb); have n6_ := Aside0.mk (below_step (by repeat (first | (with_reducible first | exact HB.out | apply below_alloc | apply pw_below_drewN | apply below_drew1 | refine below_set ?_ GE158.out) | exact HB.out)) hb); clear HO_3; clear HO_159001; clear HL162_1; clear BK158; clear HR162_1; clear HB; have HO_3 := n0_; have HO_159001 := n1_; have HL162_1 := n2_; have HO165 := n3_; have BK158 := n4_; have HR162_1 := n5_; have HB := n6_; clear n0_ n1_ n2_ n3_ n4_ n5_ n6_; (try clear hb); (try clear hb2); (try clear hk); (try clear hi); (try clear ho0); obtain ⟨Ao14, co14, eo14⟩ := Kd.N_slice HO165.out; subst eo14) | ((with_reducible refine gate_builtin (b := .append) (xs := #[.tmp 19, .tmp 25]) rfl ?_); (try (refine gate_guard (by rfl) ?_; dsimp only)); at_builtin; refine Kd.N_append_rows k24 (w0 := w) w.heap.size rfl (.tmp 19) (.tmp 25) 22 24 (.agg #[(.int .i64 0), (.slice none 0 0)]) 32 rfl Try.underlying22 info24 rfl (by decide) (by omega) u3 x3_1 t163 _ _ _ (fun k_ => (P0_1_ k_ ∨ w.heap.size ≤ k_) ∧ k_ ≠ gb158) (fun k_ => ((fun k_ => (P0_1_ k_ ∨ w.heap.size ≤ k_) ∧ k_ ≠ gb158)) k_ ∧ some k_ ≠ (u3 : Value).ownBlock) rfl rfl ?aO ?aR (fun _ hk => hk) ?aF ?aB ?aS ?aL ?_; (case aR => exact (by skip; exact Kd.N_F (Kd.N_mono (ok' := (fun k_ => ((fun k_ => (P0_1_ k_ ∨ w.heap.size ≤ k_) ∧ k_ ≠ gb158)) k_ ∧ some k_ ≠ (u3 : Value).ownBlock)) (HO165.out) (fun k_ hk => ⟨⟨hk.1, hk.2.2⟩, hk.2.1⟩)))); (case aB => exact (by repeat (first | (with_reducible first | exact HB.out | apply below_alloc | apply pw_below_drewN | apply below_drew1 | refine below_set ?_ GE158.out) | exact HB.out))); (case aF => exact (fun k_ hk => ⟨(.inr (Nat.le_trans (below_size (by repeat (first | (with_reducible first | exact HB.out | apply below_alloc | apply pw_below_drewN | apply below_drew1 | refine below_set ?_ GE158.out) | exact HB.out))) hk)), Kd.freshB (g := gb158) (o := .cells #[.int .i64 a0_0, .slice (some ad162) l0_1.length c0_1] 24 (0, 0)) (by (with_reducible repeat (first | refine blk_drewN ?_ _ | refine blk_drew ?_ | refine blk_alloc ?_ _)); exact BK158.out) k_ hk⟩)); (case aO => exact (by (with_reducible repeat (first | apply Kd.N_alloc | apply Kd.N_drewN | apply Kd.N_drew)); exact Kd.N_mono HO_3.out (fun _ hk => ⟨hk.1.1, hk.1.2⟩))); (case aS => exact (below_size (by repeat (first | (with_reducible first | exact HB.out | apply below_alloc | apply pw_below_drewN | apply below_drew1 | refine below_set ?_ GE158.out) | exact HB.out)))); (case aL => have := LMc10.out; omega); intro v167 w13 ho hb hg hat; rw [← Ny166.out] at ho; have n0_ := Aside0.mk (Kd.V_afterv (ok := (fun k_ => (P0_1_ k_ ∨ w.heap.size ≤ k_) ∧ some k_ ≠ (.slice Ao14 t163.length co14 : Value).ownBlock ∧ k_ ≠ gb158)) (by (with_reducible repeat (first | apply Kd.V_alloc | apply Kd.V_drewN | apply Kd.V_drew)); exact Kd.V_mono HO_159001.out (fun _ hk => ⟨⟨hk.1.1, ⟨hk.2, hk.1.2.2⟩⟩, hk.1.2.1⟩)) hg hat); have n1_ := Aside0.mk (blk_grown (g := gb158) (o := .cells #[.int .i64 a0_0, .slice (some ad162) l0_1.length c0_1] 24 (0, 0)) (by (with_reducible repeat (first | refine blk_drewN ?_ _ | refine blk_drew ?_ | refine blk_alloc ?_ _)); exact BK158.out) hg (Kd.N_away HO_3.out (fun _ hk => hk.1.2))); have n2_ := Aside0.mk (Kd.V_afterv (ok := (fun k_ => (P0_1_ k_ ∨ w.heap.size ≤ k_) ∧ some k_ ≠ (.slice Ao14 t163.length co14 : Value).ownBlock ∧ k_ ≠ gb158)) (by (with_reducible repeat (first | apply Kd.V_alloc | apply Kd.V_drewN | apply Kd.V_drew)); exact Kd.V_mono HL162_1.out (fun _ hk => ⟨⟨hk.1.1, ⟨hk.2, hk.1.2.2⟩⟩, hk.1.2.1⟩)) hg hat); have n3_ := Aside0.mk (Kd.N_afterv (ok := (fun k_ => (P0_1_ k_ ∨ w.heap.size ≤ k_) ∧ k_ ≠ gb158)) (by (with_reducible repeat (first | apply Kd.N_alloc | apply Kd.N_drewN | apply Kd.N_drew)); exact Kd.N_mono HO165.out (fun _ hk => ⟨⟨hk.1, hk.2.2⟩, hk.2.1⟩)) hg hat); have n4_ := Aside0.mk (hb); have n5_ := Aside0.mk (ho); clear HO_159001; clear BK158; clear HL162_1; clear HO165; clear HB; clear HO_3; have HO_159001 := n0_; have BK158 := n1_; have HL162_1 := n2_; have HO165 := n3_; have HB := n4_; have HO168 := n5_; clear n0_ n1_ n2_ n3_ n4_ n5_; clear ho hb hg hat))
              go_roundg k1
              case measure => have := HK1.out; omega
              case rel => exact ⟨(y166), (wrap64 (x4_1 + 1)), (by first | rfl | (simp; done) | (simp [*]; done)), H', ⟨by have := HK1.out; omega⟩, ⟨by (with_reducible repeat (first | apply Kd.N_alloc | apply Kd.N_drewN | apply Kd.N_drew)); exact HO168.out⟩, ⟨by (with_reducible repeat (first | apply Kd.V_alloc | apply Kd.V_drewN | apply Kd.V_drew)); exact Kd.V_mono HO_159001.out (fun _ hk => ⟨hk.1.1, ⟨hk.2, hk.1.2.2⟩⟩)⟩, ⟨by (with_reducible repeat (first | refine blk_drewN ?_ _ | refine blk_drew ?_ | refine blk_alloc ?_ _)); exact BK158.out⟩, ⟨by repeat (first | (with_reducible first | exact HB.out | apply below_alloc | apply pw_below_drewN | apply below_drew1 | refine below_set ?_ GE158.out) | exact HB.out)⟩⟩
            · rw [if_neg c10] at H
              exact absurd H (by simp)
          · rw [if_neg c8] at H
            exact absurd H (by simp)
        · rw [if_neg c7] at H
          have c7b0 : decide (x4_1 < (l0_1.length : Int)) = false := decide_eq_false c7
          clear c7
          obtain rfl := Option.some.inj H
          have hcz15_0 : wr.cell? ⟨gb158, 0, none⟩ = some (.int .i64 a0_0) := (blk_cell BK158.out 0).trans rfl
          have hcz15_1 : wr.cell? ⟨gb158, 1, none⟩ = some (.slice A0_1 l0_1.length c0_1) := (blk_cell BK158.out 1).trans rfl
          have hfz15_0 := blk_frozen BK158.out 0
          have hfz15_1 := blk_frozen BK158.out 1
          go_wp2
          go_ret
          exact ⟨_, by first | rfl | (simp [errW_none, errW_some] <;> rfl) | (simp [*, errW_none, errW_some] <;> rfl), by (with_reducible repeat (first | apply Kd.N_alloc | apply Kd.N_drewN | apply Kd.N_drew)); exact Kd.N_mono HO_3.out (fun _ hk => hk.1), by repeat (first | (with_reducible first | exact HB.out | apply below_alloc | apply pw_below_drewN | apply below_drew1 | refine below_set ?_ GE158.out) | exact HB.out)⟩
      · rw [if_neg c6] at H
        have c6b0 : decide (0 ≤ a0_0) = false := decide_eq_false c6
        clear c6
        obtain rfl := Option.some.inj H
        have hcz16_0 : wr.cell? ⟨gb158, 0, none⟩ = some (.int .i64 a0_0) := (blk_cell BK158.out 0).trans rfl
        have hcz16_1 : wr.cell? ⟨gb158, 1, none⟩ = some (.slice A0_1 l0_1.length c0_1) := (blk_cell BK158.out 1).trans rfl
        have hfz16_0 := blk_frozen BK158.out 0
        have hfz16_1 := blk_frozen BK158.out 1
        go_wp2
        go_ret
        exact ⟨_, by first | rfl | (simp [errW_none, errW_some] <;> rfl) | (simp [*, errW_none, errW_some] <;> rfl), by (with_reducible repeat (first | apply Kd.N_alloc | apply Kd.N_drewN | apply Kd.N_drew)); exact Kd.N_mono HO_3.out (fun _ hk => hk.1), by repeat (first | (with_reducible first | exact HB.out | apply below_alloc | apply pw_below_drewN | apply below_drew1 | refine below_set ?_ GE158.out) | exact HB.out)⟩
end Go.Proofs.Ytpfddihcikiofaa.P
end

section
namespace Go.Proofs.Ytpfddihcikiofaa.P
open Go.RowKit Go.Proofs.YtpfddihcikiofaaW.PrintWords Go.Proofs.YtpfddihcikiofaaW.PrintLast Go.Proofs.YtpfddihcikiofaaW.PrintMore
attribute [local go_sem] max2_int min2_int max_two min_two max_three min_three max_four min_four
set_option linter.unusedVariables false
set_option linter.unusedSimpArgs false
mutual
def soritesref06_Vars.l0 : Nat → List (S24) → List Int → Int → Option (List Int)
  | 0, _, _, _ => none
  | k + 1, x3, x4, x5 => if x5 < (x3.length : Int) then (if 0 ≤ x5 then (if ((rd_T24 x3 x5).f0) ≥ 0 then (soritesref06_Vars.l0 k x3 x4 (wrap64 (x5 + 1))) else (soritesref06_Vars.l1 k x3 x4 x5 (wrap64 ((-1) - ((rd_T24 x3 x5).f0))) false 0)) else (none)) else (some x4)
def soritesref06_Vars.l1 : Nat → List (S24) → List Int → Int → Int → Bool → Int → Option (List Int)
  | 0, _, _, _, _, _, _ => none
  | k + 1, x3, x4, x5, x6, x7, x8 => if x8 < (x4.length : Int) then (if x7 = true then (soritesref06_Vars.l1 k x3 x4 x5 x6 true (wrap64 (x8 + 1))) else (if 0 ≤ x8 then (soritesref06_Vars.l1 k x3 x4 x5 x6 ((rd x4 x8) == x6) (wrap64 (x8 + 1))) else (none))) else (if x7 = true then (soritesref06_Vars.l0 k x3 x4 (wrap64 (x5 + 1))) else (if x4.length < 17592186044416 then (soritesref06_Vars.l0 k x3 (x4 ++ [x6]) (wrap64 (x5 + 1))) else (none)))
end
def soritesref06_Vars.f (k : Nat) (a0_0 : Int) (l0_1 : List (S24)) : Option (List Int) := (soritesref06_Flat.f k a0_0 l0_1).bind fun t298 => (soritesref06_Vars.l0 k t298 ([] : List Int) 0)
set_option maxHeartbeats 8000000 in
set_option maxRecDepth 100000 in
theorem soritesref06_Vars.calls (k : Nat) (a0_0 : Int) (A0_1 : Option Addr) (c0_1 : Nat) (l0_1 : List (S24)) (r : List Int) (w : World) (hr0_1 : Kd.C k24 w A0_1 l0_1.length l0_1) (hc0_1 : l0_1.length ≤ c0_1) (h : soritesref06_Vars.f k a0_0 l0_1 = some r) :
    Calls Try.prog 48 #[.agg #[.int .i64 a0_0, .slice A0_1 l0_1.length c0_1]] w fun e w' => ∃ v0_ : Value, e = .returned (v0_) ∧ Kd.R (Kd.int .i64) 3 w' w.heap.size (fun _ => True) v0_ r ∧ Below w.heap.size w w' := by
  have hu24 := Try.underlying24
  have HR0_1 := Aside0.mk hr0_1
  have HC0_1 := Aside0.mk hc0_1
  clear hr0_1 hc0_1
  have HB := Aside0.mk (Below.refl w.heap.size w)
  have H : ((soritesref06_Flat.f k a0_0 l0_1).bind fun t298 => (soritesref06_Vars.l0 k t298 ([] : List Int) 0)) = some r := h
  clear h
  replace H := Option.bind_eq_some_iff.mp H
  obtain ⟨t298, A20, H⟩ := H
  replace H : (soritesref06_Vars.l0 k t298 ([] : List Int) 0) = some r := H
  have A2 := Aside0.mk A20
  clear A20
  have H' := Aside0.mk H
  clear H
  go_enter Try.func48, Try.ntmps48
  go_wp2_with (first | ((with_reducible refine gate_dst (N := 1) rfl ?_); refine box_event ?hg (N := 1) ?hd (cs := #[.int .i64 a0_0, .slice A0_1 l0_1.length c0_1]) (t := 24) ?hr ?_; (case hd => rfl); (case hg => rfl); (case hr => first | (go_simp; done) | (go_simp; rfl)); intro gb297 hg w3 hbox hb; have n0_ := Aside0.mk (below_step (by repeat (first | (with_reducible first | exact HB.out | apply below_alloc | apply pw_below_drewN | apply below_drew1) | exact HB.out)) hb); have n1_ := Aside0.mk (hbox); have n2_ := Aside0.mk ((by rw [hg]; exact (below_size (by repeat (first | (with_reducible first | exact HB.out | apply below_alloc | apply pw_below_drewN | apply below_drew1) | exact HB.out))) : w.heap.size ≤ gb297)); have n3_ := Aside0.mk ((by rw [hg]; exact (below_size (by repeat (first | (with_reducible first | exact HB.out | apply below_alloc | apply pw_below_drewN | apply below_drew1) | exact HB.out))) : w.heap.size ≤ gb297)); clear HB; have HB := n0_; have BK297 := n1_; have GW297 := n2_; have GE297 := n3_; clear n0_ n1_ n2_ n3_; clear hb hbox hg; have hcz4_0 : w3.cell? ⟨gb297, 0, none⟩ = some (.int .i64 a0_0) := (blk_cell BK297.out 0).trans rfl; have hcz4_1 : w3.cell? ⟨gb297, 1, none⟩ = some (.slice A0_1 l0_1.length c0_1) := (blk_cell BK297.out 1).trans rfl; have hfz4_0 := blk_frozen BK297.out 0; have hfz4_1 := blk_frozen BK297.out 1) | ((with_reducible refine gate_callee (f := 26) rfl ?_); refine goesL_ (some 10) rfl rfl Try.func26 (by kernel_rfl) rfl #[.agg #[.int .i64 a0_0, .slice A0_1 l0_1.length c0_1]] rfl (by (try simp only [List.map_toArray, List.map_cons, List.map_nil]); first | done | rfl | (simp only [List.length_drop, List.length_take]; rfl)) ?_; (with_reducible refine (soritesref06_Flat.calls k a0_0 (fun k_ => k_ < w.heap.size) _ _ l0_1 t298 _ ?side1 A2.out).mono ?_); (case side1 => exact Kd.V_mk HC0_1.out (Kd.F_below (Kd.C_F k24_heap HR0_1.out) (by repeat (first | (with_reducible first | exact HB.out | apply below_alloc | apply pw_below_drewN | apply below_drew1 | refine below_set ?_ GE297.out) | exact HB.out)))); rintro e w5 ⟨v299, rfl, ho0, hb⟩; refine ⟨_, rfl, ?_⟩; have n0_ := Aside0.mk (Kd.N_lower (Kd.N_mono (ok' := fun k_ => k_ ≠ gb297) ho0 (fun k_ hk_ => Or.elim hk_ (fun hs_ => fun e_ => Nat.not_le.2 hs_ (by rw [e_]; exact GW297.out)) (fun hn_ => (Kd.freshB (g := gb297) (o := .cells #[.int .i64 a0_0, .slice A0_1 l0_1.length c0_1] 24 (0, 0)) (by (with_reducible repeat (first | refine blk_drewN ?_ _ | refine blk_drew ?_ | refine blk_alloc ?_ _)); exact BK297.out) k_ hn_)))) (below_size (by repeat (first | (with_reducible first | exact HB.out | apply below_alloc | apply pw_below_drewN | apply below_drew1 | refine below_set ?_ GE297.out) | exact HB.out)))); have n1_ := Aside0.mk (blk_below (g := gb297) (o := .cells #[.int .i64 a0_0, .slice A0_1 l0_1.length c0_1] 24 (0, 0)) (by (with_reducible repeat (first | refine blk_drewN ?_ _ | refine blk_drew ?_ | refine blk_alloc ?_ _)); exact BK297.out) hb); have n2_ := Aside0.mk (below_step (by repeat (first | (with_reducible first | exact HB.out | apply below_alloc | apply pw_below_drewN | apply below_drew1 | refine below_set ?_ GE297.out) | exact HB.out)) hb); clear BK297; clear HB; have HO300 := n0_; have BK297 := n1_; have HB := n2_; clear n0_ n1_ n2_; (try clear hb); (try clear hb2); (try clear hk); (try clear hi); (try clear ho0)))
  go_loopg [4, 5] k (fun kq v4 v5 w' => ∃ (x4_1 : List Int) (x5_1 : Int), v5 = .int .i64 x5_1 ∧ Aside0 (soritesref06_Vars.l0 kq t298 x4_1 x5_1 = some r) ∧ Aside0 (kq ≤ k) ∧ Aside0 (Kd.N k24 24 w' w.heap.size (fun k_ => some k_ ≠ (v4 : Value).ownBlock ∧ k_ ≠ gb297) v299 t298) ∧ Aside0 (Kd.R (Kd.int .i64) 3 w' w.heap.size (fun _ => True) v4 x4_1) ∧ Aside0 (w'.heap[gb297]? = some (.cells #[.int .i64 a0_0, (.slice A0_1 l0_1.length c0_1)] 24 (0, 0))) ∧ Aside0 (Below w.heap.size w w'))
  case atStart => exact ⟨(([] : List Int)), (0), (by first | rfl | (simp; done) | (simp [*]; done)), H', ⟨Nat.le_refl _⟩, ⟨by (with_reducible repeat (first | apply Kd.N_alloc | apply Kd.N_drewN | apply Kd.N_drew)); exact Kd.N_mono HO300.out (fun _ hk => ⟨(by simp [Value.ownBlock]), hk⟩)⟩, ⟨by first | exact Kd.R_nil _ _ _ _ _ | exact Kd.N_nil _ _ _ _ _ | exact Kd.V_nil _ _ _ _ _ | exact Kd.Q_nil _ _ _ _ _ | exact Kd.S_nil _ _ _ _ _⟩, ⟨by (with_reducible repeat (first | refine blk_drewN ?_ _ | refine blk_drew ?_ | refine blk_alloc ?_ _)); exact BK297.out⟩, ⟨by repeat (first | (with_reducible first | exact HB.out | apply below_alloc | apply pw_below_drewN | apply below_drew1 | refine below_set ?_ GE297.out) | exact HB.out)⟩⟩
  case round =>
    clear H'
    try clear c2
    try clear p2
    try clear c4
    try clear hcz4_0
    try clear hcz4_1
    try clear hfz4_0
    try clear hfz4_1
    obtain ⟨x4_1, x5_1, rfl, HA, HK1, HO_3, HO_4, BK297, HB⟩ := hrel
    cases gk with
    | zero => exact absurd HA.out (by simp [soritesref06_Vars.l0])
    | succ k1 =>
      have H := HA.out
      clear HA
      simp only [soritesref06_Vars.l0] at H
      by_cases c6 : x5_1 < (t298.length : Int)
      · rw [if_pos c6] at H
        have c6b0 : decide (x5_1 < (t298.length : Int)) = true := decide_eq_true c6
        clear c6
        by_cases c7 : 0 ≤ x5_1
        · rw [if_pos c7] at H
          have c7b0 : decide (0 ≤ x5_1) = true := decide_eq_true c7
          clear c7
          by_cases c8 : ((rd_T24 t298 x5_1).f0) ≥ 0
          · rw [if_pos c8] at H
            have c8b0 : decide (0 ≤ ((rd_T24 t298 x5_1).f0)) = true := decide_eq_true c8
            clear c8
            have H' := Aside0.mk H
            clear H
            obtain ⟨Ao9, co9, eo9⟩ := Kd.N_slice HO_3.out
            subst eo9
            have p301 : 0 ≤ (x5_1 : Int) := of_decide_eq_true (by first | (with_reducible assumption) | assumption)
            have q301 : x5_1 < (t298.length : Int) := of_decide_eq_true (by first | (with_reducible assumption) | assumption)
            obtain ⟨ad301, A301_1, c301_1, e301, hx301_0, hx301_1, hl301_1, hi301_1⟩ := at_T24 (Kd.N_reads' HO_3.out).2.2 x5_1 p301 q301
            cases e301
            obtain ⟨ce301, hce301, hMe301, hcc301⟩ := Kd.N_get HO_3.out z24 x5_1 p301 (by first | exact q301 | exact of_decide_eq_true (by first | (with_reducible assumption) | assumption) | (have e_ := (Kd.N_reads' HO_3.out).1; omega))
            obtain ⟨ua301_1, uc301_1, rfl, ul301_1, ge301_1⟩ := k24_openF hMe301
            have hv301_1 := hcc301 1 _ rfl
            rw [add_field _ _ 1 (by omega)] at hv301_1
            replace hv301_1 := Option.some.inj (hv301_1.symm.trans hx301_1)
            injection hv301_1 with hva_ hvn_ hvc_
            rw [hva_] at ge301_1
            rw [hvc_] at ul301_1
            have HL301_1 := Aside0.mk (show Kd.V k24 24 _ w.heap.size _ _ ((rd_T24 t298 x5_1).f1) from Kd.V_mk ul301_1 ge301_1)
            clear hva_ hvn_ hvc_ ge301_1 ul301_1
            clear hcc301 hce301
            have HR301_1 := Aside0.mk hi301_1
            have HC301_1 := Aside0.mk hl301_1
            clear hi301_1 hl301_1
            replace p301 := eq_true p301
            replace q301 := eq_true q301
            go_wp2
            go_roundg k1
            case measure => have := HK1.out; omega
            case rel => exact ⟨(x4_1), (wrap64 (x5_1 + 1)), (by first | rfl | (simp; done) | (simp [*]; done)), H', ⟨by have := HK1.out; omega⟩, ⟨by (with_reducible repeat (first | apply Kd.N_alloc | apply Kd.N_drewN | apply Kd.N_drew)); exact HO_3.out⟩, ⟨by (with_reducible repeat (first | apply Kd.R_alloc | apply Kd.R_drewN | apply Kd.R_drew)); exact HO_4.out⟩, ⟨by (with_reducible repeat (first | refine blk_drewN ?_ _ | refine blk_drew ?_ | refine blk_alloc ?_ _)); exact BK297.out⟩, ⟨by repeat (first | (with_reducible first | exact HB.out | apply below_alloc | apply pw_below_drewN | apply below_drew1 | refine below_set ?_ GE297.out) | exact HB.out)⟩⟩
          · rw [if_neg c8] at H
            have c8b0 : decide (0 ≤ ((rd_T24 t298 x5_1).f0)) = false := decide_eq_false c8
            clear c8
            have H' := Aside0.mk H
            clear H
            obtain ⟨Ao10, co10, eo10⟩ := Kd.N_slice HO_3.out
            subst eo10
            have p301 : 0 ≤ (x5_1 : Int) := of_decide_eq_true (by first | (with_reducible assumption) | assumption)
            have q301 : x5_1 < (t298.length : Int) := of_decide_eq_true (by first | (with_reducible assumption) | assumption)
            obtain ⟨ad301, A301_1, c301_1, e301, hx301_0, hx301_1, hl301_1, hi301_1⟩ := at_T24 (Kd.N_reads' HO_3.out).2.2 x5_1 p301 q301
            cases e301
            obtain ⟨ce301, hce301, hMe301, hcc301⟩ := Kd.N_get HO_3.out z24 x5_1 p301 (by first | exact q301 | exact of_decide_eq_true (by first | (with_reducible assumption) | assumption) | (have e_ := (Kd.N_reads' HO_3.out).1; omega))
            obtain ⟨ua301_1, uc301_1, rfl, ul301_1, ge301_1⟩ := k24_openF hMe301
            have hv301_1 := hcc301 1 _ rfl
            rw [add_field _ _ 1 (by omega)] at hv301_1
            replace hv301_1 := Option.some.inj (hv301_1.symm.trans hx301_1)
            injection hv301_1 with hva_ hvn_ hvc_
            rw [hva_] at ge301_1
            rw [hvc_] at ul301_1
            have HL301_1 := Aside0.mk (show Kd.V k24 24 _ w.heap.size _ _ ((rd_T24 t298 x5_1).f1) from Kd.V_mk ul301_1 ge301_1)
            clear hva_ hvn_ hvc_ ge301_1 ul301_1
            clear hcc301 hce301
            have HR301_1 := Aside0.mk hi301_1
            have HC301_1 := Aside0.mk hl301_1
            clear hi301_1 hl301_1
            replace p301 := eq_true p301
            replace q301 := eq_true q301
            have p302 : 0 ≤ (x5_1 : Int) := of_decide_eq_true (by first | (with_reducible assumption) | assumption)
            have q302 : x5_1 < (t298.length : Int) := of_decide_eq_true (by first | (with_reducible assumption) | assumption)
            obtain ⟨ad302, A302_1, c302_1, e302, hx302_0, hx302_1, hl302_1, hi302_1⟩ := at_T24 (Kd.N_reads' HO_3.out).2.2 x5_1 p302 q302
            obtain rfl : ad301 = ad302 := (by injection e302)
            obtain ⟨ce302, hce302, hMe302, hcc302⟩ := Kd.N_get HO_3.out z24 x5_1 p302 (by first | exact q302 | exact of_decide_eq_true (by first | (with_reducible assumption) | assumption) | (have e_ := (Kd.N_reads' HO_3.out).1; omega))
            obtain ⟨ua302_1, uc302_1, rfl, ul302_1, ge302_1⟩ := k24_openF hMe302
            have hv302_1 := hcc302 1 _ rfl
            rw [add_field _ _ 1 (by omega)] at hv302_1
            replace hv302_1 := Option.some.inj (hv302_1.symm.trans hx302_1)
            injection hv302_1 with hva_ hvn_ hvc_
            rw [hva_] at ge302_1
            rw [hvc_] at ul302_1
            have HL302_1 := Aside0.mk (show Kd.V k24 24 _ w.heap.size _ _ ((rd_T24 t298 x5_1).f1) from Kd.V_mk ul302_1 ge302_1)
            clear hva_ hvn_ hvc_ ge302_1 ul302_1
            clear hcc302 hce302
            have HR302_1 := Aside0.mk hi302_1
            have HC302_1 := Aside0.mk hl302_1
            clear hi302_1 hl302_1
            replace p302 := eq_true p302
            replace q302 := eq_true q302
            have ea_ := Option.some.inj (hx301_1.symm.trans hx302_1)
            injection ea_ with ea_ en_ ec_
            subst ea_
            subst ec_
            clear en_
            go_wp2
            go_loopg [7, 8] k1 (fun kq v7 v8 w' => ∃ (x7_2 : Bool) (x8_2 : Int), v7 = .bool x7_2 ∧ v8 = .int .i64 x8_2 ∧ Aside0 (soritesref06_Vars.l1 kq t298 x4_1 x5_1 (wrap64 ((-1) - ((rd_T24 t298 x5_1).f0))) x7_2 x8_2 = some r) ∧ Aside0 (kq ≤ k1) ∧ Aside0 (Kd.N k24 24 w' w.heap.size (fun k_ => some k_ ≠ (u4 : Value).ownBlock ∧ k_ ≠ gb297) (.slice (some ad301) t298.length co10) t298) ∧ Aside0 (Kd.R (Kd.int .i64) 3 w' w.heap.size (fun _ => True) u4 x4_1) ∧ Aside0 (w'.heap[gb297]? = some (.cells #[.int .i64 a0_0, (.slice A0_1 l0_1.length c0_1)] 24 (0, 0))) ∧ Aside0 (Kd.C k24 w' A301_1 ((rd_T24 t298 x5_1).f1).length ((rd_T24 t298 x5_1).f1)) ∧ Aside0 (Kd.C k24 w' A301_1 ((rd_T24 t298 x5_1).f1).length ((rd_T24 t298 x5_1).f1)) ∧ Aside0 (Below w.heap.size w w'))
            case atStart => exact ⟨(false), (0), (by first | rfl | (simp; done) | (simp [*]; done)), (by first | rfl | (simp; done) | (simp [*]; done)), H', ⟨Nat.le_refl _⟩, ⟨by (with_reducible repeat (first | apply Kd.N_alloc | apply Kd.N_drewN | apply Kd.N_drew)); exact HO_3.out⟩, ⟨by (with_reducible repeat (first | apply Kd.R_alloc | apply Kd.R_drewN | apply Kd.R_drew)); exact HO_4.out⟩, ⟨by (with_reducible repeat (first | refine blk_drewN ?_ _ | refine blk_drew ?_ | refine blk_alloc ?_ _)); exact BK297.out⟩, ⟨by repeat (first | (with_reducible exact HR301_1.out) | (with_reducible refine Kd.C_alloc ?_ _) | (with_reducible refine Kd.C_drewN ?_ _) | (with_reducible refine Kd.C_drew ?_) | exact HR301_1.out)⟩, ⟨by repeat (first | (with_reducible exact HR302_1.out) | (with_reducible refine Kd.C_alloc ?_ _) | (with_reducible refine Kd.C_drewN ?_ _) | (with_reducible refine Kd.C_drew ?_) | exact HR302_1.out)⟩, ⟨by repeat (first | (with_reducible first | exact HB.out | apply below_alloc | apply pw_below_drewN | apply below_drew1 | refine below_set ?_ GE297.out) | exact HB.out)⟩⟩
            case round =>
              clear H'
              try clear c2
              try clear p2
              try clear c3
              try clear p3
              try clear q3
              try clear hx3
              try clear c4
              try clear c6
              try clear c6b0
              try clear p6
              try clear c7
              try clear c7b0
              try clear c8
              try clear c8b0
              try clear hcz4_0
              try clear hcz4_1
              try clear hfz4_0
              try clear hfz4_1
              try clear hx301_0
              try clear hx301_1
              try clear hx302_0
              try clear hx302_1
              try clear p2
              try clear p301
              try clear p302
              try clear q301
              try clear q302
              obtain ⟨x7_2, x8_2, rfl, rfl, HA, HK2, HO_3, HO_4, BK297, HR301_1, HR302_1, HB⟩ := hrel
              cases gk with
              | zero => exact absurd HA.out (by simp [soritesref06_Vars.l1])
              | succ k2 =>
                have H := HA.out
                clear HA
                simp only [soritesref06_Vars.l1] at H
                by_cases c11 : x8_2 < (x4_1.length : Int)
                · rw [if_pos c11] at H
                  have c11b0 : decide (x8_2 < (x4_1.length : Int)) = true := decide_eq_true c11
                  clear c11
                  by_cases c12 : x7_2 = true
                  · subst c12
                    have H1 : (soritesref06_Vars.l1 k2 t298 x4_1 x5_1 (wrap64 ((-1) - ((rd_T24 t298 x5_1).f0))) true (wrap64 (x8_2 + 1))) = some r := by rw [if_pos rfl] at H; exact H
                    clear H
                    have H := H1
                    clear H1
                    have H' := Aside0.mk H
                    clear H
                    obtain ⟨Ao13, co13, eo13⟩ := Kd.R_slice HO_4.out
                    subst eo13
                    go_wp2
                    go_roundg k2
                    case measure => have := HK1.out; have := HK2.out; omega
                    case rel => exact ⟨(true), (wrap64 (x8_2 + 1)), (by first | rfl | (simp; done) | (simp [*]; done)), (by first | rfl | (simp; done) | (simp [*]; done)), H', ⟨by have := HK1.out; have := HK2.out; omega⟩, ⟨by (with_reducible repeat (first | apply Kd.N_alloc | apply Kd.N_drewN | apply Kd.N_drew)); exact HO_3.out⟩, ⟨by (with_reducible repeat (first | apply Kd.R_alloc | apply Kd.R_drewN | apply Kd.R_drew)); exact HO_4.out⟩, ⟨by (with_reducible repeat (first | refine blk_drewN ?_ _ | refine blk_drew ?_ | refine blk_alloc ?_ _)); exact BK297.out⟩, ⟨by repeat (first | (with_reducible exact HR301_1.out) | (with_reducible refine Kd.C_alloc ?_ _) | (with_reducible refine Kd.C_drewN ?_ _) | (with_reducible refine Kd.C_drew ?_) | exact HR301_1.out)⟩, ⟨by repeat (first | (with_reducible exact HR302_1.out) | (with_reducible refine Kd.C_alloc ?_ _) | (with_reducible refine Kd.C_drewN ?_ _) | (with_reducible refine Kd.C_drew ?_) | exact HR302_1.out)⟩, ⟨by repeat (first | (with_reducible first | exact HB.out | apply below_alloc | apply pw_below_drewN | apply below_drew1 | refine below_set ?_ GE297.out) | exact HB.out)⟩⟩
                  · replace c12 := Bool.eq_false_iff.mpr c12
                    subst c12
                    have H1 : (if 0 ≤ x8_2 then (soritesref06_Vars.l1 k2 t298 x4_1 x5_1 (wrap64 ((-1) - ((rd_T24 t298 x5_1).f0))) ((rd x4_1 x8_2) == (wrap64 ((-1) - ((rd_T24 t298 x5_1).f0)))) (wrap64 (x8_2 + 1))) else (none)) = some r := by rw [if_neg (show ¬ (false = true) by decide)] at H; exact H
                    clear H
                    have H := H1
                    clear H1
                    by_cases c14 : 0 ≤ x8_2
                    · rw [if_pos c14] at H
                      have c14b0 : decide (0 ≤ x8_2) = true := decide_eq_true c14
                      clear c14
                      have H' := Aside0.mk H
                      clear H
                      obtain ⟨Ao15, co15, eo15⟩ := Kd.R_slice HO_4.out
                      subst eo15
                      have p303 : 0 ≤ (x8_2 : Int) := of_decide_eq_true (by first | (with_reducible assumption) | assumption)
                      have q303 : x8_2 < (x4_1.length : Int) := of_decide_eq_true (by first | (with_reducible assumption) | assumption)
                      obtain ⟨ad303, e303, hx303_0⟩ := Kd.at_int (Kd.R_reads' HO_4.out).2.2 x8_2 p303 q303
                      cases e303
                      replace p303 := eq_true p303
                      replace q303 := eq_true q303
                      go_wp2
                      go_roundg k2
                      case measure => have := HK1.out; have := HK2.out; omega
                      case rel => exact ⟨(((rd x4_1 x8_2) == (wrap64 ((-1) - ((rd_T24 t298 x5_1).f0))))), (wrap64 (x8_2 + 1)), (by first | rfl | (simp; done) | (simp [*]; done)), (by first | rfl | (simp; done) | (simp [*]; done)), H', ⟨by have := HK1.out; have := HK2.out; omega⟩, ⟨by (with_reducible repeat (first | apply Kd.N_alloc | apply Kd.N_drewN | apply Kd.N_drew)); exact HO_3.out⟩, ⟨by (with_reducible repeat (first | apply Kd.R_alloc | apply Kd.R_drewN | apply Kd.R_drew)); exact HO_4.out⟩, ⟨by (with_reducible repeat (first | refine blk_drewN ?_ _ | refine blk_drew ?_ | refine blk_alloc ?_ _)); exact BK297.out⟩, ⟨by repeat (first | (with_reducible exact HR301_1.out) | (with_reducible refine Kd.C_alloc ?_ _) | (with_reducible refine Kd.C_drewN ?_ _) | (with_reducible refine Kd.C_drew ?_) | exact HR301_1.out)⟩, ⟨by repeat (first | (with_reducible exact HR302_1.out) | (with_reducible refine Kd.C_alloc ?_ _) | (with_reducible refine Kd.C_drewN ?_ _) | (with_reducible refine Kd.C_drew ?_) | exact HR302_1.out)⟩, ⟨by repeat (first | (with_reducible first | exact HB.out | apply below_alloc | apply pw_below_drewN | apply below_drew1 | refine below_set ?_ GE297.out) | exact HB.out)⟩⟩
                    · rw [if_neg c14] at H
                      exact absurd H (by simp)
                · rw [if_neg c11] at H
                  have c11b0 : decide (x8_2 < (x4_1.length : Int)) = false := decide_eq_false c11
                  clear c11
                  by_cases c16 : x7_2 = true
                  · subst c16
                    have H1 : (soritesref06_Vars.l0 k2 t298 x4_1 (wrap64 (x5_1 + 1))) = some r := by rw [if_pos rfl] at H; exact H
                    clear H
                    have H := H1
                    clear H1
                    have H' := Aside0.mk H
                    clear H
                    obtain ⟨Ao17, co17, eo17⟩ := Kd.R_slice HO_4.out
                    subst eo17
                    go_wp2
                    go_roundg k2
                    case measure => have := HK1.out; have := HK2.out; omega
                    case rel => exact ⟨(x4_1), (wrap64 (x5_1 + 1)), (by first | rfl | (simp; done) | (simp [*]; done)), H', ⟨by have := HK1.out; have := HK2.out; omega⟩, ⟨by (with_reducible repeat (first | apply Kd.N_alloc | apply Kd.N_drewN | apply Kd.N_drew)); exact HO_3.out⟩, ⟨by (with_reducible repeat (first | apply Kd.R_alloc | apply Kd.R_drewN | apply Kd.R_drew)); exact HO_4.out⟩, ⟨by (with_reducible repeat (first | refine blk_drewN ?_ _ | refine blk_drew ?_ | refine blk_alloc ?_ _)); exact BK297.out⟩, ⟨by repeat (first | (with_reducible first | exact HB.out | apply below_alloc | apply pw_below_drewN | apply below_drew1 | refine below_set ?_ GE297.out) | exact HB.out)⟩⟩
                  · replace c16 := Bool.eq_false_iff.mpr c16
                    subst c16
                    have H1 : (if x4_1.length < 17592186044416 then (soritesref06_Vars.l0 k2 t298 (x4_1 ++ [(wrap64 ((-1) - ((rd_T24 t298 x5_1).f0)))]) (wrap64 (x5_1 + 1))) else (none)) = some r := by rw [if_neg (show ¬ (false = true) by decide)] at H; exact H
                    clear H
                    have H := H1
                    clear H1
                    by_cases c18 : x4_1.length < 17592186044416
                    · rw [if_pos c18] at H
                      have LMc18 := Aside0.mk c18
                      clear c18
                      obtain ⟨y304, hy304⟩ : ∃ y_ : List Int, y_ = (x4_1 ++ [(wrap64 ((-1) - ((rd_T24 t298 x5_1).f0)))]) := ⟨_, rfl⟩
                      replace H : (soritesref06_Vars.l0 k2 t298 y304 (wrap64 (x5_1 + 1))) = some r := by first | (rw [hy304]; with_reducible exact H) | (have H2_ := (Option.bind_some _ _).symm.trans H; rw [hy304]; with_reducible exact H2_) | (have H2_ := (Option.bind_some _ _).symm.trans H; with_reducible exact H2_) | with_reducible exact H | (rw [hy304]; exact H) | exact H
                      have Ny304 := Aside0.mk hy304
                      clear hy304
                      have H' := Aside0.mk H
                      clear H
                      obtain ⟨Ao19, co19, eo19⟩ := Kd.R_slice HO_4.out
                      subst eo19
                      go_wp2_with (first | ((with_reducible refine gate_builtin (b := .append) (xs := #[.tmp 46, .tmp 48]) rfl ?_); at_builtin; refine Kd.R_append (Kd.int .i64) (w0 := w) w.heap.size rfl (.tmp 46) (.tmp 48) 25 3 (.int .i64 0) 8 rfl Try.underlying25 info3 rfl (by decide) (by omega) (.slice Ao19 x4_1.length co19) x4_1 (wrap64 ((-1) - ((rd_T24 t298 x5_1).f0))) [.int .i64 (wrap64 ((-1) - ((rd_T24 t298 x5_1).f0)))] (fun _ => True) (fun _ => False) rfl rfl ?aP (fun _ hk => hk.elim) ?aF ?aO ?aB ?aS ?aL ?_; (case aP => exact rfl); (case aB => exact (by repeat (first | (with_reducible first | exact HB.out | apply below_alloc | apply pw_below_drewN | apply below_drew1 | refine below_set ?_ GE297.out) | exact HB.out))); (case aF => exact (fun _ _ => trivial)); (case aO => exact (by (with_reducible repeat (first | apply Kd.R_alloc | apply Kd.R_drewN | apply Kd.R_drew)); exact HO_4.out)); (case aS => exact (below_size (by repeat (first | (with_reducible first | exact HB.out | apply below_alloc | apply pw_below_drewN | apply below_drew1 | refine below_set ?_ GE297.out) | exact HB.out)))); (case aL => have := LMc18.out; omega); intro v305 w20 ho hb hg hat; rw [← Ny304.out] at ho; have n0_ := Aside0.mk (Kd.N_afterv (ok := (fun k_ => k_ ≠ gb297)) (by (with_reducible repeat (first | apply Kd.N_alloc | apply Kd.N_drewN | apply Kd.N_drew)); exact Kd.N_mono HO_3.out (fun _ hk => ⟨hk.2, hk.1⟩)) hg hat); have n1_ := Aside0.mk (blk_grown (g := gb297) (o := .cells #[.int .i64 a0_0, .slice A0_1 l0_1.length c0_1] 24 (0, 0)) (by (with_reducible repeat (first | refine blk_drewN ?_ _ | refine blk_drew ?_ | refine blk_alloc ?_ _)); exact BK297.out) hg (Kd.R_ne HO_4.out BK297.out (by decide))); have n2_ := Aside0.mk (hb); have n3_ := Aside0.mk (ho); clear HO_3; clear BK297; clear HB; clear HO_4; have HO_3 := n0_; have BK297 := n1_; have HB := n2_; have HO306 := n3_; clear n0_ n1_ n2_ n3_; clear ho hb hg hat))
                      go_roundg k2
                      case measure => have := HK1.out; have := HK2.out; omega
                      case rel => exact ⟨(y304), (wrap64 (x5_1 + 1)), (by first | rfl | (simp; done) | (simp [*]; done)), H', ⟨by have := HK1.out; have := HK2.out; omega⟩, ⟨by (with_reducible repeat (first | apply Kd.N_alloc | apply Kd.N_drewN | apply Kd.N_drew)); exact Kd.N_mono HO_3.out (fun _ hk => ⟨hk.2, hk.1⟩)⟩, ⟨by (with_reducible repeat (first | apply Kd.R_alloc | apply Kd.R_drewN | apply Kd.R_drew)); exact HO306.out⟩, ⟨by (with_reducible repeat (first | refine blk_drewN ?_ _ | refine blk_drew ?_ | refine blk_alloc ?_ _)); exact BK297.out⟩, ⟨by repeat (first | (with_reducible first | exact HB.out | apply below_alloc | apply pw_below_drewN | apply below_drew1 | refine below_set ?_ GE297.out) | exact HB.out)⟩⟩
                    · rw [if_neg c18] at H
                      exact absurd H (by simp)
        · rw [if_neg c7] at H
          exact absurd H (by simp)
      · rw [if_neg c6] at H
        have c6b0 : decide (x5_1 < (t298.length : Int)) = false := decide_eq_false c6
        clear c6
        obtain rfl := Option.some.inj H
        obtain ⟨Ao21, co21, eo21⟩ := Kd.N_slice HO_3.out
        subst eo21
        go_wp2
        go_ret
        exact ⟨_, by first | rfl | (simp [errW_none, errW_some] <;> rfl) | (simp [*, errW_none, errW_some] <;> rfl), by (with_reducible repeat (first | apply Kd.R_alloc | apply Kd.R_drewN | apply Kd.R_drew)); exact HO_4.out, by repeat (first | (with_reducible first | exact HB.out | apply below_alloc | apply pw_below_drewN | apply below_drew1 | refine below_set ?_ GE297.out) | exact HB.out)⟩
end Go.Proofs.Ytpfddihcikiofaa.P
end

section
namespace Go.Proofs.Ytpfddihcikiofaa.P
open Go.RowKit Go.Proofs.YtpfddihcikiofaaW.PrintWords Go.Proofs.YtpfddihcikiofaaW.PrintLast Go.Proofs.YtpfddihcikiofaaW.PrintMore
set_option linter.unusedVariables false
set_option linter.unusedSimpArgs false
def fit (t : S30) : Prop := (nodes t).length ≤ 1000000 ∧ SmallN t
theorem nodes_pos (t : S30) : 1 ≤ (nodes t).length := by
  obtain ⟨f, l⟩ := t
  simp [nodes]
theorem nodess_len_le : ∀ l : List S30, l.length ≤ (nodess l).length
  | [] => by simp
  | x :: r => by
    have := nodes_pos x
    have := nodess_len_le r
    simp only [nodess, List.length_append, List.length_cons]
    omega
theorem nodess_one_le {l : List S30} {x : S30} (h : x ∈ l) : (nodes x).length ≤ (nodess l).length := by
  induction l with
  | nil => cases h
  | cons z l ih =>
    rw [nodess, List.length_append]
    rcases List.mem_cons.1 h with rfl | h
    · omega
    · have := ih h; omega
theorem fit_sub {f : Int} {l : List S30} (hf : ¬ f < 0) (h : fit ⟨f, l⟩) : l.length ≤ 1000000 ∧ ∀ x ∈ l, fit x := by
  have hn : nodes ⟨f, l⟩ = ⟨f, l⟩ :: nodess l := by simp [nodes, hf]
  have h1 := h.1
  rw [hn, List.length_cons] at h1
  refine ⟨by have := nodess_len_le l; omega, fun x hx => ⟨by have := nodess_one_le hx; omega, fun y hy => h.2 y (by rw [hn]; exact List.mem_cons_of_mem _ (nodess_mem hx hy))⟩⟩
theorem rd24_at (l : List S30) (k : Nat) (h : k < l.length) : rd_T24 l (k : Int) = l[k] := rdC_at l k h
theorem cmpI_ne {a b : Int} (h : a ≠ b) : cmpI a b ≠ 0 := by unfold cmpI; (repeat' split) <;> omega
theorem cmpTs_drop (l m : List S30) (k : Nat) (hl : k < l.length) (hm : k < m.length) : cmpTs (l.drop k) (m.drop k) = if cmpT l[k] m[k] = 0 then cmpTs (l.drop (k + 1)) (m.drop (k + 1)) else cmpT l[k] m[k] := by
  rw [List.drop_eq_getElem_cons hl, List.drop_eq_getElem_cons hm, cmpTs]
theorem wsucc (i n : Nat) (h : i < n) (hn : n ≤ 1000000000) : wrap64 ((i : Int) + 1) = ((i + 1 : Nat) : Int) := by rw [w64 _ (by omega)]; omega
theorem RSame_spec : ∀ a b : S30, fit a → Ev (fun k => soritesref06_Same.f k a.f0 a.f1 b.f0 b.f1) (cmpT a b == 0) := by
  refine S30.ind ?_
  intro f l ih b hfit
  obtain ⟨g, m⟩ := b
  by_cases hfg : f = g
  · subst hfg
    by_cases hf : f < 0
    · refine Ev.step (f := fun _ => some true) (fun k => ?_) ?_
      · rw [soritesref06_Same.f, if_pos rfl, if_pos hf]
      · have : cmpT ⟨f, l⟩ ⟨f, m⟩ = 0 := by simp [cmpT, hf, cmpI_self]
        rw [this]; exact Ev.now _
    · obtain ⟨hll, hsub⟩ := fit_sub hf hfit
      by_cases hlm : l.length = m.length
      · have hc : cmpT ⟨f, l⟩ ⟨f, m⟩ = cmpTs l m := by simp [cmpT, hf, cmpI_self, hlm, orI]
        rw [hc]
        refine Ev.step (f := fun k => soritesref06_Same.l0 k 0 f l f m) (fun k => ?_) ?_
        · rw [soritesref06_Same.f, if_pos rfl, if_neg hf, if_pos (by simp [hlm])]
        · have key : ∀ n i, l.length - i = n → i ≤ l.length → Ev (fun k => soritesref06_Same.l0 k (i : Int) f l f m) (cmpTs (l.drop i) (m.drop i) == 0) := by
            intro n
            induction n with
            | zero =>
              intro i hi hle
              refine Ev.step (f := fun _ => some true) (fun k => ?_) ?_
              · rw [soritesref06_Same.l0, if_neg (by omega)]
              · rw [List.drop_of_length_le (by omega), List.drop_of_length_le (by omega)]; exact Ev.now _
            | succ n ihn =>
              intro i hi hle
              have hlt : i < l.length := by omega
              have hltm : i < m.length := by omega
              have hmem := List.getElem_mem hlt
              refine Ev.step (f := fun k => (soritesref06_Same.f k l[i].f0 l[i].f1 m[i].f0 m[i].f1).bind fun t => if t = true then soritesref06_Same.l0 k ((i + 1 : Nat) : Int) f l f m else some false) (fun k => ?_) (Ev.bind (ih l[i] hmem m[i] (hsub _ hmem)) ?_)
              · rw [soritesref06_Same.l0, if_pos (by omega), if_pos (by omega), if_pos (by omega), rd24_at l i hlt, rd24_at m i hltm, wsucc i l.length hlt (by omega)]
              · rw [cmpTs_drop l m i hlt hltm]
                by_cases h0 : cmpT l[i] m[i] = 0
                · simp only [h0, beq_self_eq_true, if_true]
                  exact ihn (i + 1) (by omega) (by omega)
                · rw [if_neg h0]
                  have : (cmpT l[i] m[i] == 0) = false := by simpa using h0
                  simp only [this, Bool.false_eq_true, if_false]
                  exact Ev.now _
          have := key l.length 0 rfl (by omega)
          simpa using this
      · refine Ev.step (f := fun _ => some false) (fun k => ?_) ?_
        · rw [soritesref06_Same.f, if_pos rfl, if_neg hf, if_neg (by simpa using fun h => hlm (by omega))]
        · have h1 : cmpI (l.length : Int) m.length ≠ 0 := cmpI_ne (by omega)
          have : (cmpT ⟨f, l⟩ ⟨f, m⟩ == 0) = false := by simp [cmpT, hf, cmpI_self, orI, h1]
          rw [this]; exact Ev.now _
  · refine Ev.step (f := fun _ => some false) (fun k => ?_) ?_
    · rw [soritesref06_Same.f, if_neg hfg]
    · have h1 := cmpI_ne hfg
      have h2 := cmpI_ne (fun e => hfg e.symm)
      have : (cmpT ⟨f, l⟩ ⟨g, m⟩ == 0) = false := by
        simp only [cmpT, beq_eq_false_iff_ne]
        split
        · split
          · exact h2
          · exact h1
        · unfold orI; rw [if_neg h1]; exact h1
      rw [this]; exact Ev.now _
theorem RFlat_spec : ∀ t : S30, fit t → Ev (fun k => soritesref06_Flat.f k t.f0 t.f1) (nodes t) := by
  refine S30.ind ?_
  intro f l ih hfit
  refine Ev.step (f := fun k => soritesref06_Flat.l0 k [⟨f, l⟩] 0 f l) (fun k => by rw [soritesref06_Flat.f]) ?_
  by_cases hf : f < 0
  · refine Ev.step (f := fun _ => some [⟨f, l⟩]) (fun k => by rw [soritesref06_Flat.l0, if_neg (by omega)]) ?_
    have : nodes ⟨f, l⟩ = [⟨f, l⟩] := by simp [nodes, hf]
    rw [this]; exact Ev.now _
  · obtain ⟨hll, hsub⟩ := fit_sub hf hfit
    have hn : nodes ⟨f, l⟩ = ⟨f, l⟩ :: nodess l := by simp [nodes, hf]
    have hlen := hfit.1
    rw [hn, List.length_cons] at hlen
    have key : ∀ n i, l.length - i = n → i ≤ l.length → Ev (fun k => soritesref06_Flat.l0 k (⟨f, l⟩ :: nodess (l.take i)) (i : Int) f l) (nodes ⟨f, l⟩) := by
      intro n
      induction n with
      | zero =>
        intro i hi hle
        refine Ev.step (f := fun _ => some (⟨f, l⟩ :: nodess (l.take i))) (fun k => by rw [soritesref06_Flat.l0, if_pos (by omega), if_neg (by omega)]) ?_
        rw [List.take_of_length_le (by omega), hn]; exact Ev.now _
      | succ n ihn =>
        intro i hi hle
        have hlt : i < l.length := by omega
        have hmem := List.getElem_mem hlt
        have htk := nodess_take l i hlt
        have htl := nodess_take_le l (i + 1)
        rw [htk, List.length_append] at htl
        refine Ev.step (f := fun k => (soritesref06_Flat.f k l[i].f0 l[i].f1).bind fun t => if (⟨f, l⟩ :: nodess (l.take i)).length + t.length < 4398046511104 then soritesref06_Flat.l0 k ((⟨f, l⟩ :: nodess (l.take i)) ++ t) ((i + 1 : Nat) : Int) f l else none) (fun k => ?_) (Ev.bind (ih l[i] hmem (hsub _ hmem)) ?_)
        · rw [soritesref06_Flat.l0, if_pos (by omega), if_pos (by omega), if_pos (by omega), rd24_at l i hlt, wsucc i l.length hlt (by omega)]
        · simp only [List.length_cons]
          simp only [if_pos (show (nodess (l.take i)).length + 1 + (nodes l[i]).length < 4398046511104 by omega)]
          have := ihn (i + 1) (by omega) (by omega)
          rw [htk] at this
          simpa using this
    have := key l.length 0 rfl (by omega)
    simpa [nodess] using this
end Go.Proofs.Ytpfddihcikiofaa.P
end

section
namespace Go.Proofs.Ytpfddihcikiofaa.P
open Go.RowKit Go.Proofs.YtpfddihcikiofaaW.PrintWords Go.Proofs.YtpfddihcikiofaaW.PrintLast Go.Proofs.YtpfddihcikiofaaW.PrintMore
attribute [local go_sem] max2_int min2_int max_two min_two max_three min_three max_four min_four
set_option linter.unusedVariables false
set_option linter.unusedSimpArgs false
def soritesref10_count.l0 : Nat → Int → List (S24) → Int → Int → Option (Int)
  | 0, _, _, _, _ => none
  | k + 1, x1, x5, x6, x7 => if x7 < (x5.length : Int) then (if 0 ≤ x7 then (if ((rd_T24 x5 x7).f0) = (wrap64 ((-1) - x1)) then (soritesref10_count.l0 k x1 x5 (wrap64 (x6 + 1)) (wrap64 (x7 + 1))) else (soritesref10_count.l0 k x1 x5 x6 (wrap64 (x7 + 1)))) else (none)) else (some x6)
def soritesref10_count.f (k : Nat) (a0_0 : Int) (l0_1 : List (S24)) (a1 : Int) : Option (Int) := (soritesref06_Flat.f k a0_0 l0_1).bind fun t308 => (soritesref10_count.l0 k a1 t308 0 0)
set_option maxHeartbeats 8000000 in
set_option maxRecDepth 100000 in
theorem soritesref10_count.calls (k : Nat) (a0_0 : Int) (A0_1 : Option Addr) (c0_1 : Nat) (l0_1 : List (S24)) (a1 : Int) (r : Int) (w : World) (hr0_1 : Kd.C k24 w A0_1 l0_1.length l0_1) (hc0_1 : l0_1.length ≤ c0_1) (h : soritesref10_count.f k a0_0 l0_1 a1 = some r) :
    Calls Try.prog 80 #[.agg #[.int .i64 a0_0, .slice A0_1 l0_1.length c0_1], .int .i64 a1] w fun e w' => e = .returned (.int .i64 r) ∧ Below w.heap.size w w' := by
  have hu24 := Try.underlying24
  have HR0_1 := Aside0.mk hr0_1
  have HC0_1 := Aside0.mk hc0_1
  clear hr0_1 hc0_1
  have HB := Aside0.mk (Below.refl w.heap.size w)
  have H : ((soritesref06_Flat.f k a0_0 l0_1).bind fun t308 => (soritesref10_count.l0 k a1 t308 0 0)) = some r := h
  clear h
  replace H := Option.bind_eq_some_iff.mp H
  obtain ⟨t308, A30, H⟩ := H
  replace H : (soritesref10_count.l0 k a1 t308 0 0) = some r := H
  have A3 := Aside0.mk A30
  clear A30
  have H' := Aside0.mk H
  clear H
  go_enter Try.func80, Try.ntmps80
  go_wp2_with (first | ((with_reducible refine gate_dst (N := 2) rfl ?_); refine box_event ?hg (N := 2) ?hd (cs := #[.int .i64 a0_0, .slice A0_1 l0_1.length c0_1]) (t := 24) ?hr ?_; (case hd => rfl); (case hg => rfl); (case hr => first | (go_simp; done) | (go_simp; rfl)); intro gb307 hg w4 hbox hb; have n0_ := Aside0.mk (below_step (by repeat (first | (with_reducible first | exact HB.out | apply below_alloc | apply pw_below_drewN | apply below_drew1) | exact HB.out)) hb); have n1_ := Aside0.mk (hbox); have n2_ := Aside0.mk ((by rw [hg]; exact (below_size (by repeat (first | (with_reducible first | exact HB.out | apply below_alloc | apply pw_below_drewN | apply below_drew1) | exact HB.out))) : w.heap.size ≤ gb307)); have n3_ := Aside0.mk ((by rw [hg]; exact (below_size (by repeat (first | (with_reducible first | exact HB.out | apply below_alloc | apply pw_below_drewN | apply below_drew1) | exact HB.out))) : w.heap.size ≤ gb307)); clear HB; have HB := n0_; have BK307 := n1_; have GW307 := n2_; have GE307 := n3_; clear n0_ n1_ n2_ n3_; clear hb hbox hg; have hcz5_0 : w4.cell? ⟨gb307, 0, none⟩ = some (.int .i64 a0_0) := (blk_cell BK307.out 0).trans rfl; have hcz5_1 : w4.cell? ⟨gb307, 1, none⟩ = some (.slice A0_1 l0_1.length c0_1) := (blk_cell BK307.out 1).trans rfl; have hfz5_0 := blk_frozen BK307.out 0; have hfz5_1 := blk_frozen BK307.out 1) | ((with_reducible refine gate_callee (f := 26) rfl ?_); refine goesL_ (some 9) rfl rfl Try.func26 (by kernel_rfl) rfl #[.agg #[.int .i64 a0_0, .slice A0_1 l0_1.length c0_1]] rfl (by (try simp only [List.map_toArray, List.map_cons, List.map_nil]); first | done | rfl | (simp only [List.length_drop, List.length_take]; rfl)) ?_; (with_reducible refine (soritesref06_Flat.calls k a0_0 (fun k_ => k_ < w.heap.size) _ _ l0_1 t308 _ ?side1 A3.out).mono ?_); (case side1 => exact Kd.V_mk HC0_1.out (Kd.F_below (Kd.C_F k24_heap HR0_1.out) (by repeat (first | (with_reducible first | exact HB.out | apply below_alloc | apply pw_below_drewN | apply below_drew1 | refine below_set ?_ GE307.out) | exact HB.out)))); rintro e w6 ⟨v309, rfl, ho0, hb⟩; refine ⟨_, rfl, ?_⟩; have n0_ := Aside0.mk (Kd.N_lower (Kd.N_mono (ok' := fun k_ => k_ ≠ gb307) ho0 (fun k_ hk_ => Or.elim hk_ (fun hs_ => fun e_ => Nat.not_le.2 hs_ (by rw [e_]; exact GW307.out)) (fun hn_ => (Kd.freshB (g := gb307) (o := .cells #[.int .i64 a0_0, .slice A0_1 l0_1.length c0_1] 24 (0, 0)) (by (with_reducible repeat (first | refine blk_drewN ?_ _ | refine blk_drew ?_ | refine blk_alloc ?_ _)); exact BK307.out) k_ hn_)))) (below_size (by repeat (first | (with_reducible first | exact HB.out | apply below_alloc | apply pw_below_drewN | apply below_drew1 | refine below_set ?_ GE307.out) | exact HB.out)))); have n1_ := Aside0.mk (blk_below (g := gb307) (o := .cells #[.int .i64 a0_0, .slice A0_1 l0_1.length c0_1] 24 (0, 0)) (by (with_reducible repeat (first | refine blk_drewN ?_ _ | refine blk_drew ?_ | refine blk_alloc ?_ _)); exact BK307.out) hb); have n2_ := Aside0.mk (below_step (by repeat (first | (with_reducible first | exact HB.out | apply below_alloc | apply pw_below_drewN | apply below_drew1 | refine below_set ?_ GE307.out) | exact HB.out)) hb); clear BK307; clear HB; have HO310 := n0_; have BK307 := n1_; have HB := n2_; clear n0_ n1_ n2_; (try clear hb); (try clear hb2); (try clear hk); (try clear hi); (try clear ho0)))
  go_loopg [6, 7] k (fun kq v6 v7 w' => ∃ (x6_1 : Int) (x7_1 : Int), v6 = .int .i64 x6_1 ∧ v7 = .int .i64 x7_1 ∧ Aside0 (soritesref10_count.l0 kq a1 t308 x6_1 x7_1 = some r) ∧ Aside0 (kq ≤ k) ∧ Aside0 (Kd.N k24 24 w' w.heap.size (fun k_ => k_ ≠ gb307) v309 t308) ∧ Aside0 (w'.heap[gb307]? = some (.cells #[.int .i64 a0_0, (.slice A0_1 l0_1.length c0_1)] 24 (0, 0))) ∧ Aside0 (Below w.heap.size w w'))
  case atStart => exact ⟨(0), (0), (by first | rfl | (simp; done) | (simp [*]; done)), (by first | rfl | (simp; done) | (simp [*]; done)), H', ⟨Nat.le_refl _⟩, ⟨by (with_reducible repeat (first | apply Kd.N_alloc | apply Kd.N_drewN | apply Kd.N_drew)); exact HO310.out⟩, ⟨by (with_reducible repeat (first | refine blk_drewN ?_ _ | refine blk_drew ?_ | refine blk_alloc ?_ _)); exact BK307.out⟩, ⟨by repeat (first | (with_reducible first | exact HB.out | apply below_alloc | apply pw_below_drewN | apply below_drew1 | refine below_set ?_ GE307.out) | exact HB.out)⟩⟩
  case round =>
    clear H'
    try clear c2
    try clear p2
    try clear hcz5_0
    try clear hcz5_1
    try clear hfz5_0
    try clear hfz5_1
    obtain ⟨x6_1, x7_1, rfl, rfl, HA, HK1, HO_5, BK307, HB⟩ := hrel
    cases gk with
    | zero => exact absurd HA.out (by simp [soritesref10_count.l0])
    | succ k1 =>
      have H := HA.out
      clear HA
      simp only [soritesref10_count.l0] at H
      by_cases c7 : x7_1 < (t308.length : Int)
      · rw [if_pos c7] at H
        have c7b0 : decide (x7_1 < (t308.length : Int)) = true := decide_eq_true c7
        clear c7
        by_cases c8 : 0 ≤ x7_1
        · rw [if_pos c8] at H
          have c8b0 : decide (0 ≤ x7_1) = true := decide_eq_true c8
          clear c8
          by_cases c9 : ((rd_T24 t308 x7_1).f0) = (wrap64 ((-1) - a1))
          · rw [if_pos c9] at H
            have c9b0 : (((rd_T24 t308 x7_1).f0) == (wrap64 ((-1) - a1))) = true := beq_iff_eq.mpr c9
            have c9b1 : (((rd_T24 t308 x7_1).f0) != (wrap64 ((-1) - a1))) = false := bne_eq_false_iff_eq.mpr c9
            clear c9
            have H' := Aside0.mk H
            clear H
            obtain ⟨Ao10, co10, eo10⟩ := Kd.N_slice HO_5.out
            subst eo10
            have p311 : 0 ≤ (x7_1 : Int) := of_decide_eq_true (by first | (with_reducible assumption) | assumption)
            have q311 : x7_1 < (t308.length : Int) := of_decide_eq_true (by first | (with_reducible assumption) | assumption)
            obtain ⟨ad311, A311_1, c311_1, e311, hx311_0, hx311_1, hl311_1, hi311_1⟩ := at_T24 (Kd.N_reads' HO_5.out).2.2 x7_1 p311 q311
            cases e311
            obtain ⟨ce311, hce311, hMe311, hcc311⟩ := Kd.N_get HO_5.out z24 x7_1 p311 (by first | exact q311 | exact of_decide_eq_true (by first | (with_reducible assumption) | assumption) | (have e_ := (Kd.N_reads' HO_5.out).1; omega))
            obtain ⟨ua311_1, uc311_1, rfl, ul311_1, ge311_1⟩ := k24_openF hMe311
            have hv311_1 := hcc311 1 _ rfl
            rw [add_field _ _ 1 (by omega)] at hv311_1
            replace hv311_1 := Option.some.inj (hv311_1.symm.trans hx311_1)
            injection hv311_1 with hva_ hvn_ hvc_
            rw [hva_] at ge311_1
            rw [hvc_] at ul311_1
            have HL311_1 := Aside0.mk (show Kd.V k24 24 _ w.heap.size _ _ ((rd_T24 t308 x7_1).f1) from Kd.V_mk ul311_1 ge311_1)
            clear hva_ hvn_ hvc_ ge311_1 ul311_1
            clear hcc311 hce311
            have HR311_1 := Aside0.mk hi311_1
            have HC311_1 := Aside0.mk hl311_1
            clear hi311_1 hl311_1
            replace p311 := eq_true p311
            replace q311 := eq_true q311
            go_wp2
            go_roundg k1
            case measure => have := HK1.out; omega
            case rel => exact ⟨(wrap64 (x6_1 + 1)), (wrap64 (x7_1 + 1)), (by first | rfl | (simp; done) | (simp [*]; done)), (by first | rfl | (simp; done) | (simp [*]; done)), H', ⟨by have := HK1.out; omega⟩, ⟨by (with_reducible repeat (first | apply Kd.N_alloc | apply Kd.N_drewN | apply Kd.N_drew)); exact HO_5.out⟩, ⟨by (with_reducible repeat (first | refine blk_drewN ?_ _ | refine blk_drew ?_ | refine blk_alloc ?_ _)); exact BK307.out⟩, ⟨by repeat (first | (with_reducible first | exact HB.out | apply below_alloc | apply pw_below_drewN | apply below_drew1 | refine below_set ?_ GE307.out) | exact HB.out)⟩⟩
          · rw [if_neg c9] at H
            have c9b0 : (((rd_T24 t308 x7_1).f0) == (wrap64 ((-1) - a1))) = false := beq_eq_false_iff_ne.mpr c9
            have c9b1 : (((rd_T24 t308 x7_1).f0) != (wrap64 ((-1) - a1))) = true := bne_iff_ne.mpr c9
            have H' := Aside0.mk H
            clear H
            obtain ⟨Ao11, co11, eo11⟩ := Kd.N_slice HO_5.out
            subst eo11
            have p311 : 0 ≤ (x7_1 : Int) := of_decide_eq_true (by first | (with_reducible assumption) | assumption)
            have q311 : x7_1 < (t308.length : Int) := of_decide_eq_true (by first | (with_reducible assumption) | assumption)
            obtain ⟨ad311, A311_1, c311_1, e311, hx311_0, hx311_1, hl311_1, hi311_1⟩ := at_T24 (Kd.N_reads' HO_5.out).2.2 x7_1 p311 q311
            cases e311
            obtain ⟨ce311, hce311, hMe311, hcc311⟩ := Kd.N_get HO_5.out z24 x7_1 p311 (by first | exact q311 | exact of_decide_eq_true (by first | (with_reducible assumption) | assumption) | (have e_ := (Kd.N_reads' HO_5.out).1; omega))
            obtain ⟨ua311_1, uc311_1, rfl, ul311_1, ge311_1⟩ := k24_openF hMe311
            have hv311_1 := hcc311 1 _ rfl
            rw [add_field _ _ 1 (by omega)] at hv311_1
            replace hv311_1 := Option.some.inj (hv311_1.symm.trans hx311_1)
            injection hv311_1 with hva_ hvn_ hvc_
            rw [hva_] at ge311_1
            rw [hvc_] at ul311_1
            have HL311_1 := Aside0.mk (show Kd.V k24 24 _ w.heap.size _ _ ((rd_T24 t308 x7_1).f1) from Kd.V_mk ul311_1 ge311_1)
            clear hva_ hvn_ hvc_ ge311_1 ul311_1
            clear hcc311 hce311
            have HR311_1 := Aside0.mk hi311_1
            have HC311_1 := Aside0.mk hl311_1
            clear hi311_1 hl311_1
            replace p311 := eq_true p311
            replace q311 := eq_true q311
            go_wp2
            go_roundg k1
            case measure => have := HK1.out; omega
            case rel => exact ⟨(x6_1), (wrap64 (x7_1 + 1)), (by first | rfl | (simp; done) | (simp [*]; done)), (by first | rfl | (simp; done) | (simp [*]; done)), H', ⟨by have := HK1.out; omega⟩, ⟨by (with_reducible repeat (first | apply Kd.N_alloc | apply Kd.N_drewN | apply Kd.N_drew)); exact HO_5.out⟩, ⟨by (with_reducible repeat (first | refine blk_drewN ?_ _ | refine blk_drew ?_ | refine blk_alloc ?_ _)); exact BK307.out⟩, ⟨by repeat (first | (with_reducible first | exact HB.out | apply below_alloc | apply pw_below_drewN | apply below_drew1 | refine below_set ?_ GE307.out) | exact HB.out)⟩⟩
        · rw [if_neg c8] at H
          exact absurd H (by simp)
      · rw [if_neg c7] at H
        have c7b0 : decide (x7_1 < (t308.length : Int)) = false := decide_eq_false c7
        clear c7
        obtain rfl := Option.some.inj H
        obtain ⟨Ao12, co12, eo12⟩ := Kd.N_slice HO_5.out
        subst eo12
        go_wp2
        go_ret
        exact ⟨by first | rfl | (simp [errW_none, errW_some] <;> rfl) | (simp [*, errW_none, errW_some] <;> rfl), by repeat (first | (with_reducible first | exact HB.out | apply below_alloc | apply pw_below_drewN | apply below_drew1 | refine below_set ?_ GE307.out) | exact HB.out)⟩
end Go.Proofs.Ytpfddihcikiofaa.P
end

section
namespace Go.Proofs.Ytpfddihcikiofaa.P
open Go.RowKit Go.Proofs.YtpfddihcikiofaaW.PrintWords Go.Proofs.YtpfddihcikiofaaW.PrintLast Go.Proofs.YtpfddihcikiofaaW.PrintMore
attribute [local go_sem] max2_int min2_int max_two min_two max_three min_three max_four min_four
set_option linter.unusedVariables false
set_option linter.unusedSimpArgs false
def soritesref10_Covers.l0 : Nat → List Int → Int → Int → List (S24) → Int → List (S24) → Option (Bool)
  | 0, _, _, _, _, _, _ => none
  | k + 1, x5, x6, x313000, x313001, x314000, x314001 => if x6 < (x5.length : Int) then (if 0 ≤ x6 then ((soritesref10_count.f k x314000 x314001 (rd x5 x6)).bind fun t318 => ((soritesref10_count.f k x313000 x313001 (rd x5 x6)).bind fun t320 => (if t318 > t320 then (some false) else (soritesref10_Covers.l0 k x5 (wrap64 (x6 + 1)) x313000 x313001 x314000 x314001)))) else (none)) else (some true)
def soritesref10_Covers.f (k : Nat) (a0_0 : Int) (l0_1 : List (S24)) (a1_0 : Int) (l1_1 : List (S24)) : Option (Bool) := (soritesref06_Vars.f k a1_0 l1_1).bind fun t314 => (soritesref10_Covers.l0 k t314 0 a0_0 l0_1 a1_0 l1_1)
def soritesref10_Covers.T5 : Bool × List (List Nat × List Nat) := (true, [([], []), ([], []), ([], []), ([1, 2], [1, 2]), ([3], [3]), ([0, 4], [0, 4]), ([], []), ([], []), ([], []), ([7, 8], [7, 8]), ([9], [9]), ([6, 10, 5], [6, 10]), ([5, 11], [5, 11])])
def soritesref10_Covers.B5 : List Nat := [0, 0, 0, 6, 14, 31, 0, 0, 0, 384, 896, 2047, 4095]
theorem soritesref10_Covers.tab5 : rtab .any (opsOf Try.f46 5) = soritesref10_Covers.T5 := by kernel_rfl
theorem soritesref10_Covers.bits5 : waitsOk soritesref10_Covers.T5.2 soritesref10_Covers.B5 = true := by kernel_rfl
set_option maxHeartbeats 8000000 in
set_option maxRecDepth 100000 in
theorem soritesref10_Covers.calls (k : Nat) (a0_0 : Int) (A0_1 : Option Addr) (c0_1 : Nat) (l0_1 : List (S24)) (a1_0 : Int) (A1_1 : Option Addr) (c1_1 : Nat) (l1_1 : List (S24)) (r : Bool) (w : World) (hr0_1 : Kd.C k24 w A0_1 l0_1.length l0_1) (hc0_1 : l0_1.length ≤ c0_1) (hr1_1 : Kd.C k24 w A1_1 l1_1.length l1_1) (hc1_1 : l1_1.length ≤ c1_1) (h : soritesref10_Covers.f k a0_0 l0_1 a1_0 l1_1 = some r) :
    Calls Try.prog 46 #[.agg #[.int .i64 a0_0, .slice A0_1 l0_1.length c0_1], .agg #[.int .i64 a1_0, .slice A1_1 l1_1.length c1_1]] w fun e w' => e = .returned (.bool r) ∧ Below w.heap.size w w' := by
  have hu24 := Try.underlying24
  have HR0_1 := Aside0.mk hr0_1
  have HC0_1 := Aside0.mk hc0_1
  clear hr0_1 hc0_1
  have HR1_1 := Aside0.mk hr1_1
  have HC1_1 := Aside0.mk hc1_1
  clear hr1_1 hc1_1
  have HB := Aside0.mk (Below.refl w.heap.size w)
  have H : ((soritesref06_Vars.f k a1_0 l1_1).bind fun t314 => (soritesref10_Covers.l0 k t314 0 a0_0 l0_1 a1_0 l1_1)) = some r := h
  clear h
  replace H := Option.bind_eq_some_iff.mp H
  obtain ⟨t314, A30, H⟩ := H
  replace H : (soritesref10_Covers.l0 k t314 0 a0_0 l0_1 a1_0 l1_1) = some r := H
  have A3 := Aside0.mk A30
  clear A30
  have H' := Aside0.mk H
  clear H
  go_enter Try.func46, Try.ntmps46
  go_wp2_with (first | ((with_reducible refine gate_dst (N := 2) rfl ?_); refine box_event ?hg (N := 2) ?hd (cs := #[.int .i64 a0_0, .slice A0_1 l0_1.length c0_1]) (t := 24) ?hr ?_; (case hd => rfl); (case hg => rfl); (case hr => first | (go_simp; done) | (go_simp; rfl)); intro gb312 hg w4 hbox hb; have n0_ := Aside0.mk (below_step (by repeat (first | (with_reducible first | exact HB.out | apply below_alloc | apply pw_below_drewN | apply below_drew1) | exact HB.out)) hb); have n1_ := Aside0.mk (hbox); have n2_ := Aside0.mk ((by rw [hg]; exact (below_size (by repeat (first | (with_reducible first | exact HB.out | apply below_alloc | apply pw_below_drewN | apply below_drew1) | exact HB.out))) : w.heap.size ≤ gb312)); have n3_ := Aside0.mk ((by rw [hg]; exact (below_size (by repeat (first | (with_reducible first | exact HB.out | apply below_alloc | apply pw_below_drewN | apply below_drew1) | exact HB.out))) : w.heap.size ≤ gb312)); clear HB; have HB := n0_; have BK312 := n1_; have GW312 := n2_; have GE312 := n3_; clear n0_ n1_ n2_ n3_; clear hb hbox hg) | ((with_reducible refine gate_dst (N := 3) rfl ?_); refine box_event ?hg (N := 3) ?hd (cs := #[.int .i64 a1_0, .slice A1_1 l1_1.length c1_1]) (t := 24) ?hr ?_; (case hd => rfl); (case hg => rfl); (case hr => first | (go_simp; done) | (go_simp; rfl)); intro gb313 hg w5 hbox hb; have n0_ := Aside0.mk (blk_below (g := gb312) (o := .cells #[.int .i64 a0_0, .slice A0_1 l0_1.length c0_1] 24 (0, 0)) (by (with_reducible repeat (first | refine blk_drewN ?_ _ | refine blk_drew ?_ | refine blk_alloc ?_ _)); exact BK312.out) hb); have n1_ := Aside0.mk (below_step (by repeat (first | (with_reducible first | exact HB.out | apply below_alloc | apply pw_below_drewN | apply below_drew1 | refine below_set ?_ GE312.out) | exact HB.out)) hb); have n2_ := Aside0.mk (hbox); have n3_ := Aside0.mk ((by rw [hg]; exact (below_size (by repeat (first | (with_reducible first | exact HB.out | apply below_alloc | apply pw_below_drewN | apply below_drew1 | refine below_set ?_ GE312.out) | exact HB.out))) : w.heap.size ≤ gb313)); have n4_ := Aside0.mk ((by rw [hg]; exact (below_size (by repeat (first | (with_reducible first | exact HB.out | apply below_alloc | apply pw_below_drewN | apply below_drew1 | refine below_set ?_ GE312.out) | exact HB.out))) : w.heap.size ≤ gb313)); have n5_ := Aside0.mk ((by rw [hg]; exact Nat.ne_of_lt (blk_lt (g := gb312) (o := .cells #[.int .i64 a0_0, .slice A0_1 l0_1.length c0_1] 24 (0, 0)) (by (with_reducible repeat (first | refine blk_drewN ?_ _ | refine blk_drew ?_ | refine blk_alloc ?_ _)); exact BK312.out)) : gb312 ≠ gb313)); have n6_ := Aside0.mk ((by rw [hg]; exact Nat.ne_of_gt (blk_lt (g := gb312) (o := .cells #[.int .i64 a0_0, .slice A0_1 l0_1.length c0_1] 24 (0, 0)) (by (with_reducible repeat (first | refine blk_drewN ?_ _ | refine blk_drew ?_ | refine blk_alloc ?_ _)); exact BK312.out)) : gb313 ≠ gb312)); clear BK312; clear HB; have BK312 := n0_; have HB := n1_; have BK313 := n2_; have GW313 := n3_; have GE313 := n4_; have NB312_313 := n5_; have NB313_312 := n6_; clear n0_ n1_ n2_ n3_ n4_ n5_ n6_; clear hb hbox hg; have hnb6 := NB313_312.out; have hnc6 := NB312_313.out; have hcz7_0 : w5.cell? ⟨gb313, 0, none⟩ = some (.int .i64 a1_0) := (blk_cell BK313.out 0).trans rfl; have hcz7_1 : w5.cell? ⟨gb313, 1, none⟩ = some (.slice A1_1 l1_1.length c1_1) := (blk_cell BK313.out 1).trans rfl; have hfz7_0 := blk_frozen BK313.out 0; have hfz7_1 := blk_frozen BK313.out 1) | ((with_reducible refine gate_callee (f := 48) rfl ?_); refine goesL_ (some 8) rfl rfl Try.func48 (by kernel_rfl) rfl #[.agg #[.int .i64 a1_0, .slice A1_1 l1_1.length c1_1]] rfl (by (try simp only [List.map_toArray, List.map_cons, List.map_nil]); first | done | rfl | (simp only [List.length_drop, List.length_take]; rfl)) ?_; (with_reducible refine (soritesref06_Vars.calls k a1_0 _ _ l1_1 t314 _ ?side1 ?side2 A3.out).mono ?_); (case side1 => repeat (first | exact (Kd.C_below HR1_1.out HB.out) | (with_reducible refine Kd.C_alloc ?_ _) | (with_reducible refine Kd.C_drewN ?_ _) | (with_reducible refine Kd.C_drew ?_))); (case side2 => exact HC1_1.out); rintro e w8 ⟨v315, rfl, ho0, hb⟩; refine ⟨_, rfl, ?_⟩; have n0_ := Aside0.mk (Kd.R_lower ho0 (below_size (by repeat (first | (with_reducible first | exact HB.out | apply below_alloc | apply pw_below_drewN | apply below_drew1 | refine below_set ?_ GE312.out | refine below_set ?_ GE313.out) | exact HB.out)))); have n1_ := Aside0.mk (blk_below (g := gb312) (o := .cells #[.int .i64 a0_0, .slice A0_1 l0_1.length c0_1] 24 (0, 0)) (by (with_reducible repeat (first | refine blk_drewN ?_ _ | refine blk_drew ?_ | refine blk_alloc ?_ _)); exact BK312.out) hb); have n2_ := Aside0.mk (blk_below (g := gb313) (o := .cells #[.int .i64 a1_0, .slice A1_1 l1_1.length c1_1] 24 (0, 0)) (by (with_reducible repeat (first | refine blk_drewN ?_ _ | refine blk_drew ?_ | refine blk_alloc ?_ _)); exact BK313.out) hb); have n3_ := Aside0.mk (below_step (by repeat (first | (with_reducible first | exact HB.out | apply below_alloc | apply pw_below_drewN | apply below_drew1 | refine below_set ?_ GE312.out | refine below_set ?_ GE313.out) | exact HB.out)) hb); clear BK312; clear BK313; clear HB; have HO316 := n0_; have BK312 := n1_; have BK313 := n2_; have HB := n3_; clear n0_ n1_ n2_ n3_; (try clear hb); (try clear hb2); (try clear hk); (try clear hi); (try clear ho0)))
  go_loopg [6] k (fun kq v6 w' => ∃ (x6_1 : Int), v6 = .int .i64 x6_1 ∧ Aside0 (soritesref10_Covers.l0 kq t314 x6_1 a0_0 l0_1 a1_0 l1_1 = some r) ∧ Aside0 (kq ≤ k) ∧ Aside0 (Kd.R (Kd.int .i64) 3 w' w.heap.size (fun _ => True) v315 t314) ∧ Aside0 (w'.heap[gb312]? = some (.cells #[.int .i64 a0_0, (.slice A0_1 l0_1.length c0_1)] 24 (0, 0))) ∧ Aside0 (w'.heap[gb313]? = some (.cells #[.int .i64 a1_0, (.slice A1_1 l1_1.length c1_1)] 24 (0, 0))) ∧ Aside0 (Below w.heap.size w w'))
  case atStart => exact ⟨(0), (by first | rfl | (simp; done) | (simp [*]; done)), H', ⟨Nat.le_refl _⟩, ⟨by (with_reducible repeat (first | apply Kd.R_alloc | apply Kd.R_drewN | apply Kd.R_drew)); exact HO316.out⟩, ⟨by (with_reducible repeat (first | refine blk_drewN ?_ _ | refine blk_drew ?_ | refine blk_alloc ?_ _)); exact BK312.out⟩, ⟨by (with_reducible repeat (first | refine blk_drewN ?_ _ | refine blk_drew ?_ | refine blk_alloc ?_ _)); exact BK313.out⟩, ⟨by repeat (first | (with_reducible first | exact HB.out | apply below_alloc | apply pw_below_drewN | apply below_drew1 | refine below_set ?_ GE312.out | refine below_set ?_ GE313.out) | exact HB.out)⟩⟩
  case round =>
    clear H'
    try clear c1
    try clear p2
    try clear c4
    try clear c6
    try clear hcz7_0
    try clear hcz7_1
    try clear hfz7_0
    try clear hfz7_1
    obtain ⟨x6_1, rfl, HA, HK1, HO_5, BK312, BK313, HB⟩ := hrel
    cases gk with
    | zero => exact absurd HA.out (by simp [soritesref10_Covers.l0])
    | succ k1 =>
      have H := HA.out
      clear HA
      simp only [soritesref10_Covers.l0] at H
      by_cases c9 : x6_1 < (t314.length : Int)
      · rw [if_pos c9] at H
        have c9b0 : decide (x6_1 < (t314.length : Int)) = true := decide_eq_true c9
        clear c9
        by_cases c10 : 0 ≤ x6_1
        · rw [if_pos c10] at H
          have c10b0 : decide (0 ≤ x6_1) = true := decide_eq_true c10
          clear c10
          replace H := Option.bind_eq_some_iff.mp H
          obtain ⟨t318, A110, H⟩ := H
          replace H : ((soritesref10_count.f k1 a0_0 l0_1 (rd t314 x6_1)).bind fun t320 => (if t318 > t320 then (some false) else (soritesref10_Covers.l0 k1 t314 (wrap64 (x6_1 + 1)) a0_0 l0_1 a1_0 l1_1))) = some r := H
          have A11 := Aside0.mk A110
          clear A110
          replace H := Option.bind_eq_some_iff.mp H
          obtain ⟨t320, A120, H⟩ := H
          replace H : (if t318 > t320 then (some false) else (soritesref10_Covers.l0 k1 t314 (wrap64 (x6_1 + 1)) a0_0 l0_1 a1_0 l1_1)) = some r := H
          have A12 := Aside0.mk A120
          clear A120
          by_cases c13 : t318 > t320
          · rw [if_pos c13] at H
            have c13b0 : decide (t320 < t318) = true := decide_eq_true c13
            clear c13
            obtain rfl := Option.some.inj H
            obtain ⟨Ao14, co14, eo14⟩ := Kd.R_slice HO_5.out
            subst eo14
            try go_wp2
            have n0_ := Aside0.mk (Kd.R_drew HO_5.out)
            have n1_ := Aside0.mk (blk_drew BK312.out)
            have n2_ := Aside0.mk (blk_drew BK313.out)
            have n3_ := Aside0.mk (below_drew1 HB.out)
            clear HO_5
            clear BK312
            clear BK313
            clear HB
            have HO_5 := n0_
            have BK312 := n1_
            have BK313 := n2_
            have HB := n3_
            clear n0_ n1_ n2_ n3_
            have p317 : 0 ≤ (x6_1 : Int) := of_decide_eq_true (by first | (with_reducible assumption) | assumption)
            have q317 : x6_1 < (t314.length : Int) := of_decide_eq_true (by first | (with_reducible assumption) | assumption)
            obtain ⟨ad317, e317, hx317_0⟩ := Kd.at_int (Kd.R_reads' HO_5.out).2.2 x6_1 p317 q317
            cases e317
            replace p317 := eq_true p317
            replace q317 := eq_true q317
            have p319 : 0 ≤ (x6_1 : Int) := of_decide_eq_true (by first | (with_reducible assumption) | assumption)
            have q319 : x6_1 < (t314.length : Int) := of_decide_eq_true (by first | (with_reducible assumption) | assumption)
            obtain ⟨ad319, e319, hx319_0⟩ := Kd.at_int (Kd.R_reads' HO_5.out).2.2 x6_1 p319 q319
            obtain rfl : ad317 = ad319 := (by injection e319)
            replace p319 := eq_true p319
            replace q319 := eq_true q319
            refine start_ (n := 13) (S := fun w' => w'.cell? ⟨gb313, 0, none⟩ = some (.int .i64 a1_0) ∧ w'.cell? ⟨gb313, 1, none⟩ = some (.slice A1_1 l1_1.length c1_1) ∧ w'.cell? ⟨gb312, 0, none⟩ = some (.int .i64 a0_0) ∧ w'.cell? ⟨gb312, 1, none⟩ = some (.slice A0_1 l0_1.length c0_1) ∧ w'.cell? (ad317.add (x6_1).toNat) = some (.int .i64 (rd t314 x6_1)) ∧ w'.cell? (ad317.add (x6_1).toNat) = some (.int .i64 (rd t314 x6_1))) (ds := []) #[false, false, false, false, false, false, false, false, false, false, false, false, false] (by kernel_rfl) rfl rfl ⟨(blk_cell BK313.out 0).trans rfl, (blk_cell BK313.out 1).trans rfl, (blk_cell BK312.out 0).trans rfl, (blk_cell BK312.out 1).trans rfl, hx317_0, hx319_0⟩ (fun hHeld => ?_); refine with_tabW soritesref10_Covers.tab5 soritesref10_Covers.bits5 (fun HT_ HW_ => ?_)
            generalize wr.drew = w15 at HO_5 BK312 BK313 HB hx317_0 hx319_0 hHeld ⊢
            refine pure_ (i := 1) (N := some 16) (v := ?_) (a' := ?_) #[false, true, false, false, false, false, false, false, false, false, false, false, false] rfl rfl (any_of HT_.out (by kernel_rfl)) (fun _ _ _ h => h) (Or.inl ⟨by rfl, ?_⟩) ?_ ?_
            rotate_left
            · intro w'
              go_simp
              with_reducible rfl
            rotate_left
            · simp only [Act.put, List.setIfInBounds_toArray, List.set_cons_zero, List.set_cons_succ, i64_w, i32_w]
              rfl
            refine pure_ (i := 2) (N := some 17) (v := ?_) (a' := ?_) #[false, true, true, false, false, false, false, false, false, false, false, false, false] rfl rfl (any_of HT_.out (by kernel_rfl)) (fun _ _ _ h => h) (Or.inl ⟨by rfl, ?_⟩) ?_ ?_
            rotate_left
            · intro w'
              go_simp
              with_reducible rfl
            rotate_left
            · simp only [Act.put, List.setIfInBounds_toArray, List.set_cons_zero, List.set_cons_succ, i64_w, i32_w]
              rfl
            refine pure_ (i := 3) (N := some 18) (v := ?_) (a' := ?_) #[false, true, true, true, false, false, false, false, false, false, false, false, false] rfl rfl (any_of HT_.out (by kernel_rfl)) (fun _ _ _ h => h) (Or.inl ⟨by rfl, ?_⟩) ?_ ?_
            rotate_left
            · intro w'
              go_simp
              with_reducible rfl
            rotate_left
            · simp only [Act.put, List.setIfInBounds_toArray, List.set_cons_zero, List.set_cons_succ, i64_w, i32_w]
              rfl
            refine pure_ (i := 7) (N := some 22) (v := ?_) (a' := ?_) #[false, true, true, true, false, false, false, true, false, false, false, false, false] rfl rfl (any_of HT_.out (by kernel_rfl)) (fun _ _ _ h => h) (Or.inl ⟨by rfl, ?_⟩) ?_ ?_
            rotate_left
            · intro w'
              go_simp
              with_reducible rfl
            rotate_left
            · simp only [Act.put, List.setIfInBounds_toArray, List.set_cons_zero, List.set_cons_succ, i64_w, i32_w]
              rfl
            refine pure_ (i := 8) (N := some 23) (v := ?_) (a' := ?_) #[false, true, true, true, false, false, false, true, true, false, false, false, false] rfl rfl (any_of HT_.out (by kernel_rfl)) (fun _ _ _ h => h) (Or.inl ⟨by rfl, ?_⟩) ?_ ?_
            rotate_left
            · intro w'
              go_simp
              with_reducible rfl
            rotate_left
            · simp only [Act.put, List.setIfInBounds_toArray, List.set_cons_zero, List.set_cons_succ, i64_w, i32_w]
              rfl
            refine pure_ (i := 9) (N := some 24) (v := ?_) (a' := ?_) #[false, true, true, true, false, false, false, true, true, true, false, false, false] rfl rfl (any_of HT_.out (by kernel_rfl)) (fun _ _ _ h => h) (Or.inl ⟨by rfl, ?_⟩) ?_ ?_
            rotate_left
            · intro w'
              go_simp
              with_reducible rfl
            rotate_left
            · simp only [Act.put, List.setIfInBounds_toArray, List.set_cons_zero, List.set_cons_succ, i64_w, i32_w]
              rfl
            refine take_ (i := 0) (N := some 15) (v := ?_) (a' := ?_) #[true, true, true, true, false, false, false, true, true, true, false, false, false] rfl rfl (take_ofW HT_.out HW_.out (by kernel_rfl)) (fun _ _ _ h => h) (Or.inl ⟨by rfl, ?_⟩) hHeld ?_ ?_
            rotate_left
            · rintro w' ⟨s0, s1, s2, s3, s4, s5⟩
              go_simp
              with_reducible rfl
            rotate_left
            · simp only [Act.put, List.setIfInBounds_toArray, List.set_cons_zero, List.set_cons_succ, i64_w, i32_w]
              rfl
            refine take_ (i := 4) (N := some 19) (v := ?_) (a' := ?_) #[true, true, true, true, true, false, false, true, true, true, false, false, false] rfl rfl (take_ofW HT_.out HW_.out (by kernel_rfl)) (fun _ _ _ h => h) (Or.inl ⟨by rfl, ?_⟩) hHeld ?_ ?_
            rotate_left
            · rintro w' ⟨s0, s1, s2, s3, s4, s5⟩
              go_simp
              with_reducible rfl
            rotate_left
            · simp only [Act.put, List.setIfInBounds_toArray, List.set_cons_zero, List.set_cons_succ, i64_w, i32_w]
              rfl
            refine take_ (i := 6) (N := some 21) (v := ?_) (a' := ?_) #[true, true, true, true, true, false, true, true, true, true, false, false, false] rfl rfl (take_ofW HT_.out HW_.out (by kernel_rfl)) (fun _ _ _ h => h) (Or.inl ⟨by rfl, ?_⟩) hHeld ?_ ?_
            rotate_left
            · rintro w' ⟨s0, s1, s2, s3, s4, s5⟩
              go_simp
              with_reducible rfl
            rotate_left
            · simp only [Act.put, List.setIfInBounds_toArray, List.set_cons_zero, List.set_cons_succ, i64_w, i32_w]
              rfl
            refine take_ (i := 10) (N := some 25) (v := ?_) (a' := ?_) #[true, true, true, true, true, false, true, true, true, true, true, false, false] rfl rfl (take_ofW HT_.out HW_.out (by kernel_rfl)) (fun _ _ _ h => h) (Or.inl ⟨by rfl, ?_⟩) hHeld ?_ ?_
            rotate_left
            · rintro w' ⟨s0, s1, s2, s3, s4, s5⟩
              go_simp
              with_reducible rfl
            rotate_left
            · simp only [Act.put, List.setIfInBounds_toArray, List.set_cons_zero, List.set_cons_succ, i64_w, i32_w]
              rfl
            refine one_ (i := 5) (N := some 20) #[true, true, true, true, true, true, true, true, true, true, true, false, false] rfl rfl (one_of HT_.out (by kernel_rfl)) (by decide) (fun K hK => ?_)
            refine goes_ Try.func80 (by kernel_rfl) rfl #[.agg #[.int .i64 a1_0, .slice A1_1 l1_1.length c1_1], .int .i64 (rd t314 x6_1)] (by rfl) rfl rfl (by (try simp only [List.map_toArray, List.map_cons, List.map_nil]); first | done | rfl | (simp only [List.length_drop, List.length_take]; rfl)) ?_
            with_reducible refine (soritesref10_count.calls k1 a1_0 _ _ l1_1 (rd t314 x6_1) t318 _ ?side1 ?side2 A11.out).mono ?_
            (case side1 => repeat (first | exact (Kd.C_below HR1_1.out HB.out) | (with_reducible refine Kd.C_alloc ?_ _) | (with_reducible refine Kd.C_drewN ?_ _) | (with_reducible refine Kd.C_drew ?_)))
            (case side2 => exact HC1_1.out)
            rintro e w16 ⟨rfl, hb⟩
            have HS4_ := (hb.cell (World.block_lt_of_cell? _ _ (hHeld.2.2.2.2.1))).trans (hHeld.2.2.2.2.1)
            have HS5_ := (hb.cell (World.block_lt_of_cell? _ _ (hHeld.2.2.2.2.2))).trans (hHeld.2.2.2.2.2)
            refine ⟨_, rfl, ?_⟩
            have n0_ := Aside0.mk (Kd.R_below (by (with_reducible repeat (first | apply Kd.R_alloc | apply Kd.R_drewN | apply Kd.R_drew)); exact HO_5.out) hb)
            have n1_ := Aside0.mk (blk_below (g := gb312) (o := .cells #[.int .i64 a0_0, .slice A0_1 l0_1.length c0_1] 24 (0, 0)) (by (with_reducible repeat (first | refine blk_drewN ?_ _ | refine blk_drew ?_ | refine blk_alloc ?_ _)); exact BK312.out) hb)
            have n2_ := Aside0.mk (blk_below (g := gb313) (o := .cells #[.int .i64 a1_0, .slice A1_1 l1_1.length c1_1] 24 (0, 0)) (by (with_reducible repeat (first | refine blk_drewN ?_ _ | refine blk_drew ?_ | refine blk_alloc ?_ _)); exact BK313.out) hb)
            have n3_ := Aside0.mk (below_step (by repeat (first | (with_reducible first | exact HB.out | apply below_alloc | apply pw_below_drewN | apply below_drew1 | refine below_set ?_ GE312.out | refine below_set ?_ GE313.out) | exact HB.out)) hb)
            clear HO_5
            clear BK312
            clear BK313
            clear HB
            have HO_5 := n0_
            have BK312 := n1_
            have BK313 := n2_
            have HB := n3_
            clear n0_ n1_ n2_ n3_
            (try clear hb)
            (try clear hb2)
            (try clear hk)
            (try clear hi)
            refine hK.out _ _ ⟨(blk_cell BK313.out 0).trans rfl, (blk_cell BK313.out 1).trans rfl, (blk_cell BK312.out 0).trans rfl, (blk_cell BK312.out 1).trans rfl, HS4_, HS5_⟩ (fun hHeld => ?_)
            clear hK K
            refine norm_ (a' := ?_) ?_ ?_
            rotate_left
            · show Act.put _ (some 20) _ = _
              simp only [Act.put, List.setIfInBounds_toArray, List.set_cons_zero, List.set_cons_succ, i64_w, i32_w]
              rfl
            refine one_ (i := 11) (N := some 26) #[true, true, true, true, true, true, true, true, true, true, true, true, false] rfl rfl (one_of HT_.out (by kernel_rfl)) (by decide) (fun K hK => ?_)
            refine goes_ Try.func80 (by kernel_rfl) rfl #[.agg #[.int .i64 a0_0, .slice A0_1 l0_1.length c0_1], .int .i64 (rd t314 x6_1)] (by rfl) rfl rfl (by (try simp only [List.map_toArray, List.map_cons, List.map_nil]); first | done | rfl | (simp only [List.length_drop, List.length_take]; rfl)) ?_
            with_reducible refine (soritesref10_count.calls k1 a0_0 _ _ l0_1 (rd t314 x6_1) t320 _ ?side1 ?side2 A12.out).mono ?_
            (case side1 => repeat (first | exact (Kd.C_below HR0_1.out HB.out) | (with_reducible refine Kd.C_alloc ?_ _) | (with_reducible refine Kd.C_drewN ?_ _) | (with_reducible refine Kd.C_drew ?_)))
            (case side2 => exact HC0_1.out)
            rintro e w17 ⟨rfl, hb⟩
            have HS4_ := (hb.cell (World.block_lt_of_cell? _ _ (hHeld.2.2.2.2.1))).trans (hHeld.2.2.2.2.1)
            have HS5_ := (hb.cell (World.block_lt_of_cell? _ _ (hHeld.2.2.2.2.2))).trans (hHeld.2.2.2.2.2)
            refine ⟨_, rfl, ?_⟩
            have n0_ := Aside0.mk (Kd.R_below (by (with_reducible repeat (first | apply Kd.R_alloc | apply Kd.R_drewN | apply Kd.R_drew)); exact HO_5.out) hb)
            have n1_ := Aside0.mk (blk_below (g := gb312) (o := .cells #[.int .i64 a0_0, .slice A0_1 l0_1.length c0_1] 24 (0, 0)) (by (with_reducible repeat (first | refine blk_drewN ?_ _ | refine blk_drew ?_ | refine blk_alloc ?_ _)); exact BK312.out) hb)
            have n2_ := Aside0.mk (blk_below (g := gb313) (o := .cells #[.int .i64 a1_0, .slice A1_1 l1_1.length c1_1] 24 (0, 0)) (by (with_reducible repeat (first | refine blk_drewN ?_ _ | refine blk_drew ?_ | refine blk_alloc ?_ _)); exact BK313.out) hb)
            have n3_ := Aside0.mk (below_step (by repeat (first | (with_reducible first | exact HB.out | apply below_alloc | apply pw_below_drewN | apply below_drew1 | refine below_set ?_ GE312.out | refine below_set ?_ GE313.out) | exact HB.out)) hb)
            clear HO_5
            clear BK312
            clear BK313
            clear HB
            have HO_5 := n0_
            have BK312 := n1_
            have BK313 := n2_
            have HB := n3_
            clear n0_ n1_ n2_ n3_
            (try clear hb)
            (try clear hb2)
            (try clear hk)
            (try clear hi)
            refine hK.out _ _ ⟨(blk_cell BK313.out 0).trans rfl, (blk_cell BK313.out 1).trans rfl, (blk_cell BK312.out 0).trans rfl, (blk_cell BK312.out 1).trans rfl, HS4_, HS5_⟩ (fun hHeld => ?_)
            clear hK K
            refine norm_ (a' := ?_) ?_ ?_
            rotate_left
            · show Act.put _ (some 26) _ = _
              simp only [Act.put, List.setIfInBounds_toArray, List.set_cons_zero, List.set_cons_succ, i64_w, i32_w]
              rfl
            refine pure_ (i := 12) (N := some 27) (v := ?_) (a' := ?_) #[true, true, true, true, true, true, true, true, true, true, true, true, true] rfl rfl (any_of HT_.out (by kernel_rfl)) (fun _ _ _ h => h) (Or.inl ⟨by rfl, ?_⟩) ?_ ?_
            rotate_left
            · intro w'
              go_simp
              with_reducible rfl
            rotate_left
            · simp only [Act.put, List.setIfInBounds_toArray, List.set_cons_zero, List.set_cons_succ, i64_w, i32_w]
              rfl
            refine done_ (done_of HT_.out (by kernel_rfl)) ?_
            try go_wp2
            go_ret
            exact ⟨by first | rfl | (simp [errW_none, errW_some] <;> rfl) | (simp [*, errW_none, errW_some] <;> rfl), by repeat (first | (with_reducible first | exact HB.out | apply below_alloc | apply pw_below_drewN | apply below_drew1 | refine below_set ?_ GE312.out | refine below_set ?_ GE313.out) | exact HB.out)⟩
          · rw [if_neg c13] at H
            have c13b0 : decide (t320 < t318) = false := decide_eq_false c13
            clear c13
            have H' := Aside0.mk H
            clear H
            obtain ⟨Ao18, co18, eo18⟩ := Kd.R_slice HO_5.out
            subst eo18
            try go_wp2
            have n0_ := Aside0.mk (Kd.R_drew HO_5.out)
            have n1_ := Aside0.mk (blk_drew BK312.out)
            have n2_ := Aside0.mk (blk_drew BK313.out)
            have n3_ := Aside0.mk (below_drew1 HB.out)
            clear HO_5
            clear BK312
            clear BK313
            clear HB
            have HO_5 := n0_
            have BK312 := n1_
            have BK313 := n2_
            have HB := n3_
            clear n0_ n1_ n2_ n3_
            have p317 : 0 ≤ (x6_1 : Int) := of_decide_eq_true (by first | (with_reducible assumption) | assumption)
            have q317 : x6_1 < (t314.length : Int) := of_decide_eq_true (by first | (with_reducible assumption) | assumption)
            obtain ⟨ad317, e317, hx317_0⟩ := Kd.at_int (Kd.R_reads' HO_5.out).2.2 x6_1 p317 q317
            cases e317
            replace p317 := eq_true p317
            replace q317 := eq_true q317
            have p319 : 0 ≤ (x6_1 : Int) := of_decide_eq_true (by first | (with_reducible assumption) | assumption)
            have q319 : x6_1 < (t314.length : Int) := of_decide_eq_true (by first | (with_reducible assumption) | assumption)
            obtain ⟨ad319, e319, hx319_0⟩ := Kd.at_int (Kd.R_reads' HO_5.out).2.2 x6_1 p319 q319
            obtain rfl : ad317 = ad319 := (by injection e319)
            replace p319 := eq_true p319
            replace q319 := eq_true q319
            refine start_ (n := 13) (S := fun w' => w'.cell? ⟨gb313, 0, none⟩ = some (.int .i64 a1_0) ∧ w'.cell? ⟨gb313, 1, none⟩ = some (.slice A1_1 l1_1.length c1_1) ∧ w'.cell? ⟨gb312, 0, none⟩ = some (.int .i64 a0_0) ∧ w'.cell? ⟨gb312, 1, none⟩ = some (.slice A0_1 l0_1.length c0_1) ∧ w'.cell? (ad317.add (x6_1).toNat) = some (.int .i64 (rd t314 x6_1)) ∧ w'.cell? (ad317.add (x6_1).toNat) = some (.int .i64 (rd t314 x6_1))) (ds := []) #[false, false, false, false, false, false, false, false, false, false, false, false, false] (by kernel_rfl) rfl rfl ⟨(blk_cell BK313.out 0).trans rfl, (blk_cell BK313.out 1).trans rfl, (blk_cell BK312.out 0).trans rfl, (blk_cell BK312.out 1).trans rfl, hx317_0, hx319_0⟩ (fun hHeld => ?_); refine with_tabW soritesref10_Covers.tab5 soritesref10_Covers.bits5 (fun HT_ HW_ => ?_)
            generalize wr.drew = w19 at HO_5 BK312 BK313 HB hx317_0 hx319_0 hHeld ⊢
            refine pure_ (i := 1) (N := some 16) (v := ?_) (a' := ?_) #[false, true, false, false, false, false, false, false, false, false, false, false, false] rfl rfl (any_of HT_.out (by kernel_rfl)) (fun _ _ _ h => h) (Or.inl ⟨by rfl, ?_⟩) ?_ ?_
            rotate_left
            · intro w'
              go_simp
              with_reducible rfl
            rotate_left
            · simp only [Act.put, List.setIfInBounds_toArray, List.set_cons_zero, List.set_cons_succ, i64_w, i32_w]
              rfl
            refine pure_ (i := 2) (N := some 17) (v := ?_) (a' := ?_) #[false, true, true, false, false, false, false, false, false, false, false, false, false] rfl rfl (any_of HT_.out (by kernel_rfl)) (fun _ _ _ h => h) (Or.inl ⟨by rfl, ?_⟩) ?_ ?_
            rotate_left
            · intro w'
              go_simp
              with_reducible rfl
            rotate_left
            · simp only [Act.put, List.setIfInBounds_toArray, List.set_cons_zero, List.set_cons_succ, i64_w, i32_w]
              rfl
            refine pure_ (i := 3) (N := some 18) (v := ?_) (a' := ?_) #[false, true, true, true, false, false, false, false, false, false, false, false, false] rfl rfl (any_of HT_.out (by kernel_rfl)) (fun _ _ _ h => h) (Or.inl ⟨by rfl, ?_⟩) ?_ ?_
            rotate_left
            · intro w'
              go_simp
              with_reducible rfl
            rotate_left
            · simp only [Act.put, List.setIfInBounds_toArray, List.set_cons_zero, List.set_cons_succ, i64_w, i32_w]
              rfl
            refine pure_ (i := 7) (N := some 22) (v := ?_) (a' := ?_) #[false, true, true, true, false, false, false, true, false, false, false, false, false] rfl rfl (any_of HT_.out (by kernel_rfl)) (fun _ _ _ h => h) (Or.inl ⟨by rfl, ?_⟩) ?_ ?_
            rotate_left
            · intro w'
              go_simp
              with_reducible rfl
            rotate_left
            · simp only [Act.put, List.setIfInBounds_toArray, List.set_cons_zero, List.set_cons_succ, i64_w, i32_w]
              rfl
            refine pure_ (i := 8) (N := some 23) (v := ?_) (a' := ?_) #[false, true, true, true, false, false, false, true, true, false, false, false, false] rfl rfl (any_of HT_.out (by kernel_rfl)) (fun _ _ _ h => h) (Or.inl ⟨by rfl, ?_⟩) ?_ ?_
            rotate_left
            · intro w'
              go_simp
              with_reducible rfl
            rotate_left
            · simp only [Act.put, List.setIfInBounds_toArray, List.set_cons_zero, List.set_cons_succ, i64_w, i32_w]
              rfl
            refine pure_ (i := 9) (N := some 24) (v := ?_) (a' := ?_) #[false, true, true, true, false, false, false, true, true, true, false, false, false] rfl rfl (any_of HT_.out (by kernel_rfl)) (fun _ _ _ h => h) (Or.inl ⟨by rfl, ?_⟩) ?_ ?_
            rotate_left
            · intro w'
              go_simp
              with_reducible rfl
            rotate_left
            · simp only [Act.put, List.setIfInBounds_toArray, List.set_cons_zero, List.set_cons_succ, i64_w, i32_w]
              rfl
            refine take_ (i := 0) (N := some 15) (v := ?_) (a' := ?_) #[true, true, true, true, false, false, false, true, true, true, false, false, false] rfl rfl (take_ofW HT_.out HW_.out (by kernel_rfl)) (fun _ _ _ h => h) (Or.inl ⟨by rfl, ?_⟩) hHeld ?_ ?_
            rotate_left
            · rintro w' ⟨s0, s1, s2, s3, s4, s5⟩
              go_simp
              with_reducible rfl
            rotate_left
            · simp only [Act.put, List.setIfInBounds_toArray, List.set_cons_zero, List.set_cons_succ, i64_w, i32_w]
              rfl
            refine take_ (i := 4) (N := some 19) (v := ?_) (a' := ?_) #[true, true, true, true, true, false, false, true, true, true, false, false, false] rfl rfl (take_ofW HT_.out HW_.out (by kernel_rfl)) (fun _ _ _ h => h) (Or.inl ⟨by rfl, ?_⟩) hHeld ?_ ?_
            rotate_left
            · rintro w' ⟨s0, s1, s2, s3, s4, s5⟩
              go_simp
              with_reducible rfl
            rotate_left
            · simp only [Act.put, List.setIfInBounds_toArray, List.set_cons_zero, List.set_cons_succ, i64_w, i32_w]
              rfl
            refine take_ (i := 6) (N := some 21) (v := ?_) (a' := ?_) #[true, true, true, true, true, false, true, true, true, true, false, false, false] rfl rfl (take_ofW HT_.out HW_.out (by kernel_rfl)) (fun _ _ _ h => h) (Or.inl ⟨by rfl, ?_⟩) hHeld ?_ ?_
            rotate_left
            · rintro w' ⟨s0, s1, s2, s3, s4, s5⟩
              go_simp
              with_reducible rfl
            rotate_left
            · simp only [Act.put, List.setIfInBounds_toArray, List.set_cons_zero, List.set_cons_succ, i64_w, i32_w]
              rfl
            refine take_ (i := 10) (N := some 25) (v := ?_) (a' := ?_) #[true, true, true, true, true, false, true, true, true, true, true, false, false] rfl rfl (take_ofW HT_.out HW_.out (by kernel_rfl)) (fun _ _ _ h => h) (Or.inl ⟨by rfl, ?_⟩) hHeld ?_ ?_
            rotate_left
            · rintro w' ⟨s0, s1, s2, s3, s4, s5⟩
              go_simp
              with_reducible rfl
            rotate_left
            · simp only [Act.put, List.setIfInBounds_toArray, List.set_cons_zero, List.set_cons_succ, i64_w, i32_w]
              rfl
            refine one_ (i := 5) (N := some 20) #[true, true, true, true, true, true, true, true, true, true, true, false, false] rfl rfl (one_of HT_.out (by kernel_rfl)) (by decide) (fun K hK => ?_)
            refine goes_ Try.func80 (by kernel_rfl) rfl #[.agg #[.int .i64 a1_0, .slice A1_1 l1_1.length c1_1], .int .i64 (rd t314 x6_1)] (by rfl) rfl rfl (by (try simp only [List.map_toArray, List.map_cons, List.map_nil]); first | done | rfl | (simp only [List.length_drop, List.length_take]; rfl)) ?_
            with_reducible refine (soritesref10_count.calls k1 a1_0 _ _ l1_1 (rd t314 x6_1) t318 _ ?side1 ?side2 A11.out).mono ?_
            (case side1 => repeat (first | exact (Kd.C_below HR1_1.out HB.out) | (with_reducible refine Kd.C_alloc ?_ _) | (with_reducible refine Kd.C_drewN ?_ _) | (with_reducible refine Kd.C_drew ?_)))
            (case side2 => exact HC1_1.out)
            rintro e w20 ⟨rfl, hb⟩
            have HS4_ := (hb.cell (World.block_lt_of_cell? _ _ (hHeld.2.2.2.2.1))).trans (hHeld.2.2.2.2.1)
            have HS5_ := (hb.cell (World.block_lt_of_cell? _ _ (hHeld.2.2.2.2.2))).trans (hHeld.2.2.2.2.2)
            refine ⟨_, rfl, ?_⟩
            have n0_ := Aside0.mk (Kd.R_below (by (with_reducible repeat (first | apply Kd.R_alloc | apply Kd.R_drewN | apply Kd.R_drew)); exact HO_5.out) hb)
            have n1_ := Aside0.mk (blk_below (g := gb312) (o := .cells #[.int .i64 a0_0, .slice A0_1 l0_1.length c0_1] 24 (0, 0)) (by (with_reducible repeat (first | refine blk_drewN ?_ _ | refine blk_drew ?_ | refine blk_alloc ?_ _)); exact BK312.out) hb)
            have n2_ := Aside0.mk (blk_below (g := gb313) (o := .cells #[.int .i64 a1_0, .slice A1_1 l1_1.length c1_1] 24 (0, 0)) (by (with_reducible repeat (first | refine blk_drewN ?_ _ | refine blk_drew ?_ | refine blk_alloc ?_ _)); exact BK313.out) hb)
            have n3_ := Aside0.mk (below_step (by repeat (first | (with_reducible first | exact HB.out | apply below_alloc | apply pw_below_drewN | apply below_drew1 | refine below_set ?_ GE312.out | refine below_set ?_ GE313.out) | exact HB.out)) hb)
            clear HO_5
            clear BK312
            clear BK313
            clear HB
            have HO_5 := n0_
            have BK312 := n1_
            have BK313 := n2_
            have HB := n3_
            clear n0_ n1_ n2_ n3_
            (try clear hb)
            (try clear hb2)
            (try clear hk)
            (try clear hi)
            refine hK.out _ _ ⟨(blk_cell BK313.out 0).trans rfl, (blk_cell BK313.out 1).trans rfl, (blk_cell BK312.out 0).trans rfl, (blk_cell BK312.out 1).trans rfl, HS4_, HS5_⟩ (fun hHeld => ?_)
            clear hK K
            refine norm_ (a' := ?_) ?_ ?_
            rotate_left
            · show Act.put _ (some 20) _ = _
              simp only [Act.put, List.setIfInBounds_toArray, List.set_cons_zero, List.set_cons_succ, i64_w, i32_w]
              rfl
            refine one_ (i := 11) (N := some 26) #[true, true, true, true, true, true, true, true, true, true, true, true, false] rfl rfl (one_of HT_.out (by kernel_rfl)) (by decide) (fun K hK => ?_)
            refine goes_ Try.func80 (by kernel_rfl) rfl #[.agg #[.int .i64 a0_0, .slice A0_1 l0_1.length c0_1], .int .i64 (rd t314 x6_1)] (by rfl) rfl rfl (by (try simp only [List.map_toArray, List.map_cons, List.map_nil]); first | done | rfl | (simp only [List.length_drop, List.length_take]; rfl)) ?_
            with_reducible refine (soritesref10_count.calls k1 a0_0 _ _ l0_1 (rd t314 x6_1) t320 _ ?side1 ?side2 A12.out).mono ?_
            (case side1 => repeat (first | exact (Kd.C_below HR0_1.out HB.out) | (with_reducible refine Kd.C_alloc ?_ _) | (with_reducible refine Kd.C_drewN ?_ _) | (with_reducible refine Kd.C_drew ?_)))
            (case side2 => exact HC0_1.out)
            rintro e w21 ⟨rfl, hb⟩
            have HS4_ := (hb.cell (World.block_lt_of_cell? _ _ (hHeld.2.2.2.2.1))).trans (hHeld.2.2.2.2.1)
            have HS5_ := (hb.cell (World.block_lt_of_cell? _ _ (hHeld.2.2.2.2.2))).trans (hHeld.2.2.2.2.2)
            refine ⟨_, rfl, ?_⟩
            have n0_ := Aside0.mk (Kd.R_below (by (with_reducible repeat (first | apply Kd.R_alloc | apply Kd.R_drewN | apply Kd.R_drew)); exact HO_5.out) hb)
            have n1_ := Aside0.mk (blk_below (g := gb312) (o := .cells #[.int .i64 a0_0, .slice A0_1 l0_1.length c0_1] 24 (0, 0)) (by (with_reducible repeat (first | refine blk_drewN ?_ _ | refine blk_drew ?_ | refine blk_alloc ?_ _)); exact BK312.out) hb)
            have n2_ := Aside0.mk (blk_below (g := gb313) (o := .cells #[.int .i64 a1_0, .slice A1_1 l1_1.length c1_1] 24 (0, 0)) (by (with_reducible repeat (first | refine blk_drewN ?_ _ | refine blk_drew ?_ | refine blk_alloc ?_ _)); exact BK313.out) hb)
            have n3_ := Aside0.mk (below_step (by repeat (first | (with_reducible first | exact HB.out | apply below_alloc | apply pw_below_drewN | apply below_drew1 | refine below_set ?_ GE312.out | refine below_set ?_ GE313.out) | exact HB.out)) hb)
            clear HO_5
            clear BK312
            clear BK313
            clear HB
            have HO_5 := n0_
            have BK312 := n1_
            have BK313 := n2_
            have HB := n3_
            clear n0_ n1_ n2_ n3_
            (try clear hb)
            (try clear hb2)
            (try clear hk)
            (try clear hi)
            refine hK.out _ _ ⟨(blk_cell BK313.out 0).trans rfl, (blk_cell BK313.out 1).trans rfl, (blk_cell BK312.out 0).trans rfl, (blk_cell BK312.out 1).trans rfl, HS4_, HS5_⟩ (fun hHeld => ?_)
            clear hK K
            refine norm_ (a' := ?_) ?_ ?_
            rotate_left
            · show Act.put _ (some 26) _ = _
              simp only [Act.put, List.setIfInBounds_toArray, List.set_cons_zero, List.set_cons_succ, i64_w, i32_w]
              rfl
            refine pure_ (i := 12) (N := some 27) (v := ?_) (a' := ?_) #[true, true, true, true, true, true, true, true, true, true, true, true, true] rfl rfl (any_of HT_.out (by kernel_rfl)) (fun _ _ _ h => h) (Or.inl ⟨by rfl, ?_⟩) ?_ ?_
            rotate_left
            · intro w'
              go_simp
              with_reducible rfl
            rotate_left
            · simp only [Act.put, List.setIfInBounds_toArray, List.set_cons_zero, List.set_cons_succ, i64_w, i32_w]
              rfl
            refine done_ (done_of HT_.out (by kernel_rfl)) ?_
            try go_wp2
            go_roundg k1
            case measure => have := HK1.out; omega
            case rel => exact ⟨(wrap64 (x6_1 + 1)), (by first | rfl | (simp; done) | (simp [*]; done)), H', ⟨by have := HK1.out; omega⟩, ⟨by (with_reducible repeat (first | apply Kd.R_alloc | apply Kd.R_drewN | apply Kd.R_drew)); exact HO_5.out⟩, ⟨by (with_reducible repeat (first | refine blk_drewN ?_ _ | refine blk_drew ?_ | refine blk_alloc ?_ _)); exact BK312.out⟩, ⟨by (with_reducible repeat (first | refine blk_drewN ?_ _ | refine blk_drew ?_ | refine blk_alloc ?_ _)); exact BK313.out⟩, ⟨by repeat (first | (with_reducible first | exact HB.out | apply below_alloc | apply pw_below_drewN | apply below_drew1 | refine below_set ?_ GE312.out | refine below_set ?_ GE313.out) | exact HB.out)⟩⟩
        · rw [if_neg c10] at H
          exact absurd H (by simp)
      · rw [if_neg c9] at H
        have c9b0 : decide (x6_1 < (t314.length : Int)) = false := decide_eq_false c9
        clear c9
        obtain rfl := Option.some.inj H
        obtain ⟨Ao22, co22, eo22⟩ := Kd.R_slice HO_5.out
        subst eo22
        go_wp2
        go_ret
        exact ⟨by first | rfl | (simp [errW_none, errW_some] <;> rfl) | (simp [*, errW_none, errW_some] <;> rfl), by repeat (first | (with_reducible first | exact HB.out | apply below_alloc | apply pw_below_drewN | apply below_drew1 | refine below_set ?_ GE312.out | refine below_set ?_ GE313.out) | exact HB.out)⟩
end Go.Proofs.Ytpfddihcikiofaa.P
end
