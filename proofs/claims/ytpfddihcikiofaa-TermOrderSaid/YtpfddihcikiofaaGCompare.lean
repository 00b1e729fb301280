/- term.Compare. PRINTED by gen/gcompare.py. -/
import Derived.Test.YtpfddihcikiofaaGTold
import Derived.Test.YtpfddihcikiofaaPxCmpCompareInt
import Derived.Test.YtpfddihcikiofaaPxCmpOrInt
namespace Go.Proofs.Ytpfddihcikiofaa.P
open Go.RowKit Go.Proofs.YtpfddihcikiofaaW.PrintWords Go.Proofs.YtpfddihcikiofaaW.PrintLast Go.Proofs.YtpfddihcikiofaaW.PrintMore
set_option linter.unusedVariables false
set_option linter.unusedSimpArgs false

/-- The order of two numbers. -/
def cmpI (a b : Int) : Int := if a < b then -1 else if a > b then 1 else 0
def orI (a b c : Int) : Int := if a = 0 then (if b = 0 then c else b) else a
mutual
/-- The order of two terms, as term.Compare tells it. -/
def cmpT : S30 → S30 → Int
  | ⟨f, l⟩, ⟨g, m⟩ => if f < 0 ∨ g < 0 then (if f < 0 ∧ g < 0 then cmpI g f else cmpI f g) else orI (cmpI f g) (cmpI l.length m.length) (cmpTs l m)
def cmpTs : List S30 → List S30 → Int
  | [], [] => 0
  | [], _ :: _ => -1
  | _ :: _, [] => 1
  | x :: l, y :: m => if cmpT x y = 0 then cmpTs l m else cmpT x y
end
theorem isNaN_f (a : Int) : cmp_isNaN_int.f a = some false := by simp [cmp_isNaN_int.f]
theorem cmpI_f (a b : Int) : cmp_Compare_int.f a b = some (cmpI a b) := by
  simp only [cmp_Compare_int.f, isNaN_f, Option.bind_some, cmpI]
  simp
  split
  · rfl
  · split <;> rfl
theorem orI_f (a b c : Int) : Ev (fun k => cmp_Or_int.f k [a, b, c]) (orI a b c) := by
  refine ⟨4, fun k hk => ?_⟩
  obtain ⟨k, rfl⟩ : ∃ m, k = m + 4 := ⟨k - 4, by omega⟩
  simp only [cmp_Or_int.f, cmp_Or_int.l0, rd, List.length_cons, List.length_nil, orI, wrap64]
  simp
  by_cases ha : a = 0
  · simp [ha]
    by_cases hb : b = 0
    · simp [hb]
      by_cases hc : c = 0
      · simp [hc]
      · simp [hc]
    · simp [hb]
  · simp [ha]
def term_Compare.f (a0_0 : Int) (l0_1 : List S30) (a1_0 : Int) (l1_1 : List S30) : Option Int := some (cmpT ⟨a0_0, l0_1⟩ ⟨a1_0, l1_1⟩)

set_option maxHeartbeats 4000000 in
set_option maxRecDepth 100000 in
theorem Compare_r5 {id : Nat} {a : Act} {w : World} {Q : Exit → Act → World → Prop} {f g c1 c2 c3 r : Int} {A B : Option Addr} {nl nm c e g0 g1 : Nat}
    (hr : regionOk #[{ dst := some 31, op := Op.fieldAddr 30 (Operand.tmp 2) 0, type := 0, pos := "term.go:32", after := #[], guard := none }, { dst := some 32, op := Op.load 3 (Operand.tmp 31), type := 3, pos := "term.go:32", after := #[{ on := 0, ground := Ground.data }], guard := none }, { dst := some 33, op := Op.fieldAddr 30 (Operand.tmp 3) 0, type := 0, pos := "term.go:32", after := #[], guard := none }, { dst := some 34, op := Op.load 3 (Operand.tmp 33), type := 3, pos := "term.go:32", after := #[{ on := 2, ground := Ground.data }], guard := none }, { dst := some 35, op := Op.call { callee := Callee.value (Operand.func 76), args := #[Operand.tmp 32, Operand.tmp 34], argTypes := #[3, 3] }, type := 3, pos := "term.go:32", after := #[{ on := 1, ground := Ground.data }, { on := 3, ground := Ground.data }], guard := none }, { dst := some 36, op := Op.fieldAddr 30 (Operand.tmp 2) 1, type := 0, pos := "term.go:32", after := #[], guard := none }, { dst := some 37, op := Op.load 28 (Operand.tmp 36), type := 28, pos := "term.go:32", after := #[{ on := 5, ground := Ground.data }], guard := none }, { dst := some 38, op := Op.call { callee := Callee.builtin Builtin.len, args := #[Operand.tmp 37], argTypes := #[28] }, type := 3, pos := "term.go:32", after := #[{ on := 6, ground := Ground.data }], guard := none }, { dst := some 39, op := Op.fieldAddr 30 (Operand.tmp 3) 1, type := 0, pos := "term.go:32", after := #[], guard := none }, { dst := some 40, op := Op.load 28 (Operand.tmp 39), type := 28, pos := "term.go:32", after := #[{ on := 8, ground := Ground.data }], guard := none }, { dst := some 41, op := Op.call { callee := Callee.builtin Builtin.len, args := #[Operand.tmp 40], argTypes := #[28] }, type := 3, pos := "term.go:32", after := #[{ on := 9, ground := Ground.data }], guard := none }, { dst := some 42, op := Op.call { callee := Callee.value (Operand.func 76), args := #[Operand.tmp 38, Operand.tmp 41], argTypes := #[3, 3] }, type := 3, pos := "term.go:32", after := #[{ on := 7, ground := Ground.data }, { on := 10, ground := Ground.data }, { on := 4, ground := Ground.chain }], guard := none }, { dst := some 43, op := Op.fieldAddr 30 (Operand.tmp 2) 1, type := 0, pos := "term.go:32", after := #[], guard := none }, { dst := some 44, op := Op.load 28 (Operand.tmp 43), type := 28, pos := "term.go:32", after := #[{ on := 12, ground := Ground.data }], guard := none }, { dst := some 45, op := Op.fieldAddr 30 (Operand.tmp 3) 1, type := 0, pos := "term.go:32", after := #[], guard := none }, { dst := some 46, op := Op.load 28 (Operand.tmp 45), type := 28, pos := "term.go:32", after := #[{ on := 14, ground := Ground.data }], guard := none }, { dst := some 47, op := Op.call { callee := Callee.value (Operand.func 78), args := #[Operand.tmp 44, Operand.tmp 46, Operand.func 36], argTypes := #[28, 28, 49] }, type := 3, pos := "term.go:32", after := #[{ on := 13, ground := Ground.data }, { on := 15, ground := Ground.data }, { on := 11, ground := Ground.chain }], guard := none }, { dst := some 48, op := Op.buildSlice 25 3 #[(0, Operand.tmp 35), (1, Operand.tmp 42), (2, Operand.tmp 47)], type := 25, pos := "term.go:32", after := #[{ on := 4, ground := Ground.data }, { on := 11, ground := Ground.data }, { on := 16, ground := Ground.data }], guard := none }, { dst := some 49, op := Op.call { callee := Callee.value (Operand.func 77), args := #[Operand.tmp 48], argTypes := #[25] }, type := 3, pos := "term.go:32", after := #[{ on := 17, ground := Ground.data }, { on := 16, ground := Ground.chain }], guard := none }, { dst := some 4, op := Op.assign (Operand.tmp 49), type := 3, pos := "term.go:32", after := #[{ on := 18, ground := Ground.data }, { on := 18, ground := Ground.chain }, { on := 0, ground := Ground.phase }, { on := 1, ground := Ground.phase }, { on := 2, ground := Ground.phase }, { on := 3, ground := Ground.phase }, { on := 4, ground := Ground.phase }, { on := 5, ground := Ground.phase }, { on := 6, ground := Ground.phase }, { on := 7, ground := Ground.phase }, { on := 8, ground := Ground.phase }, { on := 9, ground := Ground.phase }, { on := 10, ground := Ground.phase }, { on := 11, ground := Ground.phase }, { on := 12, ground := Ground.phase }, { on := 13, ground := Ground.phase }, { on := 14, ground := Ground.phase }, { on := 15, ground := Ground.phase }, { on := 16, ground := Ground.phase }, { on := 17, ground := Ground.phase }, { on := 18, ground := Ground.phase }], guard := none }] a.tmps.size = true)
    (hT2 : a.tmps.getD 2 undef = .pointer (some ⟨g0, 0, none⟩)) (hX2 : w.heap[g0]? = some (.cells #[.int .i64 f, .slice A nl c] 30 (0, 0)))
    (hT3 : a.tmps.getD 3 undef = .pointer (some ⟨g1, 0, none⟩)) (hX3 : w.heap[g1]? = some (.cells #[.int .i64 g, .slice B nm e] 30 (0, 0)))
    (hF4 : ∀ w1, Below w.heap.size w w1 → Calls Try.prog 76 #[.int .i64 f, .int .i64 g] w1 fun e w2 => e = .returned (.int .i64 c1) ∧ Below w1.heap.size w1 w2)
    (hF11 : ∀ w1, Below w.heap.size w w1 → Calls Try.prog 76 #[.int .i64 (nl : Int), .int .i64 (nm : Int)] w1 fun e w2 => e = .returned (.int .i64 c2) ∧ Below w1.heap.size w1 w2)
    (hF16 : ∀ w1, Below w.heap.size w w1 → Calls Try.prog 78 #[.slice A nl c, .slice B nm e, .func (.func 36) #[] #[]] w1 fun e w2 => e = .returned (.int .i64 c3) ∧ Below w1.heap.size w1 w2)
    (hO : ∀ (w1 : World) (gs : Nat), w1.heap[gs]? = some (.cells #[.int .i64 c1, .int .i64 c2, .int .i64 c3] 3 (0, 0)) → Calls Try.prog 77 #[.slice (some ⟨gs, 0, none⟩) 3 3] w1 fun x w2 => x = .returned (.int .i64 r) ∧ Below w1.heap.size w1 w2) (hle : nl ≤ c) (hme : nm ≤ e)
    (hK : ∀ v w', Below w.heap.size w w' → v 19 = .int .i64 r → Q .normal { tmps := layL [some 31, some 32, some 33, some 34, some 35, some 36, some 37, some 38, some 39, some 40, some 41, some 42, some 43, some 44, some 45, some 46, some 47, some 48, some 49, some 4] 0 v a.tmps, defers := a.defers } w') :
    (Code.region id #[{ dst := some 31, op := Op.fieldAddr 30 (Operand.tmp 2) 0, type := 0, pos := "term.go:32", after := #[], guard := none }, { dst := some 32, op := Op.load 3 (Operand.tmp 31), type := 3, pos := "term.go:32", after := #[{ on := 0, ground := Ground.data }], guard := none }, { dst := some 33, op := Op.fieldAddr 30 (Operand.tmp 3) 0, type := 0, pos := "term.go:32", after := #[], guard := none }, { dst := some 34, op := Op.load 3 (Operand.tmp 33), type := 3, pos := "term.go:32", after := #[{ on := 2, ground := Ground.data }], guard := none }, { dst := some 35, op := Op.call { callee := Callee.value (Operand.func 76), args := #[Operand.tmp 32, Operand.tmp 34], argTypes := #[3, 3] }, type := 3, pos := "term.go:32", after := #[{ on := 1, ground := Ground.data }, { on := 3, ground := Ground.data }], guard := none }, { dst := some 36, op := Op.fieldAddr 30 (Operand.tmp 2) 1, type := 0, pos := "term.go:32", after := #[], guard := none }, { dst := some 37, op := Op.load 28 (Operand.tmp 36), type := 28, pos := "term.go:32", after := #[{ on := 5, ground := Ground.data }], guard := none }, { dst := some 38, op := Op.call { callee := Callee.builtin Builtin.len, args := #[Operand.tmp 37], argTypes := #[28] }, type := 3, pos := "term.go:32", after := #[{ on := 6, ground := Ground.data }], guard := none }, { dst := some 39, op := Op.fieldAddr 30 (Operand.tmp 3) 1, type := 0, pos := "term.go:32", after := #[], guard := none }, { dst := some 40, op := Op.load 28 (Operand.tmp 39), type := 28, pos := "term.go:32", after := #[{ on := 8, ground := Ground.data }], guard := none }, { dst := some 41, op := Op.call { callee := Callee.builtin Builtin.len, args := #[Operand.tmp 40], argTypes := #[28] }, type := 3, pos := "term.go:32", after := #[{ on := 9, ground := Ground.data }], guard := none }, { dst := some 42, op := Op.call { callee := Callee.value (Operand.func 76), args := #[Operand.tmp 38, Operand.tmp 41], argTypes := #[3, 3] }, type := 3, pos := "term.go:32", after := #[{ on := 7, ground := Ground.data }, { on := 10, ground := Ground.data }, { on := 4, ground := Ground.chain }], guard := none }, { dst := some 43, op := Op.fieldAddr 30 (Operand.tmp 2) 1, type := 0, pos := "term.go:32", after := #[], guard := none }, { dst := some 44, op := Op.load 28 (Operand.tmp 43), type := 28, pos := "term.go:32", after := #[{ on := 12, ground := Ground.data }], guard := none }, { dst := some 45, op := Op.fieldAddr 30 (Operand.tmp 3) 1, type := 0, pos := "term.go:32", after := #[], guard := none }, { dst := some 46, op := Op.load 28 (Operand.tmp 45), type := 28, pos := "term.go:32", after := #[{ on := 14, ground := Ground.data }], guard := none }, { dst := some 47, op := Op.call { callee := Callee.value (Operand.func 78), args := #[Operand.tmp 44, Operand.tmp 46, Operand.func 36], argTypes := #[28, 28, 49] }, type := 3, pos := "term.go:32", after := #[{ on := 13, ground := Ground.data }, { on := 15, ground := Ground.data }, { on := 11, ground := Ground.chain }], guard := none }, { dst := some 48, op := Op.buildSlice 25 3 #[(0, Operand.tmp 35), (1, Operand.tmp 42), (2, Operand.tmp 47)], type := 25, pos := "term.go:32", after := #[{ on := 4, ground := Ground.data }, { on := 11, ground := Ground.data }, { on := 16, ground := Ground.data }], guard := none }, { dst := some 49, op := Op.call { callee := Callee.value (Operand.func 77), args := #[Operand.tmp 48], argTypes := #[25] }, type := 3, pos := "term.go:32", after := #[{ on := 17, ground := Ground.data }, { on := 16, ground := Ground.chain }], guard := none }, { dst := some 4, op := Op.assign (Operand.tmp 49), type := 3, pos := "term.go:32", after := #[{ on := 18, ground := Ground.data }, { on := 18, ground := Ground.chain }, { on := 0, ground := Ground.phase }, { on := 1, ground := Ground.phase }, { on := 2, ground := Ground.phase }, { on := 3, ground := Ground.phase }, { on := 4, ground := Ground.phase }, { on := 5, ground := Ground.phase }, { on := 6, ground := Ground.phase }, { on := 7, ground := Ground.phase }, { on := 8, ground := Ground.phase }, { on := 9, ground := Ground.phase }, { on := 10, ground := Ground.phase }, { on := 11, ground := Ground.phase }, { on := 12, ground := Ground.phase }, { on := 13, ground := Ground.phase }, { on := 14, ground := Ground.phase }, { on := 15, ground := Ground.phase }, { on := 16, ground := Ground.phase }, { on := 17, ground := Ground.phase }, { on := 18, ground := Ground.phase }], guard := none }] true).wp Try.prog Q a w := by
  have hmx : Try.prog.follows .mixedOrders = true := by kernel_rfl
  refine region_detR 20 hmx hr (by kernel_rfl) ?_
  refine DetR.is (o := { dst := some 31, op := Op.fieldAddr 30 (Operand.tmp 2) 0, type := 0, pos := "term.go:32", after := #[], guard := none }) (u := ?ux1) rfl (by decide) (fun T w' hb hd hB K hK => ?sx1) ?rx1
  case sx1 =>
    have e2 := (hB 2 (by kernel_rfl)).trans hT2
    have q2_0 : w'.cell? ⟨g0, 0, none⟩ = some (.int .i64 f) := (blk_cell (blk_below hX2 hb) 0).trans rfl
    have q2_1 : w'.cell? ⟨g0, 1, none⟩ = some (.slice A nl c) := (blk_cell (blk_below hX2 hb) 1).trans rfl
    rw [if_pos (wanted_none _ rfl)]
    clear hd hB
    go_simp
    exact hK _ (Below.refl _ _)
  refine DetR.is (o := { dst := some 32, op := Op.load 3 (Operand.tmp 31), type := 3, pos := "term.go:32", after := #[{ on := 0, ground := Ground.data }], guard := none }) (u := ?ux2) rfl (by decide) (fun T w' hb hd hB K hK => ?sx2) ?rx2
  case sx2 =>
    have e31 := hd 0 31 _ (by decide) (by kernel_rfl) rfl rfl
    replace e31 : T.getD 31 undef = _ := e31
    rw [if_pos (wanted_none _ rfl)]
    have q2_0 : w'.cell? ⟨g0, 0, none⟩ = some (.int .i64 f) := (blk_cell (blk_below hX2 hb) 0).trans rfl
    have q2_1 : w'.cell? ⟨g0, 1, none⟩ = some (.slice A nl c) := (blk_cell (blk_below hX2 hb) 1).trans rfl
    have q3_0 : w'.cell? ⟨g1, 0, none⟩ = some (.int .i64 g) := (blk_cell (blk_below hX3 hb) 0).trans rfl
    have q3_1 : w'.cell? ⟨g1, 1, none⟩ = some (.slice B nm e) := (blk_cell (blk_below hX3 hb) 1).trans rfl
    clear hd hB
    go_simp
    exact hK _ (Below.refl _ _)
  refine DetR.is (o := { dst := some 33, op := Op.fieldAddr 30 (Operand.tmp 3) 0, type := 0, pos := "term.go:32", after := #[], guard := none }) (u := ?ux3) rfl (by decide) (fun T w' hb hd hB K hK => ?sx3) ?rx3
  case sx3 =>
    have e3 := (hB 3 (by kernel_rfl)).trans hT3
    have q3_0 : w'.cell? ⟨g1, 0, none⟩ = some (.int .i64 g) := (blk_cell (blk_below hX3 hb) 0).trans rfl
    have q3_1 : w'.cell? ⟨g1, 1, none⟩ = some (.slice B nm e) := (blk_cell (blk_below hX3 hb) 1).trans rfl
    rw [if_pos (wanted_none _ rfl)]
    clear hd hB
    go_simp
    exact hK _ (Below.refl _ _)
  refine DetR.is (o := { dst := some 34, op := Op.load 3 (Operand.tmp 33), type := 3, pos := "term.go:32", after := #[{ on := 2, ground := Ground.data }], guard := none }) (u := ?ux4) rfl (by decide) (fun T w' hb hd hB K hK => ?sx4) ?rx4
  case sx4 =>
    have e33 := hd 2 33 _ (by decide) (by kernel_rfl) rfl rfl
    replace e33 : T.getD 33 undef = _ := e33
    rw [if_pos (wanted_none _ rfl)]
    have q2_0 : w'.cell? ⟨g0, 0, none⟩ = some (.int .i64 f) := (blk_cell (blk_below hX2 hb) 0).trans rfl
    have q2_1 : w'.cell? ⟨g0, 1, none⟩ = some (.slice A nl c) := (blk_cell (blk_below hX2 hb) 1).trans rfl
    have q3_0 : w'.cell? ⟨g1, 0, none⟩ = some (.int .i64 g) := (blk_cell (blk_below hX3 hb) 0).trans rfl
    have q3_1 : w'.cell? ⟨g1, 1, none⟩ = some (.slice B nm e) := (blk_cell (blk_below hX3 hb) 1).trans rfl
    clear hd hB
    go_simp
    exact hK _ (Below.refl _ _)
  refine DetR.is (o := { dst := some 35, op := Op.call { callee := Callee.value (Operand.func 76), args := #[Operand.tmp 32, Operand.tmp 34], argTypes := #[3, 3] }, type := 3, pos := "term.go:32", after := #[{ on := 1, ground := Ground.data }, { on := 3, ground := Ground.data }], guard := none }) (u := ?ux5) rfl (by decide) (fun T w' hb hd hB K hK => ?sx5) ?rx5
  case sx5 =>
    have e32 := hd 1 32 _ (by decide) (by kernel_rfl) rfl rfl
    replace e32 : T.getD 32 undef = _ := e32
    have e34 := hd 3 34 _ (by decide) (by kernel_rfl) rfl rfl
    replace e34 : T.getD 34 undef = _ := e34
    rw [if_pos (wanted_none _ rfl)]
    have hcl := hF4 w' hb
    clear hd hB
    go_simp
    go_at_call 76
    refine hcl.mono ?_
    rintro e w2 ⟨rfl, h2⟩
    exact hK _ h2
  refine DetR.is (o := { dst := some 36, op := Op.fieldAddr 30 (Operand.tmp 2) 1, type := 0, pos := "term.go:32", after := #[], guard := none }) (u := ?ux6) rfl (by decide) (fun T w' hb hd hB K hK => ?sx6) ?rx6
  case sx6 =>
    have e2 := (hB 2 (by kernel_rfl)).trans hT2
    have q2_0 : w'.cell? ⟨g0, 0, none⟩ = some (.int .i64 f) := (blk_cell (blk_below hX2 hb) 0).trans rfl
    have q2_1 : w'.cell? ⟨g0, 1, none⟩ = some (.slice A nl c) := (blk_cell (blk_below hX2 hb) 1).trans rfl
    rw [if_pos (wanted_none _ rfl)]
    clear hd hB
    go_simp
    exact hK _ (Below.refl _ _)
  refine DetR.is (o := { dst := some 37, op := Op.load 28 (Operand.tmp 36), type := 28, pos := "term.go:32", after := #[{ on := 5, ground := Ground.data }], guard := none }) (u := ?ux7) rfl (by decide) (fun T w' hb hd hB K hK => ?sx7) ?rx7
  case sx7 =>
    have e36 := hd 5 36 _ (by decide) (by kernel_rfl) rfl rfl
    replace e36 : T.getD 36 undef = _ := e36
    rw [if_pos (wanted_none _ rfl)]
    have q2_0 : w'.cell? ⟨g0, 0, none⟩ = some (.int .i64 f) := (blk_cell (blk_below hX2 hb) 0).trans rfl
    have q2_1 : w'.cell? ⟨g0, 1, none⟩ = some (.slice A nl c) := (blk_cell (blk_below hX2 hb) 1).trans rfl
    have q3_0 : w'.cell? ⟨g1, 0, none⟩ = some (.int .i64 g) := (blk_cell (blk_below hX3 hb) 0).trans rfl
    have q3_1 : w'.cell? ⟨g1, 1, none⟩ = some (.slice B nm e) := (blk_cell (blk_below hX3 hb) 1).trans rfl
    clear hd hB
    go_simp
    exact hK _ (Below.refl _ _)
  refine DetR.is (o := { dst := some 38, op := Op.call { callee := Callee.builtin Builtin.len, args := #[Operand.tmp 37], argTypes := #[28] }, type := 3, pos := "term.go:32", after := #[{ on := 6, ground := Ground.data }], guard := none }) (u := ?ux8) rfl (by decide) (fun T w' hb hd hB K hK => ?sx8) ?rx8
  case sx8 =>
    have e37 := hd 6 37 _ (by decide) (by kernel_rfl) rfl rfl
    replace e37 : T.getD 37 undef = _ := e37
    rw [if_pos (wanted_none _ rfl)]
    clear hd hB
    go_simp
    exact hK _ (Below.refl _ _)
  refine DetR.is (o := { dst := some 39, op := Op.fieldAddr 30 (Operand.tmp 3) 1, type := 0, pos := "term.go:32", after := #[], guard := none }) (u := ?ux9) rfl (by decide) (fun T w' hb hd hB K hK => ?sx9) ?rx9
  case sx9 =>
    have e3 := (hB 3 (by kernel_rfl)).trans hT3
    have q3_0 : w'.cell? ⟨g1, 0, none⟩ = some (.int .i64 g) := (blk_cell (blk_below hX3 hb) 0).trans rfl
    have q3_1 : w'.cell? ⟨g1, 1, none⟩ = some (.slice B nm e) := (blk_cell (blk_below hX3 hb) 1).trans rfl
    rw [if_pos (wanted_none _ rfl)]
    clear hd hB
    go_simp
    exact hK _ (Below.refl _ _)
  refine DetR.is (o := { dst := some 40, op := Op.load 28 (Operand.tmp 39), type := 28, pos := "term.go:32", after := #[{ on := 8, ground := Ground.data }], guard := none }) (u := ?ux10) rfl (by decide) (fun T w' hb hd hB K hK => ?sx10) ?rx10
  case sx10 =>
    have e39 := hd 8 39 _ (by decide) (by kernel_rfl) rfl rfl
    replace e39 : T.getD 39 undef = _ := e39
    rw [if_pos (wanted_none _ rfl)]
    have q2_0 : w'.cell? ⟨g0, 0, none⟩ = some (.int .i64 f) := (blk_cell (blk_below hX2 hb) 0).trans rfl
    have q2_1 : w'.cell? ⟨g0, 1, none⟩ = some (.slice A nl c) := (blk_cell (blk_below hX2 hb) 1).trans rfl
    have q3_0 : w'.cell? ⟨g1, 0, none⟩ = some (.int .i64 g) := (blk_cell (blk_below hX3 hb) 0).trans rfl
    have q3_1 : w'.cell? ⟨g1, 1, none⟩ = some (.slice B nm e) := (blk_cell (blk_below hX3 hb) 1).trans rfl
    clear hd hB
    go_simp
    exact hK _ (Below.refl _ _)
  refine DetR.is (o := { dst := some 41, op := Op.call { callee := Callee.builtin Builtin.len, args := #[Operand.tmp 40], argTypes := #[28] }, type := 3, pos := "term.go:32", after := #[{ on := 9, ground := Ground.data }], guard := none }) (u := ?ux11) rfl (by decide) (fun T w' hb hd hB K hK => ?sx11) ?rx11
  case sx11 =>
    have e40 := hd 9 40 _ (by decide) (by kernel_rfl) rfl rfl
    replace e40 : T.getD 40 undef = _ := e40
    rw [if_pos (wanted_none _ rfl)]
    clear hd hB
    go_simp
    exact hK _ (Below.refl _ _)
  refine DetR.is (o := { dst := some 42, op := Op.call { callee := Callee.value (Operand.func 76), args := #[Operand.tmp 38, Operand.tmp 41], argTypes := #[3, 3] }, type := 3, pos := "term.go:32", after := #[{ on := 7, ground := Ground.data }, { on := 10, ground := Ground.data }, { on := 4, ground := Ground.chain }], guard := none }) (u := ?ux12) rfl (by decide) (fun T w' hb hd hB K hK => ?sx12) ?rx12
  case sx12 =>
    have e38 := hd 7 38 _ (by decide) (by kernel_rfl) rfl rfl
    replace e38 : T.getD 38 undef = _ := e38
    have e41 := hd 10 41 _ (by decide) (by kernel_rfl) rfl rfl
    replace e41 : T.getD 41 undef = _ := e41
    rw [if_pos (wanted_none _ rfl)]
    have hcl := hF11 w' hb
    clear hd hB
    go_simp
    go_at_call 76
    refine hcl.mono ?_
    rintro e w2 ⟨rfl, h2⟩
    exact hK _ h2
  refine DetR.is (o := { dst := some 43, op := Op.fieldAddr 30 (Operand.tmp 2) 1, type := 0, pos := "term.go:32", after := #[], guard := none }) (u := ?ux13) rfl (by decide) (fun T w' hb hd hB K hK => ?sx13) ?rx13
  case sx13 =>
    have e2 := (hB 2 (by kernel_rfl)).trans hT2
    have q2_0 : w'.cell? ⟨g0, 0, none⟩ = some (.int .i64 f) := (blk_cell (blk_below hX2 hb) 0).trans rfl
    have q2_1 : w'.cell? ⟨g0, 1, none⟩ = some (.slice A nl c) := (blk_cell (blk_below hX2 hb) 1).trans rfl
    rw [if_pos (wanted_none _ rfl)]
    clear hd hB
    go_simp
    exact hK _ (Below.refl _ _)
  refine DetR.is (o := { dst := some 44, op := Op.load 28 (Operand.tmp 43), type := 28, pos := "term.go:32", after := #[{ on := 12, ground := Ground.data }], guard := none }) (u := ?ux14) rfl (by decide) (fun T w' hb hd hB K hK => ?sx14) ?rx14
  case sx14 =>
    have e43 := hd 12 43 _ (by decide) (by kernel_rfl) rfl rfl
    replace e43 : T.getD 43 undef = _ := e43
    rw [if_pos (wanted_none _ rfl)]
    have q2_0 : w'.cell? ⟨g0, 0, none⟩ = some (.int .i64 f) := (blk_cell (blk_below hX2 hb) 0).trans rfl
    have q2_1 : w'.cell? ⟨g0, 1, none⟩ = some (.slice A nl c) := (blk_cell (blk_below hX2 hb) 1).trans rfl
    have q3_0 : w'.cell? ⟨g1, 0, none⟩ = some (.int .i64 g) := (blk_cell (blk_below hX3 hb) 0).trans rfl
    have q3_1 : w'.cell? ⟨g1, 1, none⟩ = some (.slice B nm e) := (blk_cell (blk_below hX3 hb) 1).trans rfl
    clear hd hB
    go_simp
    exact hK _ (Below.refl _ _)
  refine DetR.is (o := { dst := some 45, op := Op.fieldAddr 30 (Operand.tmp 3) 1, type := 0, pos := "term.go:32", after := #[], guard := none }) (u := ?ux15) rfl (by decide) (fun T w' hb hd hB K hK => ?sx15) ?rx15
  case sx15 =>
    have e3 := (hB 3 (by kernel_rfl)).trans hT3
    have q3_0 : w'.cell? ⟨g1, 0, none⟩ = some (.int .i64 g) := (blk_cell (blk_below hX3 hb) 0).trans rfl
    have q3_1 : w'.cell? ⟨g1, 1, none⟩ = some (.slice B nm e) := (blk_cell (blk_below hX3 hb) 1).trans rfl
    rw [if_pos (wanted_none _ rfl)]
    clear hd hB
    go_simp
    exact hK _ (Below.refl _ _)
  refine DetR.is (o := { dst := some 46, op := Op.load 28 (Operand.tmp 45), type := 28, pos := "term.go:32", after := #[{ on := 14, ground := Ground.data }], guard := none }) (u := ?ux16) rfl (by decide) (fun T w' hb hd hB K hK => ?sx16) ?rx16
  case sx16 =>
    have e45 := hd 14 45 _ (by decide) (by kernel_rfl) rfl rfl
    replace e45 : T.getD 45 undef = _ := e45
    rw [if_pos (wanted_none _ rfl)]
    have q2_0 : w'.cell? ⟨g0, 0, none⟩ = some (.int .i64 f) := (blk_cell (blk_below hX2 hb) 0).trans rfl
    have q2_1 : w'.cell? ⟨g0, 1, none⟩ = some (.slice A nl c) := (blk_cell (blk_below hX2 hb) 1).trans rfl
    have q3_0 : w'.cell? ⟨g1, 0, none⟩ = some (.int .i64 g) := (blk_cell (blk_below hX3 hb) 0).trans rfl
    have q3_1 : w'.cell? ⟨g1, 1, none⟩ = some (.slice B nm e) := (blk_cell (blk_below hX3 hb) 1).trans rfl
    clear hd hB
    go_simp
    exact hK _ (Below.refl _ _)
  refine DetR.is (o := { dst := some 47, op := Op.call { callee := Callee.value (Operand.func 78), args := #[Operand.tmp 44, Operand.tmp 46, Operand.func 36], argTypes := #[28, 28, 49] }, type := 3, pos := "term.go:32", after := #[{ on := 13, ground := Ground.data }, { on := 15, ground := Ground.data }, { on := 11, ground := Ground.chain }], guard := none }) (u := ?ux17) rfl (by decide) (fun T w' hb hd hB K hK => ?sx17) ?rx17
  case sx17 =>
    have e44 := hd 13 44 _ (by decide) (by kernel_rfl) rfl rfl
    replace e44 : T.getD 44 undef = _ := e44
    have e46 := hd 15 46 _ (by decide) (by kernel_rfl) rfl rfl
    replace e46 : T.getD 46 undef = _ := e46
    rw [if_pos (wanted_none _ rfl)]
    have hcl := hF16 w' hb
    clear hd hB
    go_simp
    go_at_call 78
    refine hcl.mono ?_
    rintro e w2 ⟨rfl, h2⟩
    exact hK _ h2
  refine DetR.cons (o := { dst := some 48, op := Op.buildSlice 25 3 #[(0, Operand.tmp 35), (1, Operand.tmp 42), (2, Operand.tmp 47)], type := 25, pos := "term.go:32", after := #[{ on := 4, ground := Ground.data }, { on := 11, ground := Ground.data }, { on := 16, ground := Ground.data }], guard := none }) (BlockTold 0 (fun g => .slice (some ⟨g, 0, none⟩) 3 3) #[.int .i64 c1, .int .i64 c2, .int .i64 c3] 3) rfl (by decide) (BlockTold.grows _ _ _ _) (fun T w' hb hd hB K hK => ?sx18) ?rx18
  case sx18 =>
    have e35 := hd 4 35 _ (by decide) (by kernel_rfl) rfl rfl
    replace e35 : T.getD 35 undef = _ := e35
    have e42 := hd 11 42 _ (by decide) (by kernel_rfl) rfl rfl
    replace e42 : T.getD 42 undef = _ := e42
    have e47 := hd 16 47 _ (by decide) (by kernel_rfl) rfl rfl
    replace e47 : T.getD 47 undef = _ := e47
    rw [if_pos (wanted_none _ rfl)]
    have z35 : T[35]?.getD undef = _ := Array.getD_eq_getD_getElem?.symm.trans e35
    have z42 : T[42]?.getD undef = _ := Array.getD_eq_getD_getElem?.symm.trans e42
    have z47 : T[47]?.getD undef = _ := Array.getD_eq_getD_getElem?.symm.trans e47
    clear hd hB
    go_simp
    exact hK _ _ (below_alloc (Below.refl _ _) _) ⟨w'.heap.size, rfl, Nat.zero_le _, heap_alloc_new _ _⟩
  refine DetR.is (o := { dst := some 49, op := Op.call { callee := Callee.value (Operand.func 77), args := #[Operand.tmp 48], argTypes := #[25] }, type := 3, pos := "term.go:32", after := #[{ on := 17, ground := Ground.data }, { on := 16, ground := Ground.chain }], guard := none }) (u := ?ux19) rfl (by decide) (fun T w' hb hd hB K hK => ?sx19) ?rx19
  case sx19 =>
    obtain ⟨gs, e48, hge, hbs⟩ := (hd 17 48 _ (by decide) (by kernel_rfl) rfl rfl)
    rw [if_pos (wanted_none _ rfl)]
    have hcl := hO w' gs hbs
    clear hd hB
    go_simp
    go_at_call 77
    refine hcl.mono ?_
    rintro e w2 ⟨rfl, h2⟩
    exact hK _ h2
  refine DetR.is (o := { dst := some 4, op := Op.assign (Operand.tmp 49), type := 3, pos := "term.go:32", after := #[{ on := 18, ground := Ground.data }, { on := 18, ground := Ground.chain }, { on := 0, ground := Ground.phase }, { on := 1, ground := Ground.phase }, { on := 2, ground := Ground.phase }, { on := 3, ground := Ground.phase }, { on := 4, ground := Ground.phase }, { on := 5, ground := Ground.phase }, { on := 6, ground := Ground.phase }, { on := 7, ground := Ground.phase }, { on := 8, ground := Ground.phase }, { on := 9, ground := Ground.phase }, { on := 10, ground := Ground.phase }, { on := 11, ground := Ground.phase }, { on := 12, ground := Ground.phase }, { on := 13, ground := Ground.phase }, { on := 14, ground := Ground.phase }, { on := 15, ground := Ground.phase }, { on := 16, ground := Ground.phase }, { on := 17, ground := Ground.phase }, { on := 18, ground := Ground.phase }], guard := none }) (u := ?ux20) rfl (by decide) (fun T w' hb hd hB K hK => ?sx20) ?rx20
  case sx20 =>
    have e49 := hd 18 49 _ (by decide) (by kernel_rfl) rfl rfl
    replace e49 : T.getD 49 undef = _ := e49
    rw [if_pos (wanted_none _ rfl)]
    clear hd hB
    go_simp
    exact hK _ (Below.refl _ _)
  refine DetR.done [some 31, some 32, some 33, some 34, some 35, some 36, some 37, some 38, some 39, some 40, some 41, some 42, some 43, some 44, some 45, some 46, some 47, some 48, some 49, some 4] (by kernel_rfl) rfl (by kernel_rfl) ?_
  intro v w' hb hv
  exact hK v w' hb (hv 19 _ (by decide) rfl)

/-- What is asked of a term: to be compared with whatever other one. -/
def CmpAny (x : S30) : Prop := ∀ (y : S30) (A B : Option Addr) (c e : Nat) (w : World), k30.C w A x.f1.length x.f1 → x.f1.length ≤ c → k30.C w B y.f1.length y.f1 → y.f1.length ≤ e →
  Calls Try.prog 36 #[.agg #[.int .i64 x.f0, .slice A x.f1.length c], .agg #[.int .i64 y.f0, .slice B y.f1.length e]] w fun r w' => r = .returned (.int .i64 (cmpT x y)) ∧ Below w.heap.size w w'
theorem cmpTs_at (l m : List S30) (k : Nat) (hl : k < l.length) (hm : k < m.length) : cmpTs (l.drop k) (m.drop k) = if cmpT l[k] m[k] = 0 then cmpTs (l.drop (k + 1)) (m.drop (k + 1)) else cmpT l[k] m[k] := by
  rw [List.drop_eq_getElem_cons hl, List.drop_eq_getElem_cons hm, cmpTs]
theorem cell_lt' {w : World} {a : Addr} {v : Value} (h : w.cell? a = some v) : a.block < w.heap.size := by
  unfold World.cell? at h
  rcases Nat.lt_or_ge a.block w.heap.size with hlt | hge
  · exact hlt
  · rw [Array.getElem?_eq_none hge] at h
    simp at h
theorem rd30_at (l : List S30) (k : Nat) (h : k < l.length) : rd_T30 l (k : Int) = l[k] := by
  unfold rd_T30
  simp [List.getD, List.getElem?_eq_getElem h]
set_option maxHeartbeats 4000000 in
set_option maxRecDepth 100000 in
theorem CompareFunc_any (l m : List S30) (ih : ∀ x ∈ l, CmpAny x) (A B : Option Addr) (c e : Nat) (w : World) (hA : k30.C w A l.length l) (hc : l.length ≤ c) (hB : k30.C w B m.length m) (he : m.length ≤ e) :
    Calls Try.prog 78 #[.slice A l.length c, .slice B m.length e, .func (.func 36) #[] #[]] w fun r w' => r = .returned (.int .i64 (cmpTs l m)) ∧ Below w.heap.size w w' := by
  have hll : l.length ≤ 9223372036854775807 := hA.2.1
  have hml : m.length ≤ 9223372036854775807 := hB.2.1
  have hAz := Aside0.mk hA
  have hBz := Aside0.mk hB
  have hIz := Aside0.mk ih
  clear hA hB ih
  go_enter Try.func78, Try.ntmps78
  go_wp2
  go_loopw [13] (fun i wr => ∃ k : Nat, k ≤ l.length ∧ i = .int .i64 k ∧ Aside0 (k ≤ m.length) ∧ Aside0 (cmpTs l m = cmpTs (l.drop k) (m.drop k)) ∧ Aside0 (Below w.heap.size w wr)) (fun i wr => l.length - (intOf i).toNat)
  case atStart => exact ⟨0, Nat.zero_le _, rfl, ⟨Nat.zero_le _⟩, ⟨rfl⟩, ⟨Below.refl _ _⟩⟩
  case round =>
    obtain ⟨k, hk, rfl, hkm, hcm, hb⟩ := hrel
    by_cases hlt : k < l.length
    · obtain ⟨ad, A1, c1, rfl, hx0, hx1, hl1, hC1⟩ := at_T30 (Kd.C_below hAz.out hb.out) (k : Int) (by omega) (by omega)
      rw [rd30_at l k hlt] at hx0 hx1 hl1 hC1
      rw [Int.toNat_natCast] at hx0 hx1
      have hC1 := Aside0.mk hC1
      by_cases hlm : k < m.length
      · obtain ⟨bd, B1, e1, rfl, hy0, hy1, hm1, hD1⟩ := at_T30 (Kd.C_below hBz.out hb.out) (k : Int) (by omega) (by omega)
        rw [rd30_at m k hlm] at hy0 hy1 hm1 hD1
        rw [Int.toNat_natCast] at hy0 hy1
        have hD1 := Aside0.mk hD1
        have hat := cmpTs_at l m k hlt hlm
        have hih := Aside0.mk (hIz.out l[k] (List.getElem_mem hlt) m[k])
        generalize hxk : l[k] = x at hx0 hx1 hl1 hC1 hat hih
        generalize hyk : m[k] = y at hy0 hy1 hm1 hD1 hat hih
        obtain ⟨r, hr⟩ : ∃ r, r = cmpT x y := ⟨_, rfl⟩
        rw [← hr] at hat
        have hrz := Aside0.mk hr
        have hatz := Aside0.mk hat
        clear hxk hyk hat hr
        have hba := below_alloc (Below.refl wr.heap.size wr) (.cells #[.int .i64 x.f0, .slice A1 x.f1.length c1] 30)
        have hz0 := (hba.cell (cell_lt' hy0)).trans hy0
        have hz1 := (hba.cell (cell_lt' hy1)).trans hy1
        clear hba
        have hin : Aside0 (∀ W, Below wr.heap.size wr W → Calls Try.prog 36 #[.agg #[.int .i64 x.f0, .slice A1 x.f1.length c1], .agg #[.int .i64 y.f0, .slice B1 y.f1.length e1]] W fun q w' => q = .returned (.int .i64 r) ∧ Below W.heap.size W w') := ⟨fun W hW => by rw [hrz.out]; exact hih.out A1 B1 c1 e1 W (Kd.C_below hC1.out hW) hl1 (Kd.C_below hD1.out hW) hm1⟩
        clear hih hrz
        by_cases hr0 : r = 0
        · subst hr0
          go_wp2_with (go_at_call 36; refine (hin.out _ (below_alloc (below_alloc (Below.refl _ _) _) _)).mono ?_; rintro q w3 ⟨rfl, hb3⟩; have hb4 : Below w.heap.size w w3 := (hb.out.trans ((below_alloc (below_alloc (Below.refl _ _) _) _ : Below wr.heap.size wr _).mono hb.out.size)).trans (hb3.mono (by have := hb.out.size; simp; omega)); have hb5 := Aside0.mk hb4; clear hb3 hb4)
          go_roundw
          case rel => exact ⟨k + 1, by omega, by go_num, ⟨by omega⟩, ⟨by rw [hcm.out, hatz.out]; simp⟩, hb5⟩
          case measure => simp [intOf]; omega
        · have hr1 : (r == 0) = false := by simpa using hr0
          have hr2 : (r != 0) = true := by simpa using hr0
          go_wp2_with (go_at_call 36; refine (hin.out _ (below_alloc (below_alloc (Below.refl _ _) _) _)).mono ?_; rintro q w3 ⟨rfl, hb3⟩; have hb4 : Below w.heap.size w w3 := (hb.out.trans ((below_alloc (below_alloc (Below.refl _ _) _) _ : Below wr.heap.size wr _).mono hb.out.size)).trans (hb3.mono (by have := hb.out.size; simp; omega)); have hb5 := Aside0.mk hb4; clear hb3 hb4)
          have hres : cmpTs l m = r := by rw [hcm.out, hatz.out, if_neg hr0]
          go_ret
          rw [hres]
          exact ⟨rfl, hb5.out⟩
      · have hres : cmpTs l m = 1 := by
          have hke : k = m.length := by have := hkm.out; omega
          rw [hcm.out, hke, List.drop_length, List.drop_eq_getElem_cons (by omega), cmpTs]
        have hge : (m.length : Int) ≤ (k : Int) := by omega
        generalize l[k] = x at hx0 hx1 hl1 hC1
        go_wp2
        go_ret
        rw [hres]
        exact ⟨rfl, below_alloc hb.out _⟩
    · have hke : k = l.length := by omega
      have hkm' := hkm.out
      by_cases hlm : l.length < m.length
      · have hres : cmpTs l m = -1 := by rw [hcm.out, hke, List.drop_length, List.drop_eq_getElem_cons (by omega), cmpTs]
        go_wp2
        go_ret
        rw [hres]
        exact ⟨rfl, hb.out⟩
      · have hres : cmpTs l m = 0 := by rw [hcm.out, hke, List.drop_length, show l.length = m.length by omega, List.drop_length, cmpTs]
        go_wp2
        go_ret
        rw [hres]
        exact ⟨rfl, hb.out⟩
set_option maxHeartbeats 4000000 in
set_option maxRecDepth 100000 in
theorem Compare_any : ∀ x : S30, CmpAny x := by
  refine S30.ind ?_
  intro f l ih y A B c e w hA hc hB he
  obtain ⟨g, m⟩ := y
  simp only at hA hc hB he
  have hc76 := fun (a b : Int) (w1 : World) => cmp_Compare_int.calls a b _ w1 (cmpI_f a b)
  have hIz := Aside0.mk ih
  have hCF := Aside0.mk (fun w1 (hb : Below w.heap.size w w1) => CompareFunc_any l m ih A B c e w1 (Kd.C_below hA hb) hc (Kd.C_below hB hb) he)
  have h76 := Aside0.mk hc76
  clear hc76 hA hB ih hIz
  go_enter Try.func36, Try.ntmps36
  by_cases hv : f < 0 ∨ g < 0
  · by_cases h2 : f < 0 ∧ g < 0
    · have hres : cmpT ⟨f, l⟩ ⟨g, m⟩ = cmpI g f := by rw [cmpT, if_pos hv, if_pos h2]
      have hf1 : decide (f < 0) = true := decide_eq_true h2.1
      have hg1 : decide (g < 0) = true := decide_eq_true h2.2
      clear hv h2
      go_wp2_with (go_at_call 76; refine (h76.out _ _ _).mono ?_; rintro q w1 ⟨rfl, hd⟩; have hb1 := Aside0.mk (hd.below); clear hd)
      go_ret
      rw [hres]
      exact ⟨rfl, (below_alloc (below_alloc (Below.refl _ _) _) _).trans (hb1.out.mono (by simp; omega))⟩
    · have hres : cmpT ⟨f, l⟩ ⟨g, m⟩ = cmpI f g := by rw [cmpT, if_pos hv, if_neg h2]
      by_cases hf : f < 0
      · have hf1 : decide (f < 0) = true := decide_eq_true hf
        have hg1 : decide (g < 0) = false := decide_eq_false (fun h => h2 ⟨hf, h⟩)
        clear hv h2
        go_wp2_with (go_at_call 76; refine (h76.out _ _ _).mono ?_; rintro q w1 ⟨rfl, hd⟩; have hb1 := Aside0.mk (hd.below); clear hd)
        go_ret
        rw [hres]
        exact ⟨rfl, (below_alloc (below_alloc (Below.refl _ _) _) _).trans (hb1.out.mono (by simp; omega))⟩
      · have hf1 : decide (f < 0) = false := decide_eq_false hf
        have hg1 : decide (g < 0) = true := decide_eq_true (hv.resolve_left hf)
        clear hv h2
        go_wp2_with (go_at_call 76; refine (h76.out _ _ _).mono ?_; rintro q w1 ⟨rfl, hd⟩; have hb1 := Aside0.mk (hd.below); clear hd)
        go_ret
        rw [hres]
        exact ⟨rfl, (below_alloc (below_alloc (Below.refl _ _) _) _).trans (hb1.out.mono (by simp; omega))⟩
  · have hres : cmpT ⟨f, l⟩ ⟨g, m⟩ = orI (cmpI f g) (cmpI l.length m.length) (cmpTs l m) := by rw [cmpT, if_neg hv]
    have hf1 : decide (f < 0) = false := decide_eq_false (fun h => hv (.inl h))
    have hg1 : decide (g < 0) = false := decide_eq_false (fun h => hv (.inr h))
    obtain ⟨r, hr⟩ : ∃ r, r = orI (cmpI f g) (cmpI l.length m.length) (cmpTs l m) := ⟨_, rfl⟩
    obtain ⟨ko, hko⟩ := (orI_f (cmpI f g) (cmpI l.length m.length) (cmpTs l m)).rounds
    rw [← hr] at hres hko
    have hkz := Aside0.mk hko
    clear hv hr hko
    go_wp2
    refine Compare_r5 (f := f) (g := g) (c1 := cmpI f g) (c2 := cmpI l.length m.length) (c3 := cmpTs l m) (r := r) (A := A) (B := B) (nl := l.length) (nm := m.length) (c := c) (e := e) (g0 := w.heap.size) (g1 := w.heap.size + 1) (by kernel_rfl) rfl (blk_alloc (heap_alloc_new _ _) _) rfl ?_ ?_ ?_ ?_ ?_ hc he ?_
    · have := heap_alloc_new (w.alloc (.cells #[.int .i64 f, .slice A l.length c] 30)) (.cells #[.int .i64 g, .slice B m.length e] 30)
      rw [World.size_alloc] at this
      exact this
    · intro w1 hb; exact (h76.out _ _ _).mono (fun q w2 h => ⟨h.1, h.2.below⟩)
    · intro w1 hb; exact (h76.out _ _ _).mono (fun q w2 h => ⟨h.1, h.2.below⟩)
    · intro w1 hb; exact hCF.out w1 ((below_alloc (below_alloc (Below.refl _ _) _) _).trans (hb.mono (by simp; omega)))
    · intro w1 gs hgs
      refine (cmp_Or_int.calls ko (some ⟨gs, 0, none⟩) 3 [cmpI f g, cmpI l.length m.length, cmpTs l m] r w1 ?_ (by simp) hkz.out).mono (fun q w2 h => ⟨h.1, h.2.below⟩)
      refine ⟨rfl, by simp, fun _ => ⟨_, rfl, fun j p hj => ?_⟩⟩
      have hcell := fun i => blk_cell hgs i
      match j with
      | 0 => simp at hj; subst hj; exact ⟨[.int .i64 _], rfl, rfl, fun i u hi => by (match i with | 0 => simp at hi; subst hi; exact (hcell 0).trans rfl | i + 1 => simp at hi)⟩
      | 1 => simp at hj; subst hj; exact ⟨[.int .i64 _], rfl, rfl, fun i u hi => by (match i with | 0 => simp at hi; subst hi; exact (hcell 1).trans rfl | i + 1 => simp at hi)⟩
      | 2 => simp at hj; subst hj; exact ⟨[.int .i64 _], rfl, rfl, fun i u hi => by (match i with | 0 => simp at hi; subst hi; exact (hcell 2).trans rfl | i + 1 => simp at hi)⟩
      | j + 3 => simp at hj
    intro v w2 hb2 hv19
    simp only [layL, Nat.reduceAdd, List.setIfInBounds_toArray, List.set_cons_zero, List.set_cons_succ, hv19]
    have hb2 := Aside0.mk hb2
    clear hv19
    go_wp2
    go_ret
    rw [hres]
    exact ⟨rfl, (below_alloc (below_alloc (Below.refl _ _) _) _).trans (hb2.out.mono (by simp; omega))⟩
theorem term_Compare.calls (a0_0 : Int) (A0_1 : Option Addr) (c0_1 : Nat) (l0_1 : List S30) (a1_0 : Int) (A1_1 : Option Addr) (c1_1 : Nat) (l1_1 : List S30) (r : Int) (w : World) (hr0_1 : Kd.C k30 w A0_1 l0_1.length l0_1) (hc0_1 : l0_1.length ≤ c0_1) (hr1_1 : Kd.C k30 w A1_1 l1_1.length l1_1) (hc1_1 : l1_1.length ≤ c1_1) (h : term_Compare.f a0_0 l0_1 a1_0 l1_1 = some r) :
    Calls Try.prog 36 #[.agg #[.int .i64 a0_0, .slice A0_1 l0_1.length c0_1], .agg #[.int .i64 a1_0, .slice A1_1 l1_1.length c1_1]] w fun e w' => e = .returned (.int .i64 r) ∧ Below w.heap.size w w' := by
  unfold term_Compare.f at h
  obtain rfl := Option.some.inj h
  exact Compare_any ⟨a0_0, l0_1⟩ ⟨a1_0, l1_1⟩ A0_1 A1_1 c0_1 c1_1 w hr0_1 hc0_1 hr1_1 hc1_1
end Go.Proofs.Ytpfddihcikiofaa.P
