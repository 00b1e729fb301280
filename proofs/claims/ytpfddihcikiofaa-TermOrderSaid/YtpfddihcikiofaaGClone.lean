/- slices.Clone at []int. -/
import Derived.WalkSpells
import Derived.Test.YtpfddihcikiofaaPx0
namespace Go.Proofs.Ytpfddihcikiofaa.P
open Go.RowKit Go.Proofs.YtpfddihcikiofaaW.PrintWords Go.Proofs.YtpfddihcikiofaaW.PrintLast Go.Proofs.YtpfddihcikiofaaW.PrintMore
set_option linter.unusedVariables false
set_option linter.unusedSimpArgs false

set_option maxRecDepth 100000 in
set_option maxHeartbeats 1000000 in
theorem clone_ints (A : Option Addr) (c : Nat) (l : List Int) (w : World) (hC : (Kd.int .i64).C w A l.length l) (hc : l.length ≤ c) (hl : l.length * 8 ≤ 140737488355328) :
    Calls Try.prog 73 #[.slice A l.length c] w fun e w' => ∃ v : Value, e = .returned v ∧ (Kd.int .i64).R 3 w' w.heap.size (fun _ => True) v l ∧ Below w.heap.size w w' := by
  have hnil := fun (W : World) => Lib.run_eql_slice_nil (P := Try.prog) W 25 3 A l.length c 0 0 Try.underlying25
  cases A with
  | none =>
    have h0 : l = [] := by
      rcases Nat.eq_zero_or_pos l.length with h | h
      · exact List.eq_nil_of_length_eq_zero h
      · obtain ⟨ad, e, _⟩ := hC.2.2 h
        cases e
    subst h0
    have hn0 := fun (W : World) => Lib.run_eql_slice_nil (P := Try.prog) W 25 3 none 0 c 0 0 Try.underlying25
    clear hnil
    go_enter Try.func73, Try.ntmps73
    go_wp2
    go_ret
    exact ⟨_, rfl, Kd.R_nil _ _ _ _ _, Below.refl _ _⟩
  | some ad =>
    have HC := Aside0.mk hC
    go_enter Try.func73, Try.ntmps73
    have hO : (Kd.int .i64).R 3 (w.alloc (.cells #[] 3)) w.heap.size (fun _ => True) (.slice (some ⟨w.heap.size, 0, none⟩) 0 0) [] := Kd.R_of_own (by simpa [encs] using World.ownsRow_lit (base := w.heap.size) (e := 3) (size := 1) w #[] 0 (Nat.le_refl _) (by simp [maxLen]) (by simp)) (fun _ _ => trivial)
    have HO := Aside0.mk hO
    have HB := Aside0.mk (below_alloc (Below.refl w.heap.size w) (.cells #[] 3))
    have HL := Aside0.mk hl
    clear hO hl hC
    go_wp2_with (at_builtin; refine Kd.R_append_row (w0 := w) (Value.int .i64) 0 w.heap.size rfl (.tmp 5) (.tmp 6) 25 3 (.int .i64 0) 8 rfl Try.underlying25 info3 rfl (by omega) _ [] l (some ad) l.length c (fun _ => True) rfl rfl (fun _ _ => trivial) HO.out (Kd.C_below HC.out HB.out) HB.out (by simp) (by have := HL.out; simp; omega) ?_; intro v1 w1 ho hb hg hat; have HO1 := Aside0.mk ho; have HB1 := Aside0.mk hb; clear ho hb hg hat)
    go_ret
    exact ⟨_, rfl, HO1.out, HB1.out⟩
end Go.Proofs.Ytpfddihcikiofaa.P
