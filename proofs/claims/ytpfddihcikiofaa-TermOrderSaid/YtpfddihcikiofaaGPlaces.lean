/- term.Places: all places of a tree, in order. -/
import Derived.Maps.OwnIn
import Derived.Deep.DeepMust
import Derived.Test.YtpfddihcikiofaaGRange
import Derived.Test.YtpfddihcikiofaaGClone
namespace Go.Proofs.Ytpfddihcikiofaa.P
open Go.RowKit Go.Shelf Go.Proofs.YtpfddihcikiofaaW.PrintWords Go.Proofs.YtpfddihcikiofaaW.PrintLast Go.Proofs.YtpfddihcikiofaaW.PrintMore
set_option linter.unusedVariables false
set_option linter.unusedSimpArgs false
attribute [local go_sem] Oper.semAt_some

section
variable {F : Fence} {nF : Nat} {P : Program}
/-- append to a row of the call's own, as a step of a region inside a fence. -/
theorem stepIn_append_own_at {ops : Array Oper} {o : Oper} {a : Act} {w : World} {K : Act → World → Prop} {Q : Exit → Act → World → Prop} {E : Prop} (hgd : o.guard = none) (s x : Operand) (t : TypeId)
    (ho : o.op = .call { callee := .builtin .append, args := #[s, x], argTypes := #[t, t] })
    (base : Nat) (e : TypeId) (i : TypeInfo) (z : Value) (size bytes : Nat) (ht : P.underlying t = some (.slice e)) (hi : P.info? e = some i) (hz : i.zero = some z)
    (hsize : i.size = size) (hby : i.bytes = bytes) (hzs : z.cells.size = size) (hsz : 0 < size)
    (v : Value) (n : Nat) (xs : List Value) (hs : a.eval s = v) (hown : w.ownsRow base e size v n xs)
    (ad : Addr) (m c : Nat) (news : List Value) (hx : a.eval x = .slice (some ad) m c) (hl : news.length = m * size) (hnews : ∀ j u, news[j]? = some u → w.cell? (ad.add j) = some u) (h1 : ∀ u ∈ news, u.oneCell' = true)
    (h63 : n + m ≤ maxLen) (hbytes : (n + m) * bytes ≤ 140737488355328) (hbase : base ≤ w.heap.size)
    (h : ∀ v' w', w'.ownsRow base e size v' (n + m) (xs ++ news) → w.grownBy w' v.ownBlock → (v'.ownBlock = v.ownBlock ∨ v'.ownBlock = some w.heap.size) → K (a.put o.dst v') w') :
    if Region.wanted o (yielded ops a.tmps) = true then Oper.wpIn F nF P o a w K Q else E := by
  have hw : Region.wanted o (yielded ops a.tmps) = true := by simp [Region.wanted, hgd]
  rw [if_pos hw]
  obtain ⟨v', w', hr, h2, h3, h4, h5⟩ := run_append_own_at (P := P) w base t o.type e i z size bytes ht hi hz hsize hby hzs hsz v n xs hown ad m c news hl hnews h1 h63 hbytes hbase
  unfold Oper.wpIn
  refine ⟨by simp [Oper.about, ho, resolve, Target.leads, Sem.run_pure], ?_⟩
  rw [Oper.semAt_plain F _ _ (by rw [ho]; intro c hc'; cases hc')]
  simp [execOp, ho, resolve, invoke, builtin, hs, hx, hr, Result.andThen]
  exact h v' w' h2 h3 h5
end

def term_Places.f (a0_0 : Int) (l0_1 : List S30) : Option (List (List Int)) := if (flatP [] ⟨a0_0, l0_1⟩).length ≤ 1099511627776 then some ((flatP [] ⟨a0_0, l0_1⟩).map Prod.fst) else none

/-- The list of places so far: its box, its row, the rows in it, all the call's own. -/
def PlInv (Bl : Nat) (S : Nat → Prop) (l : List (List Int)) (W : World) : Prop :=
  ∃ (P : Nat → Prop) (A : Option Addr) (c : Nat), S = (fun k => k = Bl ∨ P k) ∧ W.heap[Bl]? = some (.cells #[.slice A l.length c] 32 (0, 0)) ∧ (Kd.slice 3 (Kd.int .i64)).R 25 W (Bl + 1) P (.slice A l.length c) l ∧
    ∀ k, P k → k ≠ Bl ∧ ∃ (q : Nat) (cells : Array Value), W.heap[k]? = some (.cells cells q (0, 0))
theorem PlInv.cells {Bl : Nat} {S : Nat → Prop} {l : List (List Int)} {W : World} (h : PlInv Bl S l W) {k : Nat} (hk : S k) : ∃ o : Obj, W.heap[k]? = some o ∧ o.isCells = true := by
  obtain ⟨P, A, c, rfl, hb, _, hP⟩ := h
  rcases hk with rfl | hk
  · exact ⟨_, hb, rfl⟩
  · obtain ⟨_, q, cells, h⟩ := hP k hk
    exact ⟨_, h, rfl⟩
theorem PlInv.step {Bl : Nat} {S : Nat → Prop} {l : List (List Int)} {W W' : World} (h : PlInv Bl S l W) (hk : ∀ k, S k → k < W.heap.size → W'.heap[k]? = W.heap[k]?) : PlInv Bl S l W' := by
  obtain ⟨P, A, c, rfl, hb, hR, hP⟩ := h
  refine ⟨P, A, c, rfl, (hk _ (.inl rfl) (blk_lt hb)).trans hb, Kd.R_step hR (fun k h hlt => hk k (.inr h) hlt), fun k h => ⟨(hP k h).1, ?_⟩⟩
  obtain ⟨_, q, cells, hc⟩ := hP k h
  exact ⟨q, cells, (hk k (.inr h) (blk_lt hc)).trans hc⟩

set_option maxRecDepth 100000 in
set_option maxHeartbeats 2000000 in
theorem term_Places.calls (a0_0 : Int) (A0_1 : Option Addr) (c0_1 : Nat) (l0_1 : List S30) (r : List (List Int)) (w : World) (hr0_1 : Kd.C k30 w A0_1 l0_1.length l0_1) (hc0_1 : l0_1.length ≤ c0_1) (h : term_Places.f a0_0 l0_1 = some r) :
    Calls Try.prog 23 #[.agg #[.int .i64 a0_0, .slice A0_1 l0_1.length c0_1]] w fun e w' => ∃ v0_ : Value, e = .returned (v0_) ∧ Kd.R (Kd.slice 3 (Kd.int .i64)) 25 w' w.heap.size (fun _ => True) v0_ r ∧ Below w.heap.size w w' := by
  unfold term_Places.f at h
  by_cases hM : (flatP [] ⟨a0_0, l0_1⟩).length ≤ 1099511627776
  · rw [if_pos hM] at h
    obtain rfl := Option.some.inj h
    clear h
    refine (callsIn_wide (n := 9)).1 ?_
    refine callsIn_of_wp_marks Try.func23 rfl trivial ?_ rfl
    simp only [Try.ntmps23, List.size_toArray, List.length_cons, List.length_nil, Nat.reduceAdd, Nat.reduceSub, Array.replicate_succ, Array.replicate_zero, List.push_toArray, List.append_toArray, List.nil_append, List.cons_append]
    gi_wp2_with (refine ⟨trivial, ?_⟩; (try refine ⟨wide_any _, ?_⟩); gi_at_call 72; refine (callsIn_wide.2 (all_any _ _ _)).mono ?_; rintro e w' ⟨rfl, rfl⟩)
    obtain ⟨W3, hW3⟩ : ∃ W, W = ((w.alloc (.cells #[.int .i64 a0_0, .slice A0_1 l0_1.length c0_1] 30)).alloc (.cells #[.slice none 0 0] 32)).alloc (.cells #[.int .i64 a0_0, .slice A0_1 l0_1.length c0_1] 30) := ⟨_, rfl⟩
    have hbx : W3.heap[w.heap.size + 1]? = some (.cells #[.slice none 0 0] 32 (0, 0)) := by
      have := heap_alloc_new (w.alloc (.cells #[.int .i64 a0_0, .slice A0_1 l0_1.length c0_1] 30)) (.cells #[.slice none 0 0] 32)
      rw [World.size_alloc] at this
      rw [hW3]
      exact blk_alloc this _
    have hbB : W3.heap[w.heap.size + 1 + 1]? = some (.cells #[.int .i64 a0_0, .slice A0_1 l0_1.length c0_1] 30 (0, 0)) := by
      have := heap_alloc_new ((w.alloc (.cells #[.int .i64 a0_0, .slice A0_1 l0_1.length c0_1] 30)).alloc (.cells #[.slice none 0 0] 32)) (.cells #[.int .i64 a0_0, .slice A0_1 l0_1.length c0_1] 30)
      rw [World.size_alloc, World.size_alloc] at this
      rw [hW3]
      exact this
    have hb2 : Below w.heap.size w W3 := by rw [hW3]; exact below_alloc (below_alloc (below_alloc (Below.refl _ _) _) _) _
    rw [← hW3]
    clear hW3
    have hF : Kd.F k30 W3 (fun k => ¬ (k = w.heap.size + 1 ∨ False)) A0_1 l0_1.length l0_1 := Kd.F_mono (Kd.F_below (Kd.C_F k30_heap hr0_1) hb2) (fun k hk h => h.elim (fun h => by omega) id)
    refine range_all (t := ⟨a0_0, l0_1⟩) (n := 9) rfl (fun k => k = w.heap.size + 1 ∨ False) A0_1 c0_1 hbB hF hc0_1 hM
      (fun S pre W => PlInv (w.heap.size + 1) S (pre.map Prod.fst) W)
      ?hIc ?hIs ⟨fun _ => False, none, 0, rfl, hbx, Kd.R_nil _ _ _ _ _, fun k h => h.elim⟩ (fun S n0 p s A c As cs a W => a = { tmps := #[.agg #[.int .i64 a0_0, .slice A0_1 l0_1.length c0_1], .pointer (some ⟨w.heap.size, 0, none⟩), .slice none 0 0, .pointer (some ⟨w.heap.size + 1, 0, none⟩), .slice A p.length c, .agg #[.int .i64 a0_0, .slice A0_1 l0_1.length c0_1], .func (.func 103) #[] #[.pointer (some ⟨w.heap.size + 1 + 1, 0, none⟩)], .slice A p.length c, .agg #[.int .i64 s.f0, .slice As s.f1.length cs], undef, undef, undef, undef, undef, undef], defers := [] }) ?hAx ?assign ?body ?done
    case hIc =>
      intro S pre W h k hk
      exact h.cells hk
    case hIs =>
      intro S pre W W' h hs hk
      exact h.step hk
    case hAx =>
      intro S n0 p s A c As cs a₁ W W' h _ _
      exact h
    case assign =>
      intro l m S p s A c As cs W K hK
      gi_wp2
      exact hK _ _ (Below.refl _ _) rfl
    case body =>
      rintro l m S n0 pre p s A c As cs a₁ W hI hn0 hle hlen hpm hp hpc hs hsc rfl
      obtain ⟨P, Au, cu, rfl, hb, hR, hP⟩ := hI
      rw [List.length_map] at hb hR
      have hmx : Try.prog.follows .mixedOrders = true := by kernel_rfl
      have hpl : p.length * 8 ≤ 140737488355328 := by omega
      have hC := Kd.F_now hp
      have hc0 : W.cell? ⟨w.heap.size + 1, 0, none⟩ = some (.slice Au pre.length cu) := (blk_cell hb 0).trans rfl
      have hf0 := blk_frozen hb 0
      have hCz := Aside0.mk hC
      have hbz := Aside0.mk hb
      have hRz := Aside0.mk hR
      have hPz := Aside0.mk hP
      obtain ⟨inner0, ho0⟩ := Kd.R_own hR
      rw [List.length_map] at ho0
      have hoz := Aside0.mk ho0
      have hW : w.heap.size + 1 < W.heap.size := blk_lt hb
      obtain ⟨i0, hi, hz0, hz1, hz2⟩ := info_parts info25
      clear hp hs hC hb hR hP ho0
      have hz : (Exit.inBlock 1 (bodyEnd (fun S pre W => PlInv (w.heap.size + 1) S (pre.map Prod.fst) W) (fun k => k = w.heap.size + 1 ∨ P k) n0 (pre ++ [(p, s)]) W)) = (Exit.inBlock 1 (bodyEnd (fun S pre W => PlInv (w.heap.size + 1) S (pre.map Prod.fst) W) (fun k => k = w.heap.size + 1 ∨ P k) n0 (pre ++ [(p, s)]) W)) := rfl
      clear hz
      -- behind the cell: the append and the store
      have hD : ∀ (w1 : World) (v : Value), (Kd.int .i64).R 3 w1 W.heap.size (fun _ => True) v p → Below W.heap.size W w1 → wpAnyIn (Fence.wide.inRound l) m Try.prog .any #[{ dst := some 9, op := Op.load 32 (Operand.tmp 3), type := 32, pos := "term.go:86", after := #[], guard := none }, { dst := some 10, op := Op.move (Operand.tmp 4), type := 25, pos := "term.go:86", after := #[], guard := none }, { dst := some 11, op := Op.call { callee := Callee.value (Operand.func 73), args := #[Operand.tmp 10], argTypes := #[25] }, type := 25, pos := "term.go:86", after := #[{ on := 1, ground := Ground.data }], guard := none }, { dst := some 12, op := Op.buildSlice 32 1 #[(0, Operand.tmp 11)], type := 32, pos := "term.go:86", after := #[{ on := 2, ground := Ground.data }], guard := none }, { dst := some 13, op := Op.call { callee := Callee.builtin Builtin.append, args := #[Operand.tmp 9, Operand.tmp 12], argTypes := #[32, 32] }, type := 32, pos := "term.go:86", after := #[{ on := 0, ground := Ground.data }, { on := 3, ground := Ground.data }, { on := 2, ground := Ground.chain }], guard := none }, { dst := none, op := Op.store 32 (Operand.tmp 3) (Operand.tmp 13), type := 0, pos := "term.go:86", after := #[{ on := 4, ground := Ground.data }, { on := 4, ground := Ground.chain }, { on := 0, ground := Ground.phase }, { on := 1, ground := Ground.phase }, { on := 2, ground := Ground.phase }, { on := 3, ground := Ground.phase }, { on := 4, ground := Ground.phase }], guard := none }] (Exit.inBlock 1 (bodyEnd (fun S pre W => PlInv (w.heap.size + 1) S (pre.map Prod.fst) W) (fun k => k = w.heap.size + 1 ∨ P k) n0 (pre ++ [(p, s)]) W)) 2 #[true, true, true, true, false, false] { tmps := #[.agg #[.int .i64 a0_0, .slice A0_1 l0_1.length c0_1], .pointer (some ⟨w.heap.size, 0, none⟩), .slice none 0 0, .pointer (some ⟨w.heap.size + 1, 0, none⟩), .slice A p.length c, .agg #[.int .i64 a0_0, .slice A0_1 l0_1.length c0_1], .func (.func 103) #[] #[.pointer (some ⟨w.heap.size + 1 + 1, 0, none⟩)], .slice A p.length c, .agg #[.int .i64 s.f0, .slice As s.f1.length cs], .slice Au pre.length cu, .slice A p.length c, v, .slice (some ⟨w1.heap.size, 0, none⟩) 1 1, undef, undef], defers := [] } (w1.alloc (.cells #[v] 25)) := by
        intro w1 v hv hbv
        have hR1 := Kd.R_mono (Kd.R_below (Kd.R_below hRz.out hbv) (below_alloc (Below.refl _ _) (.cells #[v] 25))) (ok' := fun k => P k ∨ W.heap.size ≤ k) (fun k hk => .inl hk)
        have hv1 := Kd.R_lower (Kd.R_mono (Kd.R_bound (Kd.R_below hv (below_alloc (Below.refl _ _) (.cells #[v] 25)))) (ok' := fun k => W.heap.size ≤ k) (fun k hk => hk.2.1)) (show w.heap.size + 1 + 1 ≤ W.heap.size from hW)
        have hb1 : (w1.alloc (.cells #[v] 25)).heap[w.heap.size + 1]? = some (.cells #[.slice Au pre.length cu] 32 (0, 0)) := blk_alloc (blk_below hbz.out hbv) _
        have hbv1 : Below W.heap.size W (w1.alloc (.cells #[v] 25)) := below_alloc hbv _
        have hsz1 : (w1.alloc (.cells #[v] 25)).heap.size = w1.heap.size + 1 := by simp
        have hN1 : (w1.alloc (.cells #[v] 25)).heap[w1.heap.size]? = some (.cells #[v] 25 (0, 0)) := heap_alloc_new _ _
        have hs1 := hbv.size
        generalize w1.alloc (.cells #[v] 25) = w2 at hR1 hv1 hb1 hbv1 hsz1 hN1 ⊢
        obtain ⟨Av, cv, rfl⟩ := Kd.R_slice hv1
        obtain ⟨h0, inner, ho, hr⟩ := hR1
        rw [List.length_map] at ho
        refine wpAnyIn_ready (rs := [4]) (by kernel_rfl) (by simp) (AllReadyIn.cons rfl (fun K hK => ?_) AllReadyIn.nil)
        refine stepIn_append_own_at rfl (.tmp 9) (.tmp 12) 32 rfl (w.heap.size + 1 + 1) 25 i0 (.slice none 0 0) 1 24 Try.underlying32 hi hz0 hz1 hz2 rfl (by decide) _ pre.length inner rfl ho ⟨w1.heap.size, 0, none⟩ 1 1 [.slice Av p.length cv] rfl rfl ?hnews (by intro u hu; simp at hu; subst hu; rfl) (by simp only [maxLen]; omega) (by omega) (by omega) ?_
        case hnews =>
          intro j u hu
          cases j with
          | zero =>
            simp at hu
            subst hu
            rw [add_plain]
            exact (blk_cell hN1 0).trans rfl
          | succ j => simp at hu
        intro v2 w3 ho2 hg hat
        have hat' : v2.ownBlock = (Value.slice Au pre.length cu).ownBlock ∨ ∃ b, v2.ownBlock = some b ∧ w2.heap.size ≤ b := hat.imp_right (fun h => ⟨_, h, Nat.le_refl _⟩)
        have hR3 := Kd.R_appended (d := Kd.slice 3 (Kd.int .i64)) (e := 25) (p := p) (cs := [.slice Av p.length cv]) (okp := fun k => W.heap.size ≤ k) h0 hr ⟨_, rfl, hv1⟩ (fun k hk => ⟨.inr hk, fun e => by have := own_lt hoz.out k e.symm; omega⟩) (fun k hk => .inr (by omega)) (by rw [List.length_map]; exact ho2) hg hat'
        obtain ⟨g', cap', rfl⟩ := ownsRow_succ ho2
        have hne : some (w.heap.size + 1) ≠ (Value.slice Au pre.length cu).ownBlock := fun e => by have := own_base hoz.out _ e.symm; omega
        have hb3 := blk_grown hb1 hg hne
        have hc3 : w3.cell? ⟨w.heap.size + 1, 0, none⟩ = some (.slice Au pre.length cu) := (blk_cell hb3 0).trans rfl
        have hf3 := blk_frozen hb3 0
        have hz1 := Aside0.mk hR3
        have hz2 := Aside0.mk hb3
        have hz3 := Aside0.mk hg
        have hz4 := Aside0.mk hbv1
        clear hR3 hb3 hg hbv1 hat hat' ho2 h0 hr hv1 hv ho hb1 hN1 hbv
        refine hK _ _ ?_
        refine wpAnyIn_ready (rs := [5]) (by kernel_rfl) (by simp) (AllReadyIn.cons rfl (fun K hK => ?_) AllReadyIn.nil)
        go_simp
        refine hK _ _ ?_
        refine wpAnyIn_done (by kernel_rfl) ?_ _
        have hk1 : Keeps W w3 (fun k => k = w.heap.size + 1 ∨ P k) := (Keeps.of_below hz4.out _).trans ⟨hz3.out.os, hz3.out.tape, hz3.out.output, hz3.out.size, fun k hk hn => hz3.out.block k hk (fun e => hn e.symm)⟩ (S' := fun k => (Value.slice Au pre.length cu).ownBlock = some k) (fun b hb => .inl (.inr (hRz.out.1 b hb)))
        obtain ⟨P', hP', hR4⟩ : ∃ P' : Nat → Prop, (∀ k, P' k → (P k ∨ W.heap.size ≤ k) ∧ w.heap.size + 1 + 1 ≤ k ∧ k < w3.heap.size ∧ ∃ q, q ∈ 25 :: (Kd.slice 3 (Kd.int .i64)).E ∧ ∃ cells, w3.heap[k]? = some (.cells cells q (0, 0))) ∧ (Kd.slice 3 (Kd.int .i64)).R 25 w3 (w.heap.size + 1 + 1) P' (.slice (some ⟨g', 0, none⟩) (pre.length + 1) cap') (pre.map Prod.fst ++ [p]) := ⟨_, fun k h => h, Kd.R_bound hz1.out⟩
        have hR5 := Kd.R_far (p := ⟨w.heap.size + 1, 0, none⟩) hR4 (fun k hk (e : k = w.heap.size + 1) => by have := (hP' k hk).2.1; omega) (.slice (some ⟨g', 0, none⟩) (pre.length + 1) cap')
        refine ⟨_, ⟨P', some ⟨g', 0, none⟩, cap', rfl, ?_, ?_, ?_⟩, hk1.trans (Keeps.setCell w3 _ _) (fun b h => .inl (.inl h)), ?_⟩
        rotate_left
        · simpa using hR5
        · intro k hk
          obtain ⟨h1, h2, h3, q, hq, cells, hc⟩ := hP' k hk
          refine ⟨by omega, q, cells, ?_⟩
          exact blk_far hc (p := ⟨w.heap.size + 1, 0, none⟩) (by show k ≠ w.heap.size + 1; omega) _
        · rintro k (hk | hk)
          · exact .inl (.inl hk)
          · rcases (hP' k hk).1 with h | h
            · exact .inl (.inr h)
            · exact .inr (by omega)
        · have := blk_put hz2.out 0 (.slice (some ⟨g', 0, none⟩) (pre.length + 1) cap') rfl
          simpa using this
      have hB : ∀ (w1 : World) (v : Value), (Kd.int .i64).R 3 w1 W.heap.size (fun _ => True) v p → Below W.heap.size W w1 → wpAnyIn (Fence.wide.inRound l) m Try.prog .any #[{ dst := some 9, op := Op.load 32 (Operand.tmp 3), type := 32, pos := "term.go:86", after := #[], guard := none }, { dst := some 10, op := Op.move (Operand.tmp 4), type := 25, pos := "term.go:86", after := #[], guard := none }, { dst := some 11, op := Op.call { callee := Callee.value (Operand.func 73), args := #[Operand.tmp 10], argTypes := #[25] }, type := 25, pos := "term.go:86", after := #[{ on := 1, ground := Ground.data }], guard := none }, { dst := some 12, op := Op.buildSlice 32 1 #[(0, Operand.tmp 11)], type := 32, pos := "term.go:86", after := #[{ on := 2, ground := Ground.data }], guard := none }, { dst := some 13, op := Op.call { callee := Callee.builtin Builtin.append, args := #[Operand.tmp 9, Operand.tmp 12], argTypes := #[32, 32] }, type := 32, pos := "term.go:86", after := #[{ on := 0, ground := Ground.data }, { on := 3, ground := Ground.data }, { on := 2, ground := Ground.chain }], guard := none }, { dst := none, op := Op.store 32 (Operand.tmp 3) (Operand.tmp 13), type := 0, pos := "term.go:86", after := #[{ on := 4, ground := Ground.data }, { on := 4, ground := Ground.chain }, { on := 0, ground := Ground.phase }, { on := 1, ground := Ground.phase }, { on := 2, ground := Ground.phase }, { on := 3, ground := Ground.phase }, { on := 4, ground := Ground.phase }], guard := none }] (Exit.inBlock 1 (bodyEnd (fun S pre W => PlInv (w.heap.size + 1) S (pre.map Prod.fst) W) (fun k => k = w.heap.size + 1 ∨ P k) n0 (pre ++ [(p, s)]) W)) 3 #[true, true, true, false, false, false] { tmps := #[.agg #[.int .i64 a0_0, .slice A0_1 l0_1.length c0_1], .pointer (some ⟨w.heap.size, 0, none⟩), .slice none 0 0, .pointer (some ⟨w.heap.size + 1, 0, none⟩), .slice A p.length c, .agg #[.int .i64 a0_0, .slice A0_1 l0_1.length c0_1], .func (.func 103) #[] #[.pointer (some ⟨w.heap.size + 1 + 1, 0, none⟩)], .slice A p.length c, .agg #[.int .i64 s.f0, .slice As s.f1.length cs], .slice Au pre.length cu, .slice A p.length c, v, undef, undef, undef], defers := [] } w1 := by
        intro w1 v hv hbv
        obtain ⟨Av, cv, rfl⟩ := Kd.R_slice hv
        refine wpAnyIn_ready (rs := [3]) (by kernel_rfl) (by simp) (AllReadyIn.cons rfl (fun K hK => ?_) AllReadyIn.nil)
        go_simp
        exact hK _ _ (hD w1 _ hv hbv)
      have hC01 : wpAnyIn (Fence.wide.inRound l) m Try.prog .any #[{ dst := some 9, op := Op.load 32 (Operand.tmp 3), type := 32, pos := "term.go:86", after := #[], guard := none }, { dst := some 10, op := Op.move (Operand.tmp 4), type := 25, pos := "term.go:86", after := #[], guard := none }, { dst := some 11, op := Op.call { callee := Callee.value (Operand.func 73), args := #[Operand.tmp 10], argTypes := #[25] }, type := 25, pos := "term.go:86", after := #[{ on := 1, ground := Ground.data }], guard := none }, { dst := some 12, op := Op.buildSlice 32 1 #[(0, Operand.tmp 11)], type := 32, pos := "term.go:86", after := #[{ on := 2, ground := Ground.data }], guard := none }, { dst := some 13, op := Op.call { callee := Callee.builtin Builtin.append, args := #[Operand.tmp 9, Operand.tmp 12], argTypes := #[32, 32] }, type := 32, pos := "term.go:86", after := #[{ on := 0, ground := Ground.data }, { on := 3, ground := Ground.data }, { on := 2, ground := Ground.chain }], guard := none }, { dst := none, op := Op.store 32 (Operand.tmp 3) (Operand.tmp 13), type := 0, pos := "term.go:86", after := #[{ on := 4, ground := Ground.data }, { on := 4, ground := Ground.chain }, { on := 0, ground := Ground.phase }, { on := 1, ground := Ground.phase }, { on := 2, ground := Ground.phase }, { on := 3, ground := Ground.phase }, { on := 4, ground := Ground.phase }], guard := none }] (Exit.inBlock 1 (bodyEnd (fun S pre W => PlInv (w.heap.size + 1) S (pre.map Prod.fst) W) (fun k => k = w.heap.size + 1 ∨ P k) n0 (pre ++ [(p, s)]) W)) 4 #[true, true, false, false, false, false] { tmps := #[.agg #[.int .i64 a0_0, .slice A0_1 l0_1.length c0_1], .pointer (some ⟨w.heap.size, 0, none⟩), .slice none 0 0, .pointer (some ⟨w.heap.size + 1, 0, none⟩), .slice A p.length c, .agg #[.int .i64 a0_0, .slice A0_1 l0_1.length c0_1], .func (.func 103) #[] #[.pointer (some ⟨w.heap.size + 1 + 1, 0, none⟩)], .slice A p.length c, .agg #[.int .i64 s.f0, .slice As s.f1.length cs], .slice Au pre.length cu, .slice A p.length c, undef, undef, undef, undef], defers := [] } W.drew := by
        refine wpAnyIn_ready (rs := [2]) (by kernel_rfl) (by simp) (AllReadyIn.cons rfl (fun K hK => ?_) AllReadyIn.nil)
        go_simp
        refine ⟨trivial, ?_⟩
        (try refine ⟨wide_any _, ?_⟩)
        gi_at_call 73
        refine (CallsIn.inRound l (callsIn_wide.2 (clone_ints A c p W.drew (Kd.C_below hCz.out (pw_below_drewN (Below.refl _ _) 1)) hpc hpl))).mono ?_
        rintro e w1 ⟨v, rfl, hv, hbv⟩
        go_simp
        exact hK _ _ (hB _ _ hv ((pw_below_drewN (Below.refl _ _) 1).trans hbv))
      gi_wp2
      refine wpIn_region_any hmx ?_
      change wpAnyIn _ _ _ _ _ _ _ _ _ (World.drew _)
      refine wpAnyIn_ready (rs := [0, 1]) (by kernel_rfl) (by simp) (AllReadyIn.cons rfl (fun K hK => ?_) (AllReadyIn.cons rfl (fun K hK => ?_) AllReadyIn.nil))
      · go_simp
        refine hK _ _ ?_
        refine wpAnyIn_ready (rs := [1]) (by kernel_rfl) (by simp) (AllReadyIn.cons rfl (fun K hK => ?_) AllReadyIn.nil)
        go_simp
        exact hK _ _ hC01
      · go_simp
        refine hK _ _ ?_
        refine wpAnyIn_ready (rs := [0, 2]) (by kernel_rfl) (by simp) (AllReadyIn.cons rfl (fun K hK => ?_) (AllReadyIn.cons rfl (fun K hK => ?_) AllReadyIn.nil))
        · go_simp
          exact hK _ _ hC01
        · go_simp
          refine ⟨trivial, ?_⟩
          (try refine ⟨wide_any _, ?_⟩)
          gi_at_call 73
          refine (CallsIn.inRound l (callsIn_wide.2 (clone_ints A c p W.drew (Kd.C_below hCz.out (pw_below_drewN (Below.refl _ _) 1)) hpc hpl))).mono ?_
          rintro e w1 ⟨v, rfl, hv, hbv⟩
          have hbv : Below W.heap.size W w1 := (pw_below_drewN (Below.refl _ _) 1).trans hbv
          obtain ⟨Av, cv, rfl⟩ := Kd.R_slice hv
          have hc1 : w1.cell? ⟨w.heap.size + 1, 0, none⟩ = some (.slice Au pre.length cu) := (blk_cell (blk_below hbz.out hbv) 0).trans rfl
          have hBz := Aside0.mk hB
          have hDz := Aside0.mk hD
          have hvz := Aside0.mk hv
          have hbvz := Aside0.mk hbv
          clear hB hD hv hbv
          go_simp
          refine hK _ _ ?_
          refine wpAnyIn_ready (rs := [0, 3]) (by kernel_rfl) (by simp) (AllReadyIn.cons rfl (fun K hK => ?_) (AllReadyIn.cons rfl (fun K hK => ?_) AllReadyIn.nil))
          · go_simp
            exact hK _ _ (hBz.out w1 _ hvz.out hbvz.out)
          · go_simp
            refine hK _ _ ?_
            have hc2 : (w1.alloc (.cells #[.slice Av p.length cv] 25)).cell? ⟨w.heap.size + 1, 0, none⟩ = some (.slice Au pre.length cu) := (blk_cell (blk_alloc (blk_below hbz.out hbvz.out) _) 0).trans rfl
            refine wpAnyIn_ready (rs := [0]) (by kernel_rfl) (by simp) (AllReadyIn.cons rfl (fun K hK => ?_) AllReadyIn.nil)
            go_simp
            exact hK _ _ (hDz.out w1 _ hvz.out hbvz.out)
    case done =>
      rintro D S' W' ⟨P, Au, cu, rfl, hb, hR, hP⟩ hk _ hD hle
      rw [List.length_map] at hb hR
      have hc0 : W'.cell? ⟨w.heap.size + 1, 0, none⟩ = some (.slice Au (flatP [] ⟨a0_0, l0_1⟩).length cu) := (blk_cell hb 0).trans rfl
      have hkz := Aside0.mk hk
      have hDz := Aside0.mk hD
      have hRz := Aside0.mk hR
      have hPz := Aside0.mk hP
      clear hk hD hb hR hP
      gi_wp2
      refine ⟨by simp, .inl ⟨_, _, rfl, run_takeDeferred hDz.out, ?_⟩⟩
      refine ⟨_, results_tmp rfl _ _ _, _, rfl, ?_, ?_⟩
      · refine Kd.R_mono (Kd.R_lower (Kd.R_step hRz.out (w1 := W'.putObj D (.deferred none)) (fun k hk _ => World.putObj_heap_other (fun e => ?_))) (show w.heap.size ≤ w.heap.size + 1 + 1 by omega)) (fun _ _ => trivial)
        subst e
        obtain ⟨_, q, cells, h3⟩ := hPz.out _ hk
        have h4 := hDz.out
        rw [h3] at h4
        cases h4
      · have h1 := hkz.out.toBelow hb2.size (fun b hb => hb.elim (fun h => by omega) False.elim)
        have h2 := hkz.out.size
        have h3 := hb2.size
        exact below_put (hb2.trans h1) (by omega) (by omega) _
  · rw [if_neg hM] at h
    cases h
end Go.Proofs.Ytpfddihcikiofaa.P
