/- The walk of TermCounts. PRINTED by gen/gtermcounts.py. -/
import Derived.Test.YtpfddihcikiofaaGFlat
import Derived.Test.YtpfddihcikiofaaGTcRegs
namespace Go.Proofs.Ytpfddihcikiofaa.P
open Go.RowKit Go.Proofs.YtpfddihcikiofaaW.PrintWords Go.Proofs.YtpfddihcikiofaaW.PrintLast Go.Proofs.YtpfddihcikiofaaW.PrintMore
set_option linter.unusedVariables false
set_option linter.unusedSimpArgs false
attribute [local go_sem] max2_int min2_int max_two min_two

theorem Vars_of {t : S30} (h : (nodes t).length ≤ 1099511627776) : term_Vars.f t.f0 t.f1 = some (varsN (nodes t)) := by
  unfold term_Vars.f
  rw [S30.eta, if_pos (by rw [flatP_len]; exact h), varsP_eq, flatP_snd]
theorem Size_of {t : S30} (h : (nodes t).length ≤ 1099511627776) : term_Size.f t.f0 t.f1 = some ((nodes t).length : Int) := by
  unfold term_Size.f
  rw [S30.eta, flatP_len, if_pos h]
theorem Count_of {t : S30} (f : Int) (h : (nodes t).length ≤ 1099511627776) : term_Count.f t.f0 t.f1 f = some (countN f (nodes t) : Int) := by
  unfold term_Count.f
  rw [S30.eta, flatP_len, if_pos h, countP_eq, flatP_snd]
  rfl
theorem Places_of {t : S30} (h : (nodes t).length ≤ 1099511627776) : term_Places.f t.f0 t.f1 = some ((flatP [] t).map Prod.fst) := by
  unfold term_Places.f
  rw [S30.eta, flatP_len, if_pos h]

theorem cell_lt {w : World} {a : Addr} {v : Value} (h : w.cell? a = some v) : a.block < w.heap.size := by
  unfold World.cell? at h
  rcases Nat.lt_or_ge a.block w.heap.size with hlt | hge
  · exact hlt
  · rw [Array.getElem?_eq_none hge] at h
    simp at h
theorem rd_pre {VZ VA s : List Int} (h : VZ = VA ++ s) (k : Nat) (hk : k < VA.length) : rd VZ (k : Int) = rd VA (k : Int) := by
  subst h
  simp [rd, List.getD_eq_getElem?_getD, List.getElem?_append_left hk]

set_option maxHeartbeats 8000000 in
set_option maxRecDepth 100000 in
theorem TermCounts_walk (a b : S24) (f : Int) (A : Option Addr) (c : Nat) (A' : Option Addr) (c' : Nat) (w : World) (hf : -9223372036854775808 ≤ f ∧ f ≤ 9223372036854775807)
    (hA : k24.C w A a.f1.length a.f1) (hc : a.f1.length ≤ c) (hA' : k24.C w A' b.f1.length b.f1) (hc' : b.f1.length ≤ c') :
    Calls Try.prog 4 #[.agg #[.int .i64 a.f0, .slice A a.f1.length c], .agg #[.int .i64 b.f0, .slice A' b.f1.length c'], .int .i64 f] w fun e w' => e = .returned (.bool true) ∧ Below w.heap.size w w' := by
  have hmx : Try.prog.follows .mixedOrders = true := by kernel_rfl
  obtain ⟨ok, hFine, hok⟩ := Fine_spec [a, b] (by simp)
  obtain ⟨kF, hF⟩ := hFine.rounds
  have hbA : Aside0 (∀ w1, Below w.heap.size w w1 → k24.C w1 A a.f1.length a.f1) := ⟨fun w1 h => Kd.C_below hA h⟩
  have hbB : Aside0 (∀ w1, Below w.heap.size w w1 → k24.C w1 A' b.f1.length b.f1) := ⟨fun w1 h => Kd.C_below hA' h⟩
  clear hA hA'
  go_enter Try.func4, Try.ntmps4
  cases ok with
  | false =>
    go_wp2_with (first | (go_at_call 20; refine (soriteslaw06_alive.calls true _ alive06).mono ?_; rintro e w1 ⟨rfl, hb1⟩; have hs1 := hb1.size; simp only [World.size_alloc] at hs1; have hB1 : Below w.heap.size w w1 := (below_alloc (below_alloc (Below.refl _ _) _) _).trans (hb1.mono (by simp; omega)); have hg0 : w1.heap[w.heap.size]? = some (.cells #[.int .i64 a.f0, .slice A a.f1.length c] 24 (0, 0)) := blk_below (blk_alloc (heap_alloc_new _ _) _) hb1; have hg1 : w1.heap[w.heap.size + 1]? = some (.cells #[.int .i64 b.f0, .slice A' b.f1.length c'] 24 (0, 0)) := blk_below (by have := heap_alloc_new (w.alloc (.cells #[.int .i64 a.f0, .slice A a.f1.length c] 24)) (.cells #[.int .i64 b.f0, .slice A' b.f1.length c'] 24); rw [World.size_alloc] at this; exact this) hb1; have hx00 : w1.cell? ⟨w.heap.size, 0, none⟩ = some (.int .i64 a.f0) := (blk_cell hg0 0).trans rfl; have hx01 : w1.cell? ⟨w.heap.size, 1, none⟩ = some (.slice A a.f1.length c) := (blk_cell hg0 1).trans rfl; have hx10 : w1.cell? ⟨w.heap.size + 1, 0, none⟩ = some (.int .i64 b.f0) := (blk_cell hg1 0).trans rfl; have hx11 : w1.cell? ⟨w.heap.size + 1, 1, none⟩ = some (.slice A' b.f1.length c') := (blk_cell hg1 1).trans rfl) | (go_at_call 21; refine (soriteslaw06_Fine.calls kF _ 2 [a, b] _ _ (C2 k24 rfl (K24 (hbA.out _ (below_alloc hB1 _)) hc) (K24 (hbB.out _ (below_alloc hB1 _)) hc') (heap_alloc_new _ _)) (by simp) hF).mono ?_; rintro e w2 ⟨rfl, hb2⟩; have hB2 : Below w.heap.size w w2 := (below_alloc hB1 _).trans (hb2.mono (by simp; omega)); have hg2 := blk_below (blk_alloc hg0 _) hb2; have hg3 := blk_below (blk_alloc hg1 _) hb2))
    go_ret
    exact ⟨rfl, hB2⟩
  | true =>
    go_wp2_with (first | (go_at_call 20; refine (soriteslaw06_alive.calls true _ alive06).mono ?_; rintro e w1 ⟨rfl, hb1⟩; have hs1 := hb1.size; simp only [World.size_alloc] at hs1; have hB1 : Below w.heap.size w w1 := (below_alloc (below_alloc (Below.refl _ _) _) _).trans (hb1.mono (by simp; omega)); have hg0 : w1.heap[w.heap.size]? = some (.cells #[.int .i64 a.f0, .slice A a.f1.length c] 24 (0, 0)) := blk_below (blk_alloc (heap_alloc_new _ _) _) hb1; have hg1 : w1.heap[w.heap.size + 1]? = some (.cells #[.int .i64 b.f0, .slice A' b.f1.length c'] 24 (0, 0)) := blk_below (by have := heap_alloc_new (w.alloc (.cells #[.int .i64 a.f0, .slice A a.f1.length c] 24)) (.cells #[.int .i64 b.f0, .slice A' b.f1.length c'] 24); rw [World.size_alloc] at this; exact this) hb1; have hx00 : w1.cell? ⟨w.heap.size, 0, none⟩ = some (.int .i64 a.f0) := (blk_cell hg0 0).trans rfl; have hx01 : w1.cell? ⟨w.heap.size, 1, none⟩ = some (.slice A a.f1.length c) := (blk_cell hg0 1).trans rfl; have hx10 : w1.cell? ⟨w.heap.size + 1, 0, none⟩ = some (.int .i64 b.f0) := (blk_cell hg1 0).trans rfl; have hx11 : w1.cell? ⟨w.heap.size + 1, 1, none⟩ = some (.slice A' b.f1.length c') := (blk_cell hg1 1).trans rfl) | (go_at_call 21; refine (soriteslaw06_Fine.calls kF _ 2 [a, b] _ _ (C2 k24 rfl (K24 (hbA.out _ (below_alloc hB1 _)) hc) (K24 (hbB.out _ (below_alloc hB1 _)) hc') (heap_alloc_new _ _)) (by simp) hF).mono ?_; rintro e w2 ⟨rfl, hb2⟩; have hB2 : Below w.heap.size w w2 := (below_alloc hB1 _).trans (hb2.mono (by simp; omega)); have hg2 := blk_below (blk_alloc hg0 _) hb2; have hg3 := blk_below (blk_alloc hg1 _) hb2))
    have hoka := hok trivial a (by simp)
    have hokb := hok trivial b (by simp)
    refine of_two (x0 := a) (x1 := b) (g0 := w.heap.size) (g1 := w.heap.size + 1) (by kernel_rfl) (by kernel_rfl) rfl hg2 (hbA.out _ hB2) hc hoka.1 rfl hg3 (hbB.out _ hB2) hc' hokb.1 ?_
    intro w3 X0 q0 h0 X1 q1 h1 hb3 hge0 hx0 hq0 hC0 hge1 hx1 hq1 hC1
    have hB3 : Below w.heap.size w w3 := hB2.trans (hb3.mono hB2.size)
    have hc00 : w3.cell? ⟨h0, 0, none⟩ = some (.int .i64 a.f0) := (blk_cell hx0 0).trans rfl
    have hc01 : w3.cell? ⟨h0, 1, none⟩ = some (.slice X0 a.f1.length q0) := (blk_cell hx0 1).trans rfl
    have hc10 : w3.cell? ⟨h1, 0, none⟩ = some (.int .i64 b.f0) := (blk_cell hx1 0).trans rfl
    have hc11 : w3.cell? ⟨h1, 1, none⟩ = some (.slice X1 b.f1.length q1) := (blk_cell hx1 1).trans rfl
    -- the plain facts
    have hna := Nat.le_trans (nodes_le a) hoka.2
    have hnb := Nat.le_trans (nodes_le b) hokb.2
    have hnz : nodes ⟨77, [a, b]⟩ = ⟨77, [a, b]⟩ :: (nodes a ++ nodes b) := nodes_two 77 (by decide) a b
    have hnzl : (nodes ⟨77, [a, b]⟩).length = 1 + (nodes a).length + (nodes b).length := by rw [hnz]; simp; omega
    have hVz := Vars_of (t := ⟨77, [a, b]⟩) (by omega)
    have hVa := Vars_of (t := a) (by omega)
    have hVb := Vars_of (t := b) (by omega)
    have hvz : varsN (nodes ⟨77, [a, b]⟩) = varsN (nodes a ++ nodes b) := by rw [hnz]; rfl
    obtain ⟨hv1, hv2, hv3, hv4⟩ := vars_two (nodes a) (nodes b)
    rw [← hvz] at hv1 hv2 hv3 hv4
    have hlz : (varsN (nodes ⟨77, [a, b]⟩)).length ≤ 1000 := by have := varsP_len (flatP [] (⟨77, [a, b]⟩ : S30)); rw [varsP_eq, flatP_snd, flatP_len] at this; omega
    have hla : (varsN (nodes a)).length ≤ 1000 := by omega
    have hlb : (varsN (nodes b)).length ≤ 1000 := by omega
    have hTz := Top_spec ⟨77, [a, b]⟩ (by rw [flatP_len]; omega)
    have hTa := Top_spec a (by rw [flatP_len]; omega)
    have hTb := Top_spec b (by rw [flatP_len]; omega)
    have hTe := top_two (nodes a) (nodes b)
    rw [← hvz] at hTe
    obtain ⟨VZ, hVZ⟩ : ∃ l, l = varsN (nodes ⟨77, [a, b]⟩) := ⟨_, rfl⟩
    obtain ⟨VA, hVA⟩ : ∃ l, l = varsN (nodes a) := ⟨_, rfl⟩
    obtain ⟨VB, hVB⟩ : ∃ l, l = varsN (nodes b) := ⟨_, rfl⟩
    rw [← hVZ] at hVz hv1 hv2 hv3 hv4 hlz hTz hTe
    rw [← hVA] at hVa hv1 hv2 hv4 hla hTa hTe
    rw [← hVB] at hVb hv1 hv3 hlb hTb hTe
    obtain ⟨kz, hTz⟩ := hTz.rounds
    obtain ⟨ka, hTa⟩ := hTa.rounds
    obtain ⟨kb, hTb⟩ := hTb.rounds
    have hSz := Size_of (t := ⟨77, [a, b]⟩) (by omega)
    have hSa := Size_of (t := a) (by omega)
    have hSb := Size_of (t := b) (by omega)
    have hCoz := Count_of (t := ⟨77, [a, b]⟩) f (by omega)
    have hCoa := Count_of (t := a) f (by omega)
    have hCob := Count_of (t := b) f (by omega)
    have hPz := Places_of (t := ⟨77, [a, b]⟩) (by omega)
    have hPzl : ((flatP [] (⟨77, [a, b]⟩ : S30)).map Prod.fst).length = (nodes ⟨77, [a, b]⟩).length := by rw [List.length_map, flatP_len]
    have hcoe : countN f (nodes ⟨77, [a, b]⟩) = (if f == 77 then 1 else 0) + countN f (nodes a) + countN f (nodes b) := by
      rw [hnz]
      simp only [countN, List.filter_cons, List.filter_append]
      by_cases h : f = 77
      · subst h; simp; omega
      · have h2 : ¬ 77 = f := fun e => h e.symm
        simp [h, h2]
    have hcol := fun (l : List S30) => show countN f l ≤ l.length from List.length_filter_le _ _
    have hcoa := hcol (nodes a)
    have hcob := hcol (nodes b)
    obtain ⟨NZ, hNZ⟩ : ∃ n, n = (nodes ⟨77, [a, b]⟩).length := ⟨_, rfl⟩
    obtain ⟨NA, hNA⟩ : ∃ n, n = (nodes a).length := ⟨_, rfl⟩
    obtain ⟨NB, hNB⟩ : ∃ n, n = (nodes b).length := ⟨_, rfl⟩
    obtain ⟨CZ, hCZ⟩ : ∃ n, n = countN f (nodes ⟨77, [a, b]⟩) := ⟨_, rfl⟩
    obtain ⟨CA, hCA⟩ : ∃ n, n = countN f (nodes a) := ⟨_, rfl⟩
    obtain ⟨CB, hCB⟩ : ∃ n, n = countN f (nodes b) := ⟨_, rfl⟩
    obtain ⟨PZ, hPZ⟩ : ∃ l, l = (flatP [] (⟨77, [a, b]⟩ : S30)).map Prod.fst := ⟨_, rfl⟩
    rw [← hPZ] at hPz hPzl
    rw [← hNZ] at hSz hPzl hnzl
    rw [← hNA] at hSa hna hnzl hcoa
    rw [← hNB] at hSb hnb hnzl hcob
    rw [← hCZ] at hCoz hcoe
    rw [← hCA] at hCoa hcoe hcoa
    rw [← hCB] at hCob hcoe hcob
    clear hVZ hVA hVB hNZ hNA hNB hCZ hCA hCB hPZ hcol hnz hvz
    obtain ⟨TZ, hTZ⟩ : ∃ n, n = top VZ := ⟨_, rfl⟩
    obtain ⟨TA, hTA⟩ : ∃ n, n = top VA := ⟨_, rfl⟩
    obtain ⟨TB, hTB⟩ : ∃ n, n = top VB := ⟨_, rfl⟩
    rw [← hTZ] at hTz hTe
    rw [← hTA] at hTa hTe
    rw [← hTB] at hTb hTe
    clear hTZ hTA hTB
    have FV := Aside0.mk (And.intro hVz (And.intro hVa hVb))
    have FL := Aside0.mk (And.intro hlz (And.intro hla hlb))
    have FI := Aside0.mk (And.intro hv1 (And.intro hv2 (And.intro hv3 hv4)))
    have FT := Aside0.mk (And.intro hTz (And.intro hTa (And.intro hTb hTe)))
    have FS := Aside0.mk (And.intro hSz (And.intro hSa (And.intro hSb hnzl)))
    have FC := Aside0.mk (And.intro hCoz (And.intro hCoa (And.intro hCob hcoe)))
    have FB := Aside0.mk (And.intro hna (And.intro hnb (And.intro hcoa hcob)))
    have FP := Aside0.mk (And.intro hPz hPzl)
    clear hVz hVa hVb hlz hla hlb hv1 hv2 hv3 hv4 hTz hTa hTb hTe hSz hSa hSb hnzl hCoz hCoa hCob hcoe hna hnb hcoa hcob hPz hPzl hoka hokb hok
    -- z, in a box of its own
    obtain ⟨w4, hw4⟩ : ∃ W, W = (w3.alloc (.cells #[.int .i64 a.f0, .slice X0 a.f1.length q0, .int .i64 b.f0, .slice X1 b.f1.length q1] 30)).alloc (.cells #[.int .i64 77, .slice (some ⟨w3.heap.size, 0, none⟩) 2 2] 30) := ⟨_, rfl⟩
    have hb4 : Below w3.heap.size w3 w4 := by rw [hw4]; exact below_alloc (below_alloc (Below.refl _ _) _) _
    have hzs : w4.heap[w3.heap.size]? = some (.cells #[.int .i64 a.f0, .slice X0 a.f1.length q0, .int .i64 b.f0, .slice X1 b.f1.length q1] 30 (0, 0)) := by
      rw [hw4]
      exact blk_alloc (heap_alloc_new _ _) _
    have hzb : w4.heap[w3.heap.size + 1]? = some (.cells #[.int .i64 77, .slice (some ⟨w3.heap.size, 0, none⟩) 2 2] 30 (0, 0)) := by
      rw [hw4]
      have h1 := heap_alloc_new (w3.alloc (.cells #[.int .i64 a.f0, .slice X0 a.f1.length q0, .int .i64 b.f0, .slice X1 b.f1.length q1] 30)) (.cells #[.int .i64 77, .slice (some ⟨w3.heap.size, 0, none⟩) 2 2] 30)
      rw [World.size_alloc] at h1
      exact h1
    have hCz : k30.C w4 (some ⟨w3.heap.size, 0, none⟩) 2 [a, b] := C2 k30 rfl (K30 (Kd.C_below hC0 hb4) hq0) (K30 (Kd.C_below hC1 hb4) hq1) hzs
    have hB4 : Below w.heap.size w w4 := hB3.trans (hb4.mono hB3.size)
    have HCz := Aside0.mk hCz
    have HC0 := Aside0.mk (Kd.C_below hC0 hb4)
    have HC1 := Aside0.mk (Kd.C_below hC1 hb4)
    have HX0 := Aside0.mk (blk_below hx0 hb4)
    have HX1 := Aside0.mk (blk_below hx1 hb4)
    have HZB := Aside0.mk hzb
    have HB4 := Aside0.mk hB4
    have hw4z := Aside0.mk hw4
    clear hCz hC0 hC1 hzb hzs hB3 hB4 hb4 hx0 hx1 hb3 hg0 hg1 hg2 hg3 hx00 hx01 hx10 hx11 hB1 hB2 hb1 hb2 hw4 hFine hF
    by_cases hf77 : (f == 77) = true
    all_goals (try replace hf77 : (f == 77) = false := by simpa using hf77)
    all_goals (go_wp2_with ((go_at_call 32; rw [← hw4z.out]; refine (term_Vars.calls 77 (some ⟨w3.heap.size, 0, none⟩) 2 [a, b] _ w4 HCz.out (by simp) FV.out.1).mono ?_; rintro e w5 ⟨v5, rfl, hR5, hb5⟩; obtain ⟨Az, cz, rfl⟩ := Kd.R_slice hR5; have hr5 := Kd.R_reads' hR5; have HR5 := Aside0.mk hr5.2.2; have hcz := hr5.2.1; have hb5 := Aside0.mk hb5; clear hr5 hR5)))
    · skip
      refine region_detR 6 hmx (by kernel_rfl) (by kernel_rfl) ?_
      refine DetR.is (u := ?ux1) rfl (by decide) (fun T w' hb hd hB K hK => ?sx1) ?rx1
      case sx1 =>
        have e7 : T.getD 7 undef = .pointer (some ⟨h0, 0, none⟩) := hB 7 (by kernel_rfl)
        have q7_0 : w'.cell? ⟨h0, 0, none⟩ = some (.int .i64 a.f0) := (blk_cell (blk_below (blk_below HX0.out hb5.out) hb) 0).trans rfl
        have q7_1 : w'.cell? ⟨h0, 1, none⟩ = some (.slice X0 a.f1.length q0) := (blk_cell (blk_below (blk_below HX0.out hb5.out) hb) 1).trans rfl
        clear hd hB
        go_simp
        exact hK _ (Below.refl _ _)
      refine DetR.cons (RowTold (Kd.int .i64) (VA)) rfl (by decide) (RowTold.grows _ _) (fun T w' hb hd hB K hK => ?sx2) ?rx2
      case sx2 =>
        have e34 := hd 0 34 _ (by decide) (by kernel_rfl) rfl rfl
        replace e34 : T.getD 34 undef = _ := e34
        clear hd hB
        go_simp
        go_at_call 32
        refine (term_Vars.calls _ _ _ a.f1 _ w' (Kd.C_below (Kd.C_below HC0.out hb5.out) hb) hq0 FV.out.2.1).mono ?_
        rintro e w2 ⟨v1, rfl, h1, h2⟩
        exact hK _ _ h2 (RowTold.of h1)
      refine DetR.is (u := ?ux3) rfl (by decide) (fun T w' hb hd hB K hK => ?sx3) ?rx3
      case sx3 =>
        have e8 : T.getD 8 undef = .pointer (some ⟨h1, 0, none⟩) := hB 8 (by kernel_rfl)
        have q8_0 : w'.cell? ⟨h1, 0, none⟩ = some (.int .i64 b.f0) := (blk_cell (blk_below (blk_below HX1.out hb5.out) hb) 0).trans rfl
        have q8_1 : w'.cell? ⟨h1, 1, none⟩ = some (.slice X1 b.f1.length q1) := (blk_cell (blk_below (blk_below HX1.out hb5.out) hb) 1).trans rfl
        clear hd hB
        go_simp
        exact hK _ (Below.refl _ _)
      refine DetR.cons (RowTold (Kd.int .i64) (VB)) rfl (by decide) (RowTold.grows _ _) (fun T w' hb hd hB K hK => ?sx4) ?rx4
      case sx4 =>
        have e36 := hd 2 36 _ (by decide) (by kernel_rfl) rfl rfl
        replace e36 : T.getD 36 undef = _ := e36
        clear hd hB
        go_simp
        go_at_call 32
        refine (term_Vars.calls _ _ _ b.f1 _ w' (Kd.C_below (Kd.C_below HC1.out hb5.out) hb) hq1 FV.out.2.2).mono ?_
        rintro e w2 ⟨v1, rfl, h1, h2⟩
        exact hK _ _ h2 (RowTold.of h1)
      refine DetR.cons (RowTold (Kd.int .i64) (VA)) rfl (by decide) (RowTold.grows _ _) (fun T w' hb hd hB K hK => ?sx5) ?rx5
      case sx5 =>
        obtain ⟨A35, c35, e35, hl35, hC35⟩ := (hd 1 35 _ (by decide) (by kernel_rfl) rfl rfl)
        clear hd hB
        go_simp
        exact hK _ _ (Below.refl _ _) ⟨_, _, rfl, by assumption, by assumption⟩
      refine DetR.cons (RowTold (Kd.int .i64) (VB)) rfl (by decide) (RowTold.grows _ _) (fun T w' hb hd hB K hK => ?sx6) ?rx6
      case sx6 =>
        obtain ⟨A37, c37, e37, hl37, hC37⟩ := (hd 3 37 _ (by decide) (by kernel_rfl) rfl rfl)
        clear hd hB
        go_simp
        exact hK _ _ (Below.refl _ _) ⟨_, _, rfl, by assumption, by assumption⟩
      refine DetR.done [some 34, some 35, some 36, some 37, some 12, some 13] (by kernel_rfl) rfl (by kernel_rfl) ?_
      intro v w6 hb6 hv
      have f0 := hv 0 _ (by decide) rfl
      replace f0 : v 0 = _ := f0
      obtain ⟨Aw6_1, cw6_1, f1, hlw6_1, hCw6_1⟩ := hv 1 _ (by decide) rfl
      have f2 := hv 2 _ (by decide) rfl
      replace f2 : v 2 = _ := f2
      obtain ⟨Aw6_3, cw6_3, f3, hlw6_3, hCw6_3⟩ := hv 3 _ (by decide) rfl
      obtain ⟨Ap, cp, f4, hlp, hCp⟩ := hv 4 _ (by decide) rfl
      obtain ⟨Aq, cq, f5, hlq, hCq⟩ := hv 5 _ (by decide) rfl
      simp only [layL, Nat.reduceAdd, List.setIfInBounds_toArray, List.set_cons_zero, List.set_cons_succ, f0, f1, f2, f3, f4, f5]
      clear hv f0 f1 f2 f3 f4 f5
      clear hCw6_1 hCw6_3 hlw6_1 hlw6_3
      have HCp := Aside0.mk hCp
      have HCq := Aside0.mk hCq
      have hb6 := Aside0.mk hb6
      clear hCp hCq
      go_wp2
      refine TermCounts_r12 (nz := VZ.length) (np := VA.length) (nq := VB.length) (by kernel_rfl) rfl rfl rfl rfl (blk_below (blk_below HZB.out hb5.out) hb6.out) rfl (blk_below (blk_below HX0.out hb5.out) hb6.out) rfl (blk_below (blk_below HX1.out hb5.out) hb6.out) ?_ ?_ ?_ (by have := FI.out.1; omega) FI.out.2.1 FI.out.2.2.1 FL.out.1 FT.out.2.2.2 ?_
      · intro w1 hb; exact term_Top.calls kz 77 _ _ [a, b] TZ w1 (Kd.C_below (Kd.C_below (Kd.C_below HCz.out hb5.out) hb6.out) hb) (by simp) FT.out.1
      · intro w1 hb; exact term_Top.calls ka _ _ _ a.f1 TA w1 (Kd.C_below (Kd.C_below (Kd.C_below HC0.out hb5.out) hb6.out) hb) hq0 FT.out.2.1
      · intro w1 hb; exact term_Top.calls kb _ _ _ b.f1 TB w1 (Kd.C_below (Kd.C_below (Kd.C_below HC1.out hb5.out) hb6.out) hb) hq1 FT.out.2.2.1
      intro v w7 hb7 hv31
      simp only [layL, Nat.reduceAdd, List.setIfInBounds_toArray, List.set_cons_zero, List.set_cons_succ, hv31]
      clear hv31
      have hb7 := Aside0.mk hb7
      generalize v 0 = y0
      generalize v 1 = y1
      generalize v 2 = y2
      generalize v 3 = y3
      generalize v 4 = y4
      generalize v 5 = y5
      generalize v 6 = y6
      generalize v 7 = y7
      generalize v 8 = y8
      generalize v 9 = y9
      generalize v 10 = y10
      generalize v 11 = y11
      generalize v 12 = y12
      generalize v 13 = y13
      generalize v 14 = y14
      generalize v 15 = y15
      generalize v 16 = y16
      generalize v 17 = y17
      generalize v 18 = y18
      generalize v 19 = y19
      generalize v 20 = y20
      generalize v 21 = y21
      generalize v 22 = y22
      generalize v 23 = y23
      generalize v 24 = y24
      generalize v 25 = y25
      generalize v 26 = y26
      generalize v 27 = y27
      generalize v 28 = y28
      generalize v 29 = y29
      generalize v 30 = y30
      clear v
      have hlA := FL.out.2.1
      have HRz := Aside0.mk (Kd.C_below (Kd.C_below HR5.out hb6.out) hb7.out)
      have HCp7 := Aside0.mk (Kd.C_below HCp.out hb7.out)
      have HCz7 := Aside0.mk (Kd.C_below (Kd.C_below (Kd.C_below HCz.out hb5.out) hb6.out) hb7.out)
      have HC07 := Aside0.mk (Kd.C_below (Kd.C_below (Kd.C_below HC0.out hb5.out) hb6.out) hb7.out)
      have HC17 := Aside0.mk (Kd.C_below (Kd.C_below (Kd.C_below HC1.out hb5.out) hb6.out) hb7.out)
      have HZB7 := Aside0.mk (blk_below (blk_below (blk_below HZB.out hb5.out) hb6.out) hb7.out)
      have HX07 := Aside0.mk (blk_below (blk_below (blk_below HX0.out hb5.out) hb6.out) hb7.out)
      have HX17 := Aside0.mk (blk_below (blk_below (blk_below HX1.out hb5.out) hb6.out) hb7.out)
      have HB7 := Aside0.mk (((HB4.out.trans (hb5.out.mono HB4.out.size)).trans (hb6.out.mono (Nat.le_trans HB4.out.size hb5.out.size))).trans (hb7.out.mono (Nat.le_trans (Nat.le_trans HB4.out.size hb5.out.size) hb6.out.size)))
      clear HR5 HCp HCq HCz HC0 HC1 HZB HX0 HX1 hb5 hb6 hb7 hw4z HB4 hbA hbB
      go_wp2
      go_loopw [14] (fun i wr => ∃ k : Nat, k ≤ VA.length ∧ i = .int .i64 k ∧ Aside0 (Below w7.heap.size w7 wr)) (fun i wr => VA.length - (intOf i).toNat)
      case atStart => exact ⟨0, Nat.zero_le _, rfl, ⟨Below.refl _ _⟩⟩
      case round =>
        obtain ⟨k, hk, rfl, hbr⟩ := hrel
        by_cases hlt : k < VA.length
        · obtain ⟨az, rfl, hz⟩ := Kd.at_int (Kd.C_below HRz.out hbr.out) (k : Int) (by omega) (by have := FI.out.2.1; omega)
          obtain ⟨ap, rfl, hp⟩ := Kd.at_int (Kd.C_below HCp7.out hbr.out) (k : Int) (by omega) (by omega)
          obtain ⟨sx, hsx⟩ := FI.out.2.2.2
          rw [rd_pre hsx k hlt] at hz
          have hzz := Aside0.mk hz
          have hpp := Aside0.mk hp
          clear hz hp hsx sx
          go_wp2
          refine TermCounts_r17 (nz := VZ.length) (np := VA.length) (i := (k : Int)) (x := rd VA (k : Int)) (by kernel_rfl) rfl rfl rfl (by omega) (by have := FI.out.2.1; omega) (by omega) FL.out.1 hcz hlp hzz.out hpp.out (cell_lt hzz.out) (cell_lt hpp.out) ?_
          intro v w8 hb8 hv8
          simp only [layL, Nat.reduceAdd, List.setIfInBounds_toArray, List.set_cons_zero, List.set_cons_succ, hv8]
          have hbr8 := Aside0.mk (hbr.out.trans (hb8.mono hbr.out.size))
          clear hv8 hb8 hzz hpp
          go_wp2
          go_roundw
          case rel => exact ⟨k + 1, by omega, by go_num, hbr8⟩
          case measure => simp [intOf]; omega
        · have hke : k = VA.length := by omega
          go_wp2
          have hcn := FC.out.2.2.2
          rw [hf77] at hcn
          simp only [if_true, ite_true, reduceIte] at hcn
          refine TermCounts_r19 (f := f) (nn := 1) (sz := NZ) (sa := NA) (sb := NB) (cz := CZ) (ca := CA) (cb := CB) (PZ := PZ) (by kernel_rfl) rfl rfl rfl (blk_below HZB7.out hbr.out) rfl (blk_below HX07.out hbr.out) rfl (blk_below HX17.out hbr.out) ?_ ?_ ?_ ?_ ?_ ?_ ?_ ?_ FS.out.2.2.2 (by omega) (FP.out.2.trans rfl) FB.out.1 FB.out.2.1 (Nat.le_trans FB.out.2.2.1 FB.out.1) (Nat.le_trans FB.out.2.2.2 FB.out.2.1) (by omega) ?_
          · intro w1 hb; exact term_Size.calls 77 _ _ [a, b] NZ w1 (Kd.C_below (Kd.C_below HCz7.out hbr.out) hb) (by simp) FS.out.1
          · intro w1 hb; exact term_Size.calls _ _ _ a.f1 NA w1 (Kd.C_below (Kd.C_below HC07.out hbr.out) hb) hq0 FS.out.2.1
          · intro w1 hb; exact term_Size.calls _ _ _ b.f1 NB w1 (Kd.C_below (Kd.C_below HC17.out hbr.out) hb) hq1 FS.out.2.2.1
          · intro w1 hb; exact term_Count.calls 77 _ _ [a, b] f CZ w1 (Kd.C_below (Kd.C_below HCz7.out hbr.out) hb) (by simp) FC.out.1
          · intro w1 hb; exact term_Count.calls _ _ _ a.f1 f CA w1 (Kd.C_below (Kd.C_below HC07.out hbr.out) hb) hq0 FC.out.2.1
          · intro w1 hb; exact term_Count.calls _ _ _ b.f1 f CB w1 (Kd.C_below (Kd.C_below HC17.out hbr.out) hb) hq1 FC.out.2.2.1
          · intro w1 hb; exact (term_Places.calls 77 _ _ [a, b] PZ w1 (Kd.C_below (Kd.C_below HCz7.out hbr.out) hb) (by simp) FP.out.1).mono (fun e w2 ⟨v, h1, h2, h3⟩ => ⟨v, h1, RowTold.of h2, h3⟩)
          · intro w1 hb; exact term_Size.calls 77 _ _ [a, b] NZ w1 (Kd.C_below (Kd.C_below HCz7.out hbr.out) hb) (by simp) FS.out.1
          intro v w9 hb9 hv32
          simp only [layL, Nat.reduceAdd, List.setIfInBounds_toArray, List.set_cons_zero, List.set_cons_succ, hv32]
          have hb9 := Aside0.mk hb9
          clear hv32
          go_wp2
          go_ret
          exact ⟨rfl, (HB7.out.trans (hbr.out.mono HB7.out.size)).trans (hb9.out.mono (Nat.le_trans HB7.out.size hbr.out.size))⟩
    · skip
      refine region_detR 6 hmx (by kernel_rfl) (by kernel_rfl) ?_
      refine DetR.is (u := ?ux91) rfl (by decide) (fun T w' hb hd hB K hK => ?sx91) ?rx91
      case sx91 =>
        have e7 : T.getD 7 undef = .pointer (some ⟨h0, 0, none⟩) := hB 7 (by kernel_rfl)
        have q7_0 : w'.cell? ⟨h0, 0, none⟩ = some (.int .i64 a.f0) := (blk_cell (blk_below (blk_below HX0.out hb5.out) hb) 0).trans rfl
        have q7_1 : w'.cell? ⟨h0, 1, none⟩ = some (.slice X0 a.f1.length q0) := (blk_cell (blk_below (blk_below HX0.out hb5.out) hb) 1).trans rfl
        clear hd hB
        go_simp
        exact hK _ (Below.refl _ _)
      refine DetR.cons (RowTold (Kd.int .i64) (VA)) rfl (by decide) (RowTold.grows _ _) (fun T w' hb hd hB K hK => ?sx92) ?rx92
      case sx92 =>
        have e34 := hd 0 34 _ (by decide) (by kernel_rfl) rfl rfl
        replace e34 : T.getD 34 undef = _ := e34
        clear hd hB
        go_simp
        go_at_call 32
        refine (term_Vars.calls _ _ _ a.f1 _ w' (Kd.C_below (Kd.C_below HC0.out hb5.out) hb) hq0 FV.out.2.1).mono ?_
        rintro e w2 ⟨v1, rfl, h1, h2⟩
        exact hK _ _ h2 (RowTold.of h1)
      refine DetR.is (u := ?ux93) rfl (by decide) (fun T w' hb hd hB K hK => ?sx93) ?rx93
      case sx93 =>
        have e8 : T.getD 8 undef = .pointer (some ⟨h1, 0, none⟩) := hB 8 (by kernel_rfl)
        have q8_0 : w'.cell? ⟨h1, 0, none⟩ = some (.int .i64 b.f0) := (blk_cell (blk_below (blk_below HX1.out hb5.out) hb) 0).trans rfl
        have q8_1 : w'.cell? ⟨h1, 1, none⟩ = some (.slice X1 b.f1.length q1) := (blk_cell (blk_below (blk_below HX1.out hb5.out) hb) 1).trans rfl
        clear hd hB
        go_simp
        exact hK _ (Below.refl _ _)
      refine DetR.cons (RowTold (Kd.int .i64) (VB)) rfl (by decide) (RowTold.grows _ _) (fun T w' hb hd hB K hK => ?sx94) ?rx94
      case sx94 =>
        have e36 := hd 2 36 _ (by decide) (by kernel_rfl) rfl rfl
        replace e36 : T.getD 36 undef = _ := e36
        clear hd hB
        go_simp
        go_at_call 32
        refine (term_Vars.calls _ _ _ b.f1 _ w' (Kd.C_below (Kd.C_below HC1.out hb5.out) hb) hq1 FV.out.2.2).mono ?_
        rintro e w2 ⟨v1, rfl, h1, h2⟩
        exact hK _ _ h2 (RowTold.of h1)
      refine DetR.cons (RowTold (Kd.int .i64) (VA)) rfl (by decide) (RowTold.grows _ _) (fun T w' hb hd hB K hK => ?sx95) ?rx95
      case sx95 =>
        obtain ⟨A35, c35, e35, hl35, hC35⟩ := (hd 1 35 _ (by decide) (by kernel_rfl) rfl rfl)
        clear hd hB
        go_simp
        exact hK _ _ (Below.refl _ _) ⟨_, _, rfl, by assumption, by assumption⟩
      refine DetR.cons (RowTold (Kd.int .i64) (VB)) rfl (by decide) (RowTold.grows _ _) (fun T w' hb hd hB K hK => ?sx96) ?rx96
      case sx96 =>
        obtain ⟨A37, c37, e37, hl37, hC37⟩ := (hd 3 37 _ (by decide) (by kernel_rfl) rfl rfl)
        clear hd hB
        go_simp
        exact hK _ _ (Below.refl _ _) ⟨_, _, rfl, by assumption, by assumption⟩
      refine DetR.done [some 34, some 35, some 36, some 37, some 12, some 13] (by kernel_rfl) rfl (by kernel_rfl) ?_
      intro v w6 hb6 hv
      have f0 := hv 0 _ (by decide) rfl
      replace f0 : v 0 = _ := f0
      obtain ⟨Aw6_1, cw6_1, f1, hlw6_1, hCw6_1⟩ := hv 1 _ (by decide) rfl
      have f2 := hv 2 _ (by decide) rfl
      replace f2 : v 2 = _ := f2
      obtain ⟨Aw6_3, cw6_3, f3, hlw6_3, hCw6_3⟩ := hv 3 _ (by decide) rfl
      obtain ⟨Ap, cp, f4, hlp, hCp⟩ := hv 4 _ (by decide) rfl
      obtain ⟨Aq, cq, f5, hlq, hCq⟩ := hv 5 _ (by decide) rfl
      simp only [layL, Nat.reduceAdd, List.setIfInBounds_toArray, List.set_cons_zero, List.set_cons_succ, f0, f1, f2, f3, f4, f5]
      clear hv f0 f1 f2 f3 f4 f5
      clear hCw6_1 hCw6_3 hlw6_1 hlw6_3
      have HCp := Aside0.mk hCp
      have HCq := Aside0.mk hCq
      have hb6 := Aside0.mk hb6
      clear hCp hCq
      go_wp2
      refine TermCounts_r12 (nz := VZ.length) (np := VA.length) (nq := VB.length) (by kernel_rfl) rfl rfl rfl rfl (blk_below (blk_below HZB.out hb5.out) hb6.out) rfl (blk_below (blk_below HX0.out hb5.out) hb6.out) rfl (blk_below (blk_below HX1.out hb5.out) hb6.out) ?_ ?_ ?_ (by have := FI.out.1; omega) FI.out.2.1 FI.out.2.2.1 FL.out.1 FT.out.2.2.2 ?_
      · intro w1 hb; exact term_Top.calls kz 77 _ _ [a, b] TZ w1 (Kd.C_below (Kd.C_below (Kd.C_below HCz.out hb5.out) hb6.out) hb) (by simp) FT.out.1
      · intro w1 hb; exact term_Top.calls ka _ _ _ a.f1 TA w1 (Kd.C_below (Kd.C_below (Kd.C_below HC0.out hb5.out) hb6.out) hb) hq0 FT.out.2.1
      · intro w1 hb; exact term_Top.calls kb _ _ _ b.f1 TB w1 (Kd.C_below (Kd.C_below (Kd.C_below HC1.out hb5.out) hb6.out) hb) hq1 FT.out.2.2.1
      intro v w7 hb7 hv31
      simp only [layL, Nat.reduceAdd, List.setIfInBounds_toArray, List.set_cons_zero, List.set_cons_succ, hv31]
      clear hv31
      have hb7 := Aside0.mk hb7
      generalize v 0 = y0
      generalize v 1 = y1
      generalize v 2 = y2
      generalize v 3 = y3
      generalize v 4 = y4
      generalize v 5 = y5
      generalize v 6 = y6
      generalize v 7 = y7
      generalize v 8 = y8
      generalize v 9 = y9
      generalize v 10 = y10
      generalize v 11 = y11
      generalize v 12 = y12
      generalize v 13 = y13
      generalize v 14 = y14
      generalize v 15 = y15
      generalize v 16 = y16
      generalize v 17 = y17
      generalize v 18 = y18
      generalize v 19 = y19
      generalize v 20 = y20
      generalize v 21 = y21
      generalize v 22 = y22
      generalize v 23 = y23
      generalize v 24 = y24
      generalize v 25 = y25
      generalize v 26 = y26
      generalize v 27 = y27
      generalize v 28 = y28
      generalize v 29 = y29
      generalize v 30 = y30
      clear v
      have hlA := FL.out.2.1
      have HRz := Aside0.mk (Kd.C_below (Kd.C_below HR5.out hb6.out) hb7.out)
      have HCp7 := Aside0.mk (Kd.C_below HCp.out hb7.out)
      have HCz7 := Aside0.mk (Kd.C_below (Kd.C_below (Kd.C_below HCz.out hb5.out) hb6.out) hb7.out)
      have HC07 := Aside0.mk (Kd.C_below (Kd.C_below (Kd.C_below HC0.out hb5.out) hb6.out) hb7.out)
      have HC17 := Aside0.mk (Kd.C_below (Kd.C_below (Kd.C_below HC1.out hb5.out) hb6.out) hb7.out)
      have HZB7 := Aside0.mk (blk_below (blk_below (blk_below HZB.out hb5.out) hb6.out) hb7.out)
      have HX07 := Aside0.mk (blk_below (blk_below (blk_below HX0.out hb5.out) hb6.out) hb7.out)
      have HX17 := Aside0.mk (blk_below (blk_below (blk_below HX1.out hb5.out) hb6.out) hb7.out)
      have HB7 := Aside0.mk (((HB4.out.trans (hb5.out.mono HB4.out.size)).trans (hb6.out.mono (Nat.le_trans HB4.out.size hb5.out.size))).trans (hb7.out.mono (Nat.le_trans (Nat.le_trans HB4.out.size hb5.out.size) hb6.out.size)))
      clear HR5 HCp HCq HCz HC0 HC1 HZB HX0 HX1 hb5 hb6 hb7 hw4z HB4 hbA hbB
      go_wp2
      go_loopw [14] (fun i wr => ∃ k : Nat, k ≤ VA.length ∧ i = .int .i64 k ∧ Aside0 (Below w7.heap.size w7 wr)) (fun i wr => VA.length - (intOf i).toNat)
      case atStart => exact ⟨0, Nat.zero_le _, rfl, ⟨Below.refl _ _⟩⟩
      case round =>
        obtain ⟨k, hk, rfl, hbr⟩ := hrel
        by_cases hlt : k < VA.length
        · obtain ⟨az, rfl, hz⟩ := Kd.at_int (Kd.C_below HRz.out hbr.out) (k : Int) (by omega) (by have := FI.out.2.1; omega)
          obtain ⟨ap, rfl, hp⟩ := Kd.at_int (Kd.C_below HCp7.out hbr.out) (k : Int) (by omega) (by omega)
          obtain ⟨sx, hsx⟩ := FI.out.2.2.2
          rw [rd_pre hsx k hlt] at hz
          have hzz := Aside0.mk hz
          have hpp := Aside0.mk hp
          clear hz hp hsx sx
          go_wp2
          refine TermCounts_r17 (nz := VZ.length) (np := VA.length) (i := (k : Int)) (x := rd VA (k : Int)) (by kernel_rfl) rfl rfl rfl (by omega) (by have := FI.out.2.1; omega) (by omega) FL.out.1 hcz hlp hzz.out hpp.out (cell_lt hzz.out) (cell_lt hpp.out) ?_
          intro v w8 hb8 hv8
          simp only [layL, Nat.reduceAdd, List.setIfInBounds_toArray, List.set_cons_zero, List.set_cons_succ, hv8]
          have hbr8 := Aside0.mk (hbr.out.trans (hb8.mono hbr.out.size))
          clear hv8 hb8 hzz hpp
          go_wp2
          go_roundw
          case rel => exact ⟨k + 1, by omega, by go_num, hbr8⟩
          case measure => simp [intOf]; omega
        · have hke : k = VA.length := by omega
          go_wp2
          have hcn := FC.out.2.2.2
          rw [hf77] at hcn
          simp only [Bool.false_eq_true, if_false, ite_false, reduceIte] at hcn
          refine TermCounts_r19 (f := f) (nn := 0) (sz := NZ) (sa := NA) (sb := NB) (cz := CZ) (ca := CA) (cb := CB) (PZ := PZ) (by kernel_rfl) rfl rfl rfl (blk_below HZB7.out hbr.out) rfl (blk_below HX07.out hbr.out) rfl (blk_below HX17.out hbr.out) ?_ ?_ ?_ ?_ ?_ ?_ ?_ ?_ FS.out.2.2.2 (by omega) (FP.out.2.trans rfl) FB.out.1 FB.out.2.1 (Nat.le_trans FB.out.2.2.1 FB.out.1) (Nat.le_trans FB.out.2.2.2 FB.out.2.1) (by omega) ?_
          · intro w1 hb; exact term_Size.calls 77 _ _ [a, b] NZ w1 (Kd.C_below (Kd.C_below HCz7.out hbr.out) hb) (by simp) FS.out.1
          · intro w1 hb; exact term_Size.calls _ _ _ a.f1 NA w1 (Kd.C_below (Kd.C_below HC07.out hbr.out) hb) hq0 FS.out.2.1
          · intro w1 hb; exact term_Size.calls _ _ _ b.f1 NB w1 (Kd.C_below (Kd.C_below HC17.out hbr.out) hb) hq1 FS.out.2.2.1
          · intro w1 hb; exact term_Count.calls 77 _ _ [a, b] f CZ w1 (Kd.C_below (Kd.C_below HCz7.out hbr.out) hb) (by simp) FC.out.1
          · intro w1 hb; exact term_Count.calls _ _ _ a.f1 f CA w1 (Kd.C_below (Kd.C_below HC07.out hbr.out) hb) hq0 FC.out.2.1
          · intro w1 hb; exact term_Count.calls _ _ _ b.f1 f CB w1 (Kd.C_below (Kd.C_below HC17.out hbr.out) hb) hq1 FC.out.2.2.1
          · intro w1 hb; exact (term_Places.calls 77 _ _ [a, b] PZ w1 (Kd.C_below (Kd.C_below HCz7.out hbr.out) hb) (by simp) FP.out.1).mono (fun e w2 ⟨v, h1, h2, h3⟩ => ⟨v, h1, RowTold.of h2, h3⟩)
          · intro w1 hb; exact term_Size.calls 77 _ _ [a, b] NZ w1 (Kd.C_below (Kd.C_below HCz7.out hbr.out) hb) (by simp) FS.out.1
          intro v w9 hb9 hv32
          simp only [layL, Nat.reduceAdd, List.setIfInBounds_toArray, List.set_cons_zero, List.set_cons_succ, hv32]
          have hb9 := Aside0.mk hb9
          clear hv32
          go_wp2
          go_ret
          exact ⟨rfl, (HB7.out.trans (hbr.out.mono HB7.out.size)).trans (hb9.out.mono (Nat.le_trans HB7.out.size hbr.out.size))⟩
end Go.Proofs.Ytpfddihcikiofaa.P
