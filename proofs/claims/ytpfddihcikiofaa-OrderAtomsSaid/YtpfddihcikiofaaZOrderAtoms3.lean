/- The law OrderAtoms holds of every input. Part 3 of 5: GCovers, PxSoritesref06Same, PxSoritesref06Flat, PxSoritesref06Vars, GSpec, PxSoritesref10Count, PxSoritesref10Covers, PxSoritesref10Greater, PxKboGreater, PxKboCompare, GSpec10, GMultiA, GOrient, GOrient2, GOrient3, GDetJ. -/
import Derived.Maps.OwnOps
import Derived.Maps.RangeWalk
import Derived.Test.YtpfddihcikiofaaZOrderAtoms2
import Derived.Test.YtpfddihcikiofaaZOrderAtoms1
namespace Go.Proofs.Ytpfddihcikiofaa.P
open Go.RowKit Go.Proofs.YtpfddihcikiofaaW.PrintWords Go.Proofs.YtpfddihcikiofaaW.PrintLast Go.Proofs.YtpfddihcikiofaaW.PrintMore
set_option linter.unusedVariables false
set_option linter.unusedSimpArgs false
section
open Go.RowKit Go.Maps Go.Proofs.YtpfddihcikiofaaW.PrintWords Go.Proofs.YtpfddihcikiofaaW.PrintLast Go.Proofs.YtpfddihcikiofaaW.PrintMore
theorem law3 : Keyed Try.prog 3 := int_keyed Try.underlying3
theorem zero3 (w : World) : (zeroValue 3).run Try.prog w = .ok (.int .i64 0) w := by kernel_rfl
abbrev i64D (c : Int) : DataW Unit := .lit (.int .i64 c)
def ReadsM (D : DataW Unit) (g : Int → Int) : Prop := IsMap D ∧ ∀ x, (Lit.int .i64 x).wf = true → D.atKey (.int .i64 x) (i64D 0) = i64D (g x)
def addV (g : Int → Int) (s : Int) (l : List S30) : Int → Int := fun x => g x + (if x < 0 then s * (countN x l : Int) else 0)
theorem addV_nil (g : Int → Int) (s : Int) : addV g s [] = g := by
 funext x
 simp [addV, countN]
theorem countN_append (x : Int) (l m : List S30) : countN x (l ++ m) = countN x l + countN x m := by simp [countN]
theorem countN_le (x : Int) (l : List S30) : countN x l ≤ l.length := by unfold countN; exact List.length_filter_le _ _
theorem addV_append (g : Int → Int) (s : Int) (l m : List S30) : addV g s (l ++ m) = addV (addV g s l) s m := by
 funext x
 simp only [addV, countN_append]
 split
 ·rw [Int.natCast_add, Int.mul_add]; omega
 ·omega
theorem addV_bound {g : Int → Int} {s M : Int} (hs : s = 1 ∨ s = -1) (h : ∀ x, -M ≤ g x ∧ g x ≤ M) (l : List S30) (x : Int) : -(M + l.length) ≤ addV g s l x ∧ addV g s l x ≤ M + l.length := by
 have h1 := countN_le x l
 have h2 := h x
 unfold addV
 split
 ·rcases hs with rfl | rfl
  ·rw [Int.one_mul]; omega
  ·rw [Int.neg_mul, Int.one_mul]; omega
 ·omega
def SmallN (t : S30) : Prop := ∀ x ∈ nodes t, -1000000 ≤ x.f0 ∧ x.f0 ≤ 1000000
theorem nodess_take (l : List S30) (k : Nat) (h : k < l.length) : nodess (l.take (k + 1)) = nodess (l.take k) ++ nodes l[k] := by
 have key : ∀ a b : List S30, nodess (a ++ b) = nodess a ++ nodess b := by
  intro a
  induction a with
  | nil => intro b; rfl
  | cons x a ih => intro b; rw [List.cons_append, nodess, nodess, ih, List.append_assoc]
 rw [List.take_succ_eq_append_getElem h, key]
 simp [nodess]
theorem nodess_mem {l : List S30} {x y : S30} (hx : x ∈ l) (hy : y ∈ nodes x) : y ∈ nodess l := by
 induction l with
 | nil => cases hx
 | cons z l ih =>
  rw [nodess, List.mem_append]
  rcases List.mem_cons.1 hx with rfl | hx
  ·exact .inl hy
  ·exact .inr (ih hx)
theorem nodess_take_le (l : List S30) (k : Nat) : (nodess (l.take k)).length ≤ (nodess l).length := by
 have key : ∀ a b : List S30, nodess (a ++ b) = nodess a ++ nodess b := by
  intro a
  induction a with
  | nil => intro b; rfl
  | cons x a ih => intro b; rw [List.cons_append, nodess, nodess, ih, List.append_assoc]
 have h : nodess l = nodess (l.take k) ++ nodess (l.drop k) := by rw [← key, List.take_append_drop]
 rw [h, List.length_append]
 omega
def CountsOk (t : S30) : Prop := ∀ (w0 w : World) (A : Option Addr) (c B n : Nat) (D : DataW Unit) (g : Int → Int) (s M : Int), k30.C w0 A t.f1.length t.f1 → t.f1.length ≤ c → Below w0.heap.size w0 w → w0.heap.size ≤ B →
 w.ownsMap Try.prog 3 (plainElem Try.prog 3) B n D → ReadsM D g → (∀ x, -M ≤ g x ∧ g x ≤ M) → M + (nodes t).length ≤ 1000000000 → n + (nodes t).length ≤ 1000000000 → (s = 1 ∨ s = -1) → SmallN t →
 Calls Try.prog 79 #[.agg #[.int .i64 t.f0, .slice A t.f1.length c], .map (some B), .int .i64 s] w fun e w' => e = .returned (.tuple #[]) ∧
  ∃ D', w'.ownsMap Try.prog 3 (plainElem Try.prog 3) B (n + (nodes t).length) D' ∧ ReadsM D' (addV g s (nodes t)) ∧ Below w0.heap.size w0 w'
theorem rdC_at (l : List S30) (k : Nat) (h : k < l.length) : rd_T30 l (k : Int) = l[k] := by
 unfold rd_T30
 simp [List.getD, List.getElem?_eq_getElem h]
theorem put_reads {D : DataW Unit} {g : Int → Int} {t : S30} {s c : Int} (h : ReadsM D g) (hneg : t.f0 < 0) (hn : nodes t = [t]) (hc : c = g t.f0 + s) (hw : (Lit.int .i64 t.f0).wf = true) : ReadsM (D.put (.int .i64 t.f0) (i64D c)) (addV g s (nodes t)) := by
 refine ⟨h.1.put _ _, fun x hx => ?_⟩
 by_cases hxt : x = t.f0
 ·subst hxt
  rw [atKey_put_same h.1 (by simp [WideAt.IsKeyLit]), hn, hc]
  simp [addV, hneg, countN]
 ·rw [atKey_put_other (by intro e; injection e with _ e; exact hxt e), h.2 x hx, hn]
  have : countN x [t] = 0 := by simp [countN]; exact fun e => hxt e.symm
  simp [addV, this]
set_option maxHeartbeats 4000000 in
set_option maxRecDepth 100000 in
theorem counts_any : ∀ t : S30, CountsOk t := by
 refine S30.ind ?_
 intro f l ih w0 w A c B n D g s M hC hc hb0 hB hown hR hg hM hn hs hsm
 have hll : l.length ≤ 9223372036854775807 := hC.2.1
 have hCz := Az_.mk hC
 have hIz := Az_.mk ih
 have hSz := Az_.mk hsm
 have hf : -1000000 ≤ f ∧ f ≤ 1000000 := hsm ⟨f, l⟩ (by simp [nodes])
 have hwf : (Lit.int .i64 f).wf = true := by simp [Lit.wf, IntKind.min, IntKind.max, IntKind.signed, IntKind.bits]; omega
 clear hC ih hsm
 by_cases hneg : f < 0
 ·have hnd : nodes ⟨f, l⟩ = [⟨f, l⟩] := by simp [nodes, hneg]
  have hlt : decide (f < 0) = true := decide_eq_true hneg
  have hgf := hg f
  have hkey : keyOf Try.prog 3 (.int .i64 f) = some (.int .i64 f) := keyOf_int_mk Try.underlying3 hwf
  have hownb := hown.alloc (.cells #[.int .i64 f, .slice A l.length c] 30)
  have hR' := Az_.mk hR
  have hg' := Az_.mk hg
  have hn1 : n + 1 ≤ 1000000000 := by rw [hnd] at hn; exact hn
  have hM1 : M + 1 ≤ 1000000000 := by rw [hnd] at hM; exact hM
  clear hR hg hn hM
  go_enter Try.func79, Try.ntmps79
  go_wp2_with (first
   | (at_lookup; refine wpList_lookup_own_int _ rfl _ _ 106 rfl 3 3 .i64 law3 Try.underlying106 Try.underlying3 (zero3 _) B n _ rfl hownb _ _ rfl hkey ?_; intro c1 hat hwc)
   | (at_mapUpdate; refine wpList_mapUpdate_own _ rfl _ _ _ 106 rfl 3 3 law3 Try.underlying106 _ B n _ rfl hownb (by unfold maxLen; omega) _ _ _ rfl rfl hkey _ [] (plainElem_int Try.underlying3 (wrap64_wf _)) ?_; intro w1 hown1 hgrow1)
   | go_in)
  have hc1 : c1 = g f := by
   have h1 := hR'.out.2 f hwf
   rw [hat] at h1
   simpa [i64D] using h1
  have hgf' := hg'.out f
  have hwr : wrap64 (c1 + s) = g f + s := by
   rw [hc1]
   unfold wrap64
   rcases hs with rfl | rfl <;> omega
  have hbb := (bA_ hb0 (.cells #[.int .i64 f, .slice A l.length c] 30)).grown hgrow1 (Nat.le_trans hb0.size (by simp)) (fun j hj => by cases hj; exact hB)
  have hres := put_reads hR'.out (t := ⟨f, l⟩) hneg (by simp [nodes, hneg]) hwr hwf
  rw [show nodes ⟨f, l⟩ = [⟨f, l⟩] by simp [nodes, hneg]] at hres
  refine bodyPost_ret (results_none (by rfl) _ _ _) (by rfl) ?_
  exact ⟨rfl, _, hown1, hres, hbb⟩
 ·have hge : decide (f < 0) = false := decide_eq_false hneg
  have hnd : nodes ⟨f, l⟩ = ⟨f, l⟩ :: nodess l := by simp [nodes, hneg]
  have hadd : addV g s (nodes ⟨f, l⟩) = addV g s (nodess l) := by
   funext x
   rw [hnd]
   unfold addV
   split
   ·rename_i hx
    have : countN x (⟨f, l⟩ :: nodess l) = countN x (nodess l) := by
     unfold countN
     rw [List.filter_cons_of_neg]
     simp
     omega
    rw [this]
   ·rfl
  have hln : (nodes ⟨f, l⟩).length = 1 + (nodess l).length := by rw [hnd, List.length_cons]; omega
  rw [hln] at hM hn ⊢
  rw [hadd]
  have hSl : ∀ x ∈ l, SmallN x := fun x hx y hy => hSz.out y (by rw [hnd]; exact List.mem_cons_of_mem _ (nodess_mem hx hy))
  have hSl := Az_.mk hSl
  have hR' := Az_.mk hR
  have hg' := Az_.mk hg
  have hownb := Az_.mk (hown.alloc (.cells #[.int .i64 f, .slice A l.length c] 30))
  have hbb := Az_.mk (bA_ hb0 (.cells #[.int .i64 f, .slice A l.length c] 30))
  clear hR hg hnd hadd hln hSz hb0 hown hf hwf
  go_enter Try.func79, Try.ntmps79
  go_wp2
  go_loopw [20] (fun i wr => ∃ k : Nat, k ≤ l.length ∧ i = .int .i64 k ∧ Az_ (∃ D', wr.ownsMap Try.prog 3 (plainElem Try.prog 3) B (n + (nodess (l.take k)).length) D' ∧ ReadsM D' (addV g s (nodess (l.take k))) ∧ Below w0.heap.size w0 wr)) (fun i wr => l.length - (intOf i).toNat)
  case atStart => exact ⟨0, Nat.zero_le _, rfl, ⟨D, hownb.out, by rw [List.take_zero, nodess, addV_nil]; exact hR'.out, hbb.out⟩⟩
  case round =>
   obtain ⟨k, hk, rfl, ⟨D1, hown1, hR1, hb1⟩⟩ := hrel
   by_cases hlt : k < l.length
   ·obtain ⟨ad, A1, c1, rfl, hx0, hx1, hl1, hC1⟩ := at_T30 hCz.out (k : Int) (by omega) (by omega)
    rw [rdC_at l k hlt] at hx0 hx1 hl1 hC1
    rw [Int.toNat_natCast] at hx0 hx1
    replace hx0 := (hb1.cell (cell_lt' hx0)).trans hx0
    replace hx1 := (hb1.cell (cell_lt' hx1)).trans hx1
    have htk := nodess_take l k hlt
    have htl := nodess_take_le l (k + 1)
    rw [htk, List.length_append] at htl
    have hih := hIz.out l[k] (List.getElem_mem hlt)
    have hsx := hSl.out l[k] (List.getElem_mem hlt)
    generalize hxk : l[k] = x at hx0 hx1 hl1 hC1 htk htl hih hsx
    obtain ⟨P, hP⟩ : ∃ P, P = nodess (l.take k) := ⟨_, rfl⟩
    rw [← hP] at htk htl hown1 hR1
    have hgb := addV_bound hs hg'.out P
    have hin : Az_ (Calls Try.prog 79 #[.agg #[.int .i64 x.f0, .slice A1 x.f1.length c1], .map (some B), .int .i64 s] (wr.alloc (.cells #[.int .i64 x.f0, .slice A1 x.f1.length c1] 30)) fun e w' => e = .returned (.tuple #[]) ∧
      ∃ D', w'.ownsMap Try.prog 3 (plainElem Try.prog 3) B (n + P.length + (nodes x).length) D' ∧ ReadsM D' (addV (addV g s P) s (nodes x)) ∧ Below w0.heap.size w0 w') := ⟨hih w0 _ A1 c1 B (n + P.length) D1 (addV g s P) s (M + P.length) hC1 hl1 (bA_ hb1 _) hB (hown1.alloc _) hR1 hgb (by omega) (by omega) hs hsx⟩
    have htkz := Az_.mk htk
    have hsz := Az_.mk hs
    clear hxk hgb hown1 hR1 hb1 hC1 htl htk hih hsx hP hs
    go_wp2_with (go_at_call 79; refine hin.out.mono ?_; rintro e w3 ⟨rfl, D2, h1, h2, h3⟩; have H1 := Az_.mk h1; have H2 := Az_.mk h2; have H3 := Az_.mk h3; clear h1 h2 h3)
    go_roundw
    case rel => exact ⟨k + 1, by omega, by go_num, ⟨D2, by rw [htkz.out, List.length_append, ← Nat.add_assoc]; exact H1.out, by rw [htkz.out, addV_append]; exact H2.out, H3.out⟩⟩
    case measure => simp [intOf]; omega
   ·have hke : k = l.length := by omega
    subst hke
    rw [List.take_length] at hown1 hR1
    have hown1 := Az_.mk hown1
    have hR1 := Az_.mk hR1
    have hb1 := Az_.mk hb1
    go_wp2
    go_end0
    exact ⟨rfl, D1, hown1.out.mono (by omega), hR1.out, hb1.out⟩
def covT (a b : S30) : Bool := (nodes b).all fun x => decide (0 ≤ x.f0) || decide (countN x.f0 (nodes b) ≤ countN x.f0 (nodes a))
def netV (a b : S30) : Int → Int := addV (addV (fun _ => 0) 1 (nodes a)) (-1) (nodes b)
theorem netV_eq (a b : S30) (x : Int) : netV a b x = if x < 0 then (countN x (nodes a) : Int) - (countN x (nodes b) : Int) else 0 := by
 unfold netV addV
 simp only []
 split
 ·rw [Int.one_mul, Int.neg_mul, Int.one_mul]; omega
 ·omega
theorem covT_iff (a b : S30) : covT a b = true ↔ ∀ x, 0 ≤ netV a b x := by
 unfold covT
 rw [List.all_eq_true]
 constructor
 ·intro h x
  rw [netV_eq]
  split
  ·rename_i hx
   by_cases hz : countN x (nodes b) = 0
   ·omega
   ·obtain ⟨y, hy⟩ : ∃ y, y ∈ (nodes b).filter fun z => z.f0 == x := List.exists_mem_of_length_pos (Nat.pos_of_ne_zero hz)
    rw [List.mem_filter, beq_iff_eq] at hy
    have := h y hy.1
    rw [hy.2, Bool.or_eq_true, decide_eq_true_eq, decide_eq_true_eq] at this
    omega
  ·exact Int.le_refl _
 ·intro h x hx
  have := h x.f0
  rw [netV_eq] at this
  rw [Bool.or_eq_true, decide_eq_true_eq, decide_eq_true_eq]
  split at this <;> omega
set_option maxHeartbeats 4000000 in
set_option maxRecDepth 100000 in
theorem Covers_calls (a b : S30) (A : Option Addr) (c : Nat) (A' : Option Addr) (c' : Nat) (w : World) (hA : k30.C w A a.f1.length a.f1) (hc : a.f1.length ≤ c) (hB : k30.C w A' b.f1.length b.f1) (hc' : b.f1.length ≤ c')
  (hsa : SmallN a) (hsb : SmallN b) (hna : (nodes a).length ≤ 1000000) (hnb : (nodes b).length ≤ 1000000) :
  Calls Try.prog 45 #[.agg #[.int .i64 a.f0, .slice A a.f1.length c], .agg #[.int .i64 b.f0, .slice A' b.f1.length c']] w fun e w' => e = .returned (.bool (covT a b)) ∧ Below w.heap.size w w' := by
 have hmm := @run_makeMap Try.prog
 obtain ⟨W2, hW2⟩ : ∃ W2, W2 = (w.alloc (.cells #[.int .i64 a.f0, .slice A a.f1.length c] 30)).alloc (.cells #[.int .i64 b.f0, .slice A' b.f1.length c'] 30) := ⟨_, rfl⟩
 have hb2 : Below w.heap.size w W2 := by rw [hW2]; exact bA_ (bA_ (Below.refl _ _) _) _
 have hs2 : W2.heap.size = w.heap.size + 1 + 1 := by rw [hW2, World.size_alloc, World.size_alloc]
 have hbx : W2.heap[w.heap.size + 1]? = some (.cells #[.int .i64 b.f0, .slice A' b.f1.length c'] 30 (0, 0)) := by
  rw [hW2]
  have := heap_alloc_new (w.alloc (.cells #[.int .i64 a.f0, .slice A a.f1.length c] 30)) (.cells #[.int .i64 b.f0, .slice A' b.f1.length c'] 30)
  rw [World.size_alloc] at this
  exact this
 have hmade := World.ownsMap_made W2 Try.prog 3 (plainElem (H := Unit) Try.prog 3)
 rw [hs2] at hmade
 have h1 : Az_ (Calls Try.prog 79 #[.agg #[.int .i64 a.f0, .slice A a.f1.length c], .map (some (w.heap.size + 1 + 1)), .int .i64 1] (W2.alloc (.map #[] 0)) fun e w' => e = .returned (.tuple #[]) ∧
   ∃ D', w'.ownsMap Try.prog 3 (plainElem (H := Unit) Try.prog 3) (w.heap.size + 1 + 1) (0 + (nodes a).length) D' ∧ ReadsM D' (addV (fun _ => 0) 1 (nodes a)) ∧ Below W2.heap.size W2 w') :=
  ⟨counts_any a W2 _ A c _ 0 _ (fun _ => 0) 1 0 (Kd.C_below hA hb2) hc (bA_ (Below.refl _ _) _) (Nat.le_of_eq hs2) hmade ⟨isMap_empty, fun x _ => rfl⟩ (fun x => ⟨by omega, by omega⟩) (by omega) (by omega) (.inl rfl) hsa⟩
 have h2 : Az_ (∀ w4 D1, w4.ownsMap Try.prog 3 (plainElem (H := Unit) Try.prog 3) (w.heap.size + 1 + 1) (0 + (nodes a).length) D1 → ReadsM D1 (addV (fun _ => 0) 1 (nodes a)) → Below W2.heap.size W2 w4 → Calls Try.prog 79 #[.agg #[.int .i64 b.f0, .slice A' b.f1.length c'], .map (some (w.heap.size + 1 + 1)), .int .i64 (-1)] w4 fun e w' => e = .returned (.tuple #[]) ∧
   ∃ D', w'.ownsMap Try.prog 3 (plainElem (H := Unit) Try.prog 3) (w.heap.size + 1 + 1) (0 + (nodes a).length + (nodes b).length) D' ∧ ReadsM D' (netV a b) ∧ Below W2.heap.size W2 w') :=
  ⟨fun w4 D1 g1 g2 g3 => counts_any b W2 w4 A' c' _ _ _ _ (-1) (nodes a).length (Kd.C_below hB hb2) hc' g3 (Nat.le_of_eq hs2) g1 g2 (fun x => by have := addV_bound (g := fun _ => 0) (M := 0) (.inl rfl) (fun x => ⟨by omega, by omega⟩) (nodes a) x; omega) (by omega) (by omega) (.inr rfl) hsb⟩
 have hbig : Az_ (∀ x, ¬ (Lit.int .i64 x).wf = true → netV a b x = 0) := ⟨fun x hx => by
  have hz : ∀ t : S30, SmallN t → countN x (nodes t) = 0 := fun t ht => by
   unfold countN
   rw [List.length_eq_zero_iff, List.filter_eq_nil_iff]
   intro y hy e
   rw [beq_iff_eq] at e
   have := ht y hy
   apply hx
   simp [Lit.wf, IntKind.min, IntKind.max, IntKind.signed, IntKind.bits]
   omega
  rw [netV_eq, hz a hsa, hz b hsb]
  split <;> rfl⟩
 have hb2z := Az_.mk hb2
 have hbxz := Az_.mk hbx
 have hW2z := Az_.mk hW2
 have hs2z := Az_.mk hs2
 clear hA hB hsa hsb hna hnb hmade hb2 hbx hs2 hW2
 go_enter Try.func45, Try.ntmps45
 go_wp2_with (first
  | (go_at_call 79; rw [← hW2z.out]; refine h1.out.mono ?_; rintro e w4 ⟨rfl, D1, g1, g2, g3⟩; have G1 := Az_.mk (And.intro g1 (And.intro g2 g3)); have k0 : w4.cell? ⟨w.heap.size + 1, 0, none⟩ = some (.int .i64 b.f0) := (yaa_ (kB_ hbxz.out g3) 0).trans rfl; have k1 : w4.cell? ⟨w.heap.size + 1, 1, none⟩ = some (.slice A' b.f1.length c') := (yaa_ (kB_ hbxz.out g3) 1).trans rfl; clear g1 g2 g3)
  | (go_at_call 79; refine (h2.out _ _ G1.out.1 G1.out.2.1 G1.out.2.2).mono ?_; rintro e w5 ⟨rfl, D2, g4, g5, g6⟩; have G2 := Az_.mk (And.intro g5 g6))
  | (at_range; refine wpList_range_own _ rfl _ 106 rfl 3 3 law3 Try.underlying106 _ (w.heap.size + 1 + 1) _ _ rfl g4 ?_; intro w6 hrg0 hg0 hs0)
  | go_in)
 have hB6 : Below w.heap.size w w6 := (hb2z.out.trans (G2.out.2.mono hb2z.out.size)).grown hg0 (Nat.le_trans hb2z.out.size G2.out.2.size) (fun j hj => by cases hj)
 have hlt5 : w.heap.size ≤ w5.heap.size := Nat.le_trans hb2z.out.size G2.out.2.size
 have hrel0 : ∀ x, (Lit.int .i64 x).wf = true → Maps.has D2 (.int .i64 x) = false → 0 ≤ netV a b x := fun x hx hh => by
  have h3 := G2.out.1.2 x hx
  rw [atKey_of_not_has hh] at h3
  have : netV a b x = 0 := by simpa [i64D] using h3.symm
  omega
 have hrel0z := Az_.mk hrel0
 have hB6z := Az_.mk hB6
 have hat2 := Az_.mk G2.out.1
 clear g4 G1 G2 h1 h2 hmm hrel0 hB6 k0 k1 hg0 hs0
 go_frame
 go_loopw [7] (fun _ wr => ∃ (left : Lit → Bool) (cnt : Nat), wr.ranges Try.prog 3 (plainElem (H := Unit) Try.prog 3) (w.heap.size + 1 + 1) w5.heap.size (0 + (nodes a).length + (nodes b).length) D2 left cnt ∧ Az_ (∀ x, (Lit.int .i64 x).wf = true → left (.int .i64 x) = false → 0 ≤ netV a b x) ∧ Az_ (Below w.heap.size w wr))
  (fun _ wr => wr.rangeLeft (w.heap.size + 1 + 1) w5.heap.size)
 case atStart => exact ⟨_, _, hrg0, hrel0z, hB6z⟩
 case round =>
  obtain ⟨left, cnt, hrg, hl, hbw⟩ := hrel
  go_wp2_with (first
   | (at_next; refine wpList_next_ranges_ii _ rfl _ rfl 3 3 .i64 .i64 law3 Try.underlying3 Try.underlying3 (w.heap.size + 1 + 1) w5.heap.size _ _ _ _ rfl hrg ?_ ?_)
   | go_in)
  ·intro _ hl0
   have hcv : covT a b = true := by
    rw [covT_iff]
    intro x
    by_cases hx : (Lit.int .i64 x).wf = true
    ·exact hl.out x hx (hl0 _)
    ·rw [hbig.out x hx]
     exact Int.le_refl _
   go_wp2
   go_ret
   rw [hcv]
   exact ⟨rfl, hbw.out⟩
  ·intro x c1 w7 cnt1 hwx hwc hlx hat hrg1 hlt hg1 hs1 hen
   have hnet : netV a b x = c1 := by
    have h3 := hat2.out.2 x hwx
    rw [hat] at h3
    simpa [i64D] using h3.symm
   have hbw1 := Az_.mk (hbw.out.grown hg1 hbw.out.size (fun j hj => by cases hj; exact hlt5))
   by_cases hneg : c1 < 0
   ·have hd : decide (c1 < 0) = true := decide_eq_true hneg
    have hcv : covT a b = false := by
     rw [← Bool.not_eq_true, covT_iff]
     intro h
     have := h x
     omega
    clear hnet
    go_wp2
    go_ret
    rw [hcv]
    exact ⟨rfl, hbw1.out⟩
   ·have hd : decide (c1 < 0) = false := decide_eq_false hneg
    have hl2 : Az_ (∀ y, (Lit.int .i64 y).wf = true → (fun z => left z && !z.sameKey (.int .i64 x)) (.int .i64 y) = false → 0 ≤ netV a b y) := ⟨fun y hy hly => by
     by_cases hyx : y = x
     ·subst hyx; omega
     ·rw [show (fun z => left z && !z.sameKey (.int .i64 x)) (.int .i64 y) = (left (.int .i64 y) && !(Lit.int .i64 y).sameKey (.int .i64 x)) from rfl, Maps.sameKey_ne (by intro e; injection e with _ e; exact hyx e)] at hly
      exact hl.out y hy (by simpa using hly)⟩
    have hmeas : w7.rangeLeft (w.heap.size + 1 + 1) w5.heap.size < wr.rangeLeft (w.heap.size + 1 + 1) w5.heap.size := by rw [hrg1.left_eq, hrg.left_eq]; exact hlt
    have hmz := Az_.mk hmeas
    clear hnet hmeas
    go_wp2
    go_roundw
    case rel => exact ⟨(fun z => left z && !z.sameKey (.int .i64 x)), cnt1, by rw [Nat.zero_add]; exact hrg1, hl2, hbw1⟩
    case measure => exact hmz.out
def fitB (t : S30) : Bool := decide ((nodes t).length ≤ 1000000) && (nodes t).all fun x => decide (-1000000 ≤ x.f0) && decide (x.f0 ≤ 1000000)
theorem fitB_iff (t : S30) : fitB t = true ↔ (nodes t).length ≤ 1000000 ∧ SmallN t := by
 unfold fitB SmallN
 rw [Bool.and_eq_true, decide_eq_true_eq, List.all_eq_true]
 simp only [Bool.and_eq_true, decide_eq_true_eq]
def kbo_Covers.f (a0_0 : Int) (l0_1 : List S30) (a1_0 : Int) (l1_1 : List S30) : Option Bool := if (fitB ⟨a0_0, l0_1⟩ && fitB ⟨a1_0, l1_1⟩) = true then some (covT ⟨a0_0, l0_1⟩ ⟨a1_0, l1_1⟩) else none
theorem kbo_Covers.calls (a0_0 : Int) (A0_1 : Option Addr) (c0_1 : Nat) (l0_1 : List (S30)) (a1_0 : Int) (A1_1 : Option Addr) (c1_1 : Nat) (l1_1 : List (S30)) (r : Bool) (w : World) (hr0_1 : Kd.C k30 w A0_1 l0_1.length l0_1) (hc0_1 : l0_1.length ≤ c0_1) (hr1_1 : Kd.C k30 w A1_1 l1_1.length l1_1) (hc1_1 : l1_1.length ≤ c1_1) (h : kbo_Covers.f a0_0 l0_1 a1_0 l1_1 = some r) :
  Calls Try.prog 45 #[.agg #[.int .i64 a0_0, .slice A0_1 l0_1.length c0_1], .agg #[.int .i64 a1_0, .slice A1_1 l1_1.length c1_1]] w fun e w' => e = .returned (.bool r) ∧ Below w.heap.size w w' := by
 unfold kbo_Covers.f at h
 split at h
 ·rename_i hf
  rw [Bool.and_eq_true, fitB_iff, fitB_iff] at hf
  obtain rfl := Option.some.inj h
  exact Covers_calls ⟨a0_0, l0_1⟩ ⟨a1_0, l1_1⟩ A0_1 c0_1 A1_1 c1_1 w hr0_1 hc0_1 hr1_1 hc1_1 hf.1.2 hf.2.2 hf.1.1 hf.2.1
 ·cases h
end
section
attribute [local go_sem] max2_int min2_int max_two min_two max_three min_three max_four min_four
mutual
def soritesref06_Same.l0 : Nat → Int → Int → List (S24) → Int → List (S24) → Option (Bool)
 | 0, _, _, _, _, _ => none
 | k + 1, x5, x178000, x178001, x179000, x179001 => if x5 < (x178001.length : Int) then (if 0 ≤ x5 then (if x5 < (x179001.length : Int) then ((soritesref06_Same.f k ((rd_T24 x178001 x5).f0) ((rd_T24 x178001 x5).f1) ((rd_T24 x179001 x5).f0) ((rd_T24 x179001 x5).f1)).bind fun t181 => (if t181 = true then (soritesref06_Same.l0 k (wrap64 (x5 + 1)) x178000 x178001 x179000 x179001) else (some false))) else (none)) else (none)) else (some true)
def soritesref06_Same.f : Nat → Int → List (S24) → Int → List (S24) → Option (Bool)
 | 0, _, _, _, _ => none
 | k + 1, a0_0, l0_1, a1_0, l1_1 => if a0_0 = a1_0 then (if a0_0 < 0 then (some true) else (if (l0_1.length : Int) = (l1_1.length : Int) then (soritesref06_Same.l0 k 0 a0_0 l0_1 a1_0 l1_1) else (some false))) else (some false)
end
end
section
attribute [local go_sem] max2_int min2_int max_two min_two max_three min_three max_four min_four
mutual
def soritesref06_Flat.l0 : Nat → List (S24) → Int → Int → List (S24) → Option ((List (S24)))
 | 0, _, _, _, _ => none
 | k + 1, x3, x4, x159000, x159001 => if x159000 ≥ 0 then (if x4 < (x159001.length : Int) then (if 0 ≤ x4 then ((soritesref06_Flat.f k ((rd_T24 x159001 x4).f0) ((rd_T24 x159001 x4).f1)).bind fun t163 => (if x3.length + t163.length < 4398046511104 then (soritesref06_Flat.l0 k (x3 ++ t163) (wrap64 (x4 + 1)) x159000 x159001) else (none))) else (none)) else (some x3)) else (some x3)
def soritesref06_Flat.f : Nat → Int → List (S24) → Option ((List (S24)))
 | 0, _, _ => none
 | k + 1, a0_0, l0_1 => soritesref06_Flat.l0 k (([(⟨a0_0, l0_1⟩ : S24)] : List (S24))) 0 a0_0 l0_1
end
end
section
attribute [local go_sem] max2_int min2_int max_two min_two max_three min_three max_four min_four
mutual
def soritesref06_Vars.l0 : Nat → List (S24) → List Int → Int → Option (List Int)
 | 0, _, _, _ => none
 | k + 1, x3, x4, x5 => if x5 < (x3.length : Int) then (if 0 ≤ x5 then (if ((rd_T24 x3 x5).f0) ≥ 0 then (soritesref06_Vars.l0 k x3 x4 (wrap64 (x5 + 1))) else (soritesref06_Vars.l1 k x3 x4 x5 (wrap64 ((-1) - ((rd_T24 x3 x5).f0))) false 0)) else (none)) else (some x4)
def soritesref06_Vars.l1 : Nat → List (S24) → List Int → Int → Int → Bool → Int → Option (List Int)
 | 0, _, _, _, _, _, _ => none
 | k + 1, x3, x4, x5, x6, x7, x8 => if x8 < (x4.length : Int) then (if x7 = true then (soritesref06_Vars.l1 k x3 x4 x5 x6 true (wrap64 (x8 + 1))) else (if 0 ≤ x8 then (soritesref06_Vars.l1 k x3 x4 x5 x6 ((rd x4 x8) == x6) (wrap64 (x8 + 1))) else (none))) else (if x7 = true then (soritesref06_Vars.l0 k x3 x4 (wrap64 (x5 + 1))) else (if x4.length < 17592186044416 then (soritesref06_Vars.l0 k x3 (x4 ++ [x6]) (wrap64 (x5 + 1))) else (none)))
end
def soritesref06_Vars.f (k : Nat) (a0_0 : Int) (l0_1 : List (S24)) : Option (List Int) := (soritesref06_Flat.f k a0_0 l0_1).bind fun t298 => (soritesref06_Vars.l0 k t298 ([] : List Int) 0)
end
section
def fit (t : S30) : Prop := (nodes t).length ≤ 1000000 ∧ SmallN t
theorem nodes_pos (t : S30) : 1 ≤ (nodes t).length := by
 obtain ⟨f, l⟩ := t
 simp [nodes]
theorem nodess_len_le : ∀ l : List S30, l.length ≤ (nodess l).length
 | [] => by simp
 | x :: r => by
  have := nodes_pos x
  have := nodess_len_le r
  simp only [nodess, List.length_append, List.length_cons]
  omega
theorem nodess_one_le {l : List S30} {x : S30} (h : x ∈ l) : (nodes x).length ≤ (nodess l).length := by
 induction l with
 | nil => cases h
 | cons z l ih =>
  rw [nodess, List.length_append]
  rcases List.mem_cons.1 h with rfl | h
  ·omega
  ·have := ih h; omega
theorem fit_sub {f : Int} {l : List S30} (hf : ¬ f < 0) (h : fit ⟨f, l⟩) : l.length ≤ 1000000 ∧ ∀ x ∈ l, fit x := by
 have hn : nodes ⟨f, l⟩ = ⟨f, l⟩ :: nodess l := by simp [nodes, hf]
 have h1 := h.1
 rw [hn, List.length_cons] at h1
 refine ⟨by have := nodess_len_le l; omega, fun x hx => ⟨by have := nodess_one_le hx; omega, fun y hy => h.2 y (by rw [hn]; exact List.mem_cons_of_mem _ (nodess_mem hx hy))⟩⟩
theorem rd24_at (l : List S30) (k : Nat) (h : k < l.length) : rd_T24 l (k : Int) = l[k] := rdC_at l k h
theorem cmpI_ne {a b : Int} (h : a ≠ b) : cmpI a b ≠ 0 := by unfold cmpI; (repeat' split) <;> omega
theorem cmpTs_drop (l m : List S30) (k : Nat) (hl : k < l.length) (hm : k < m.length) : cmpTs (l.drop k) (m.drop k) = if cmpT l[k] m[k] = 0 then cmpTs (l.drop (k + 1)) (m.drop (k + 1)) else cmpT l[k] m[k] := by
 rw [List.drop_eq_getElem_cons hl, List.drop_eq_getElem_cons hm, cmpTs]
theorem wsucc (i n : Nat) (h : i < n) (hn : n ≤ 1000000000) : wrap64 ((i : Int) + 1) = ((i + 1 : Nat) : Int) := by rw [w64 _ (by omega)]; omega
theorem RSame_spec : ∀ a b : S30, fit a → Ev (fun k => soritesref06_Same.f k a.f0 a.f1 b.f0 b.f1) (cmpT a b == 0) := by
 refine S30.ind ?_
 intro f l ih b hfit
 obtain ⟨g, m⟩ := b
 by_cases hfg : f = g
 ·subst hfg
  by_cases hf : f < 0
  ·refine Ev.step (f := fun _ => some true) (fun k => ?_) ?_
   ·rw [soritesref06_Same.f, if_pos rfl, if_pos hf]
   ·have : cmpT ⟨f, l⟩ ⟨f, m⟩ = 0 := by simp [cmpT, hf, cmpI_self]
    rw [this]; exact Ev.now _
  ·obtain ⟨hll, hsub⟩ := fit_sub hf hfit
   by_cases hlm : l.length = m.length
   ·have hc : cmpT ⟨f, l⟩ ⟨f, m⟩ = cmpTs l m := by simp [cmpT, hf, cmpI_self, hlm, orI]
    rw [hc]
    refine Ev.step (f := fun k => soritesref06_Same.l0 k 0 f l f m) (fun k => ?_) ?_
    ·rw [soritesref06_Same.f, if_pos rfl, if_neg hf, if_pos (by simp [hlm])]
    ·have key : ∀ n i, l.length - i = n → i ≤ l.length → Ev (fun k => soritesref06_Same.l0 k (i : Int) f l f m) (cmpTs (l.drop i) (m.drop i) == 0) := by
      intro n
      induction n with
      | zero =>
       intro i hi hle
       refine Ev.step (f := fun _ => some true) (fun k => ?_) ?_
       ·rw [soritesref06_Same.l0, if_neg (by omega)]
       ·rw [List.drop_of_length_le (by omega), List.drop_of_length_le (by omega)]; exact Ev.now _
      | succ n ihn =>
       intro i hi hle
       have hlt : i < l.length := by omega
       have hltm : i < m.length := by omega
       have hmem := List.getElem_mem hlt
       refine Ev.step (f := fun k => (soritesref06_Same.f k l[i].f0 l[i].f1 m[i].f0 m[i].f1).bind fun t => if t = true then soritesref06_Same.l0 k ((i + 1 : Nat) : Int) f l f m else some false) (fun k => ?_) (Ev.bind (ih l[i] hmem m[i] (hsub _ hmem)) ?_)
       ·rw [soritesref06_Same.l0, if_pos (by omega), if_pos (by omega), if_pos (by omega), rd24_at l i hlt, rd24_at m i hltm, wsucc i l.length hlt (by omega)]
       ·rw [cmpTs_drop l m i hlt hltm]
        by_cases h0 : cmpT l[i] m[i] = 0
        ·simp only [h0, beq_self_eq_true, if_true]
         exact ihn (i + 1) (by omega) (by omega)
        ·rw [if_neg h0]
         have : (cmpT l[i] m[i] == 0) = false := by simpa using h0
         simp only [this, Bool.false_eq_true, if_false]
         exact Ev.now _
     have := key l.length 0 rfl (by omega)
     simpa using this
   ·refine Ev.step (f := fun _ => some false) (fun k => ?_) ?_
    ·rw [soritesref06_Same.f, if_pos rfl, if_neg hf, if_neg (by simpa using fun h => hlm (by omega))]
    ·have h1 : cmpI (l.length : Int) m.length ≠ 0 := cmpI_ne (by omega)
     have : (cmpT ⟨f, l⟩ ⟨f, m⟩ == 0) = false := by simp [cmpT, hf, cmpI_self, orI, h1]
     rw [this]; exact Ev.now _
 ·refine Ev.step (f := fun _ => some false) (fun k => ?_) ?_
  ·rw [soritesref06_Same.f, if_neg hfg]
  ·have h1 := cmpI_ne hfg
   have h2 := cmpI_ne (fun e => hfg e.symm)
   have : (cmpT ⟨f, l⟩ ⟨g, m⟩ == 0) = false := by
    simp only [cmpT, beq_eq_false_iff_ne]
    split
    ·split
     ·exact h2
     ·exact h1
    ·unfold orI; rw [if_neg h1]; exact h1
   rw [this]; exact Ev.now _
theorem RFlat_spec : ∀ t : S30, fit t → Ev (fun k => soritesref06_Flat.f k t.f0 t.f1) (nodes t) := by
 refine S30.ind ?_
 intro f l ih hfit
 refine Ev.step (f := fun k => soritesref06_Flat.l0 k [⟨f, l⟩] 0 f l) (fun k => by rw [soritesref06_Flat.f]) ?_
 by_cases hf : f < 0
 ·refine Ev.step (f := fun _ => some [⟨f, l⟩]) (fun k => by rw [soritesref06_Flat.l0, if_neg (by omega)]) ?_
  have : nodes ⟨f, l⟩ = [⟨f, l⟩] := by simp [nodes, hf]
  rw [this]; exact Ev.now _
 ·obtain ⟨hll, hsub⟩ := fit_sub hf hfit
  have hn : nodes ⟨f, l⟩ = ⟨f, l⟩ :: nodess l := by simp [nodes, hf]
  have hlen := hfit.1
  rw [hn, List.length_cons] at hlen
  have key : ∀ n i, l.length - i = n → i ≤ l.length → Ev (fun k => soritesref06_Flat.l0 k (⟨f, l⟩ :: nodess (l.take i)) (i : Int) f l) (nodes ⟨f, l⟩) := by
   intro n
   induction n with
   | zero =>
    intro i hi hle
    refine Ev.step (f := fun _ => some (⟨f, l⟩ :: nodess (l.take i))) (fun k => by rw [soritesref06_Flat.l0, if_pos (by omega), if_neg (by omega)]) ?_
    rw [List.take_of_length_le (by omega), hn]; exact Ev.now _
   | succ n ihn =>
    intro i hi hle
    have hlt : i < l.length := by omega
    have hmem := List.getElem_mem hlt
    have htk := nodess_take l i hlt
    have htl := nodess_take_le l (i + 1)
    rw [htk, List.length_append] at htl
    refine Ev.step (f := fun k => (soritesref06_Flat.f k l[i].f0 l[i].f1).bind fun t => if (⟨f, l⟩ :: nodess (l.take i)).length + t.length < 4398046511104 then soritesref06_Flat.l0 k ((⟨f, l⟩ :: nodess (l.take i)) ++ t) ((i + 1 : Nat) : Int) f l else none) (fun k => ?_) (Ev.bind (ih l[i] hmem (hsub _ hmem)) ?_)
    ·rw [soritesref06_Flat.l0, if_pos (by omega), if_pos (by omega), if_pos (by omega), rd24_at l i hlt, wsucc i l.length hlt (by omega)]
    ·simp only [List.length_cons]
     simp only [if_pos (show (nodess (l.take i)).length + 1 + (nodes l[i]).length < 4398046511104 by omega)]
     have := ihn (i + 1) (by omega) (by omega)
     rw [htk] at this
     simpa using this
  have := key l.length 0 rfl (by omega)
  simpa [nodess] using this
end
section
attribute [local go_sem] max2_int min2_int max_two min_two max_three min_three max_four min_four
def soritesref10_count.l0 : Nat → Int → List (S24) → Int → Int → Option (Int)
 | 0, _, _, _, _ => none
 | k + 1, x1, x5, x6, x7 => if x7 < (x5.length : Int) then (if 0 ≤ x7 then (if ((rd_T24 x5 x7).f0) = (wrap64 ((-1) - x1)) then (soritesref10_count.l0 k x1 x5 (wrap64 (x6 + 1)) (wrap64 (x7 + 1))) else (soritesref10_count.l0 k x1 x5 x6 (wrap64 (x7 + 1)))) else (none)) else (some x6)
def soritesref10_count.f (k : Nat) (a0_0 : Int) (l0_1 : List (S24)) (a1 : Int) : Option (Int) := (soritesref06_Flat.f k a0_0 l0_1).bind fun t308 => (soritesref10_count.l0 k a1 t308 0 0)
end
section
attribute [local go_sem] max2_int min2_int max_two min_two max_three min_three max_four min_four
def soritesref10_Covers.l0 : Nat → List Int → Int → Int → List (S24) → Int → List (S24) → Option (Bool)
 | 0, _, _, _, _, _, _ => none
 | k + 1, x5, x6, x313000, x313001, x314000, x314001 => if x6 < (x5.length : Int) then (if 0 ≤ x6 then ((soritesref10_count.f k x314000 x314001 (rd x5 x6)).bind fun t318 => ((soritesref10_count.f k x313000 x313001 (rd x5 x6)).bind fun t320 => (if t318 > t320 then (some false) else (soritesref10_Covers.l0 k x5 (wrap64 (x6 + 1)) x313000 x313001 x314000 x314001)))) else (none)) else (some true)
def soritesref10_Covers.f (k : Nat) (a0_0 : Int) (l0_1 : List (S24)) (a1_0 : Int) (l1_1 : List (S24)) : Option (Bool) := (soritesref06_Vars.f k a1_0 l1_1).bind fun t314 => (soritesref10_Covers.l0 k t314 0 a0_0 l0_1 a1_0 l1_1)
end
section
attribute [local go_sem] max2_int min2_int max_two min_two max_three min_three max_four min_four
mutual
def soritesref10_Greater.j0 : Nat → Bool → Int → List (S24) → Int → List (S24) → Option (Bool)
 | 0, _, _, _, _, _ => none
 | k + 1, x16, x322000, x322001, x323000, x323001 => if x16 = true then (some false) else ((soritesref06_Flat.f k x322000 x322001).bind fun t325 => ((soritesref06_Flat.f k x323000 x323001).bind fun t328 => (if (t325.length : Int) = (t328.length : Int) then (if x322000 < 0 then (soritesref10_Greater.j1 k (t325.length : Int) (t328.length : Int) true x322000 x322001 x323000 x323001) else (soritesref10_Greater.j1 k (t325.length : Int) (t328.length : Int) (decide (x323000 < 0)) x322000 x322001 x323000 x323001)) else (soritesref10_Greater.j1 k (t325.length : Int) (t328.length : Int) true x322000 x322001 x323000 x323001))))
def soritesref10_Greater.j1 : Nat → Int → Int → Bool → Int → List (S24) → Int → List (S24) → Option (Bool)
 | 0, _, _, _, _, _, _, _ => none
 | k + 1, x5, x6, x35, x322000, x322001, x323000, x323001 => if x35 = true then (some (decide (x5 > x6))) else (if x322000 = x323000 then (if (x322001.length : Int) = (x323001.length : Int) then (soritesref10_Greater.l0 k 0 x322000 x322001 x323000 x323001) else (some (decide ((x322001.length : Int) > (x323001.length : Int))))) else (some (decide (x322000 > x323000))))
def soritesref10_Greater.l0 : Nat → Int → Int → List (S24) → Int → List (S24) → Option (Bool)
 | 0, _, _, _, _, _ => none
 | k + 1, x7, x322000, x322001, x323000, x323001 => if 0 ≤ x7 then (if x7 < (x322001.length : Int) then (if x7 < (x323001.length : Int) then ((soritesref06_Same.f k ((rd_T24 x322001 x7).f0) ((rd_T24 x322001 x7).f1) ((rd_T24 x323001 x7).f0) ((rd_T24 x323001 x7).f1)).bind fun t333 => (if t333 = true then (soritesref10_Greater.l0 k (wrap64 (x7 + 1)) x322000 x322001 x323000 x323001) else ((soritesref10_Greater.f k ((rd_T24 x322001 x7).f0) ((rd_T24 x322001 x7).f1) ((rd_T24 x323001 x7).f0) ((rd_T24 x323001 x7).f1)).bind fun t336 => (some t336)))) else (none)) else (none)) else (none)
def soritesref10_Greater.f : Nat → Int → List (S24) → Int → List (S24) → Option (Bool)
 | 0, _, _, _, _ => none
 | k + 1, a0_0, l0_1, a1_0, l1_1 => (soritesref06_Same.f k a0_0 l0_1 a1_0 l1_1).bind fun t323 => (if t323 = true then (soritesref10_Greater.j0 k true a0_0 l0_1 a1_0 l1_1) else ((soritesref10_Covers.f k a0_0 l0_1 a1_0 l1_1).bind fun t324 => (soritesref10_Greater.j0 k (!t324) a0_0 l0_1 a1_0 l1_1)))
end
end
section
attribute [local go_sem] max2_int min2_int max_two min_two max_three min_three max_four min_four
mutual
def kbo_Greater.j0 : Nat → Bool → Int → List (S30) → Int → List (S30) → Option (Bool)
 | 0, _, _, _, _, _ => none
 | k + 1, x29, x267000, x267001, x268000, x268001 => if x29 = true then (some false) else ((cmp_Compare_int.f x267000 x268000).bind fun t272 => ((cmp_Compare_int.f (x267001.length : Int) (x268001.length : Int)).bind fun t273 => ((cmp_Or_int.f k (([t272, t273] : List Int))).bind fun t277 => (if t277 = 0 then (kbo_Greater.l0 k x267001 (x267001.length : Int) 0 x268000 x268001) else (some (decide (t277 > 0)))))))
def kbo_Greater.l0 : Nat → List (S30) → Int → Int → Int → List (S30) → Option (Bool)
 | 0, _, _, _, _, _ => none
 | k + 1, x49, x50, x51, x268000, x268001 => if x51 < x50 then (if 0 ≤ x51 then (if x51 < (x49.length : Int) then (if x51 < (x268001.length : Int) then ((term_Same.f ((rd_T30 x49 x51).f0) ((rd_T30 x49 x51).f1) ((rd_T30 x268001 x51).f0) ((rd_T30 x268001 x51).f1)).bind fun t281 => (if t281 = true then (kbo_Greater.l0 k x49 x50 (wrap64 (x51 + 1)) x268000 x268001) else ((kbo_Greater.f k ((rd_T30 x49 x51).f0) ((rd_T30 x49 x51).f1) ((rd_T30 x268001 x51).f0) ((rd_T30 x268001 x51).f1)).bind fun t283 => (some t283)))) else (none)) else (none)) else (none)) else (some false)
def kbo_Greater.f : Nat → Int → List (S30) → Int → List (S30) → Option (Bool)
 | 0, _, _, _, _ => none
 | k + 1, a0_0, l0_1, a1_0, l1_1 => (kbo_Covers.f a0_0 l0_1 a1_0 l1_1).bind fun t268 => (if t268 = true then ((term_Size.f a0_0 l0_1).bind fun t269 => ((term_Size.f a1_0 l1_1).bind fun t270 => ((cmp_Compare_int.f t269 t270).bind fun t271 => (if t271 = 0 then (if a0_0 < 0 then (kbo_Greater.j0 k true a0_0 l0_1 a1_0 l1_1) else (kbo_Greater.j0 k (decide (a1_0 < 0)) a0_0 l0_1 a1_0 l1_1)) else (some (decide (t271 > 0))))))) else (some false))
end
def kbo_Greater.T8 : Bool × List (List Nat × List Nat) := (true, [([], []), ([0], [0]), ([], []), ([2], [2]), ([1, 3], [1, 3]), ([], []), ([5], [5]), ([6], [6]), ([], []), ([8], [8]), ([9], [9]), ([7, 10, 4], [7, 10]), ([4, 11], [4, 11]), ([12, 11], [12]), ([13, 13, 0, 1, 2, 3, 4, 5, 6, 7, 8, 9, 10, 11, 12, 13], [13])])
def kbo_Greater.B8 : List Nat := [0, 1, 0, 4, 15, 0, 32, 96, 0, 256, 768, 2047, 4095, 8191, 16383]
theorem kbo_Greater.tab8 : rtab .any (opsOf Try.f41 8) = kbo_Greater.T8 := by kernel_rfl
theorem kbo_Greater.bits8 : waitsOk kbo_Greater.T8.2 kbo_Greater.B8 = true := by kernel_rfl
def kbo_Greater.T14 : Bool × List (List Nat × List Nat) := (true, [([], []), ([], []), ([1], [1]), ([], []), ([2, 3], [2, 3]), ([4], [4]), ([0, 5], [0, 5]), ([6], [6])])
def kbo_Greater.B14 : List Nat := [0, 0, 2, 0, 14, 30, 63, 127]
theorem kbo_Greater.tab14 : rtab .any (opsOf Try.f41 14) = kbo_Greater.T14 := by kernel_rfl
theorem kbo_Greater.bits14 : waitsOk kbo_Greater.T14.2 kbo_Greater.B14 = true := by kernel_rfl
def kbo_Greater.T15 : Bool × List (List Nat × List Nat) := (true, [([], []), ([], []), ([1], [1]), ([], []), ([2, 3], [2, 3]), ([4], [4]), ([0, 5], [0, 5]), ([6, 6, 0, 1, 2, 3, 4, 5, 6], [6])])
def kbo_Greater.B15 : List Nat := [0, 0, 2, 0, 14, 30, 63, 127]
theorem kbo_Greater.tab15 : rtab .any (opsOf Try.f41 15) = kbo_Greater.T15 := by kernel_rfl
theorem kbo_Greater.bits15 : waitsOk kbo_Greater.T15.2 kbo_Greater.B15 = true := by kernel_rfl
set_option maxHeartbeats 8000000 in
set_option maxRecDepth 100000 in
theorem kbo_Greater.calls (k : Nat) : ∀ (a0_0 : Int) (A0_1 : Option Addr) (c0_1 : Nat) (l0_1 : List (S30)) (a1_0 : Int) (A1_1 : Option Addr) (c1_1 : Nat) (l1_1 : List (S30)) (r : Bool) (w : World) (hr0_1 : Kd.C k30 w A0_1 l0_1.length l0_1) (hc0_1 : l0_1.length ≤ c0_1) (hr1_1 : Kd.C k30 w A1_1 l1_1.length l1_1) (hc1_1 : l1_1.length ≤ c1_1) (h : kbo_Greater.f k a0_0 l0_1 a1_0 l1_1 = some r),
  Calls Try.prog 41 #[.agg #[.int .i64 a0_0, .slice A0_1 l0_1.length c0_1], .agg #[.int .i64 a1_0, .slice A1_1 l1_1.length c1_1]] w fun e w' => e = .returned (.bool r) ∧ Below w.heap.size w w' := by
 induction k using Nat.strongRecOn with
 | _ k ih =>
 intro a0_0 A0_1 c0_1 l0_1 a1_0 A1_1 c1_1 l1_1 r w hr0_1 hc0_1 hr1_1 hc1_1 h
 cases k with
 | zero => exact absurd h (by simp [kbo_Greater.f])
 | succ k =>
 simp only [kbo_Greater.f] at h
 have hu30 := Try.underlying30
 have HR0_1 := Az_.mk hr0_1
 have HC0_1 := Az_.mk hc0_1
 clear hr0_1 hc0_1
 have HR1_1 := Az_.mk hr1_1
 have HC1_1 := Az_.mk hc1_1
 clear hr1_1 hc1_1
 have HB := Az_.mk (Below.refl w.heap.size w)
 have H : ((kbo_Covers.f a0_0 l0_1 a1_0 l1_1).bind fun t268 => (if t268 = true then ((term_Size.f a0_0 l0_1).bind fun t269 => ((term_Size.f a1_0 l1_1).bind fun t270 => ((cmp_Compare_int.f t269 t270).bind fun t271 => (if t271 = 0 then (if a0_0 < 0 then (kbo_Greater.j0 k true a0_0 l0_1 a1_0 l1_1) else (kbo_Greater.j0 k (decide (a1_0 < 0)) a0_0 l0_1 a1_0 l1_1)) else (some (decide (t271 > 0))))))) else (some false))) = some r := h
 clear h
 replace H := Option.bind_eq_some_iff.mp H
 obtain ⟨t268, A30, H⟩ := H
 replace H : (if t268 = true then ((term_Size.f a0_0 l0_1).bind fun t269 => ((term_Size.f a1_0 l1_1).bind fun t270 => ((cmp_Compare_int.f t269 t270).bind fun t271 => (if t271 = 0 then (if a0_0 < 0 then (kbo_Greater.j0 k true a0_0 l0_1 a1_0 l1_1) else (kbo_Greater.j0 k (decide (a1_0 < 0)) a0_0 l0_1 a1_0 l1_1)) else (some (decide (t271 > 0))))))) else (some false)) = some r := H
 have A3 := Az_.mk A30
 clear A30
 by_cases c4 : t268 = true
 ·subst c4
  have H1 : ((term_Size.f a0_0 l0_1).bind fun t269 => ((term_Size.f a1_0 l1_1).bind fun t270 => ((cmp_Compare_int.f t269 t270).bind fun t271 => (if t271 = 0 then (if a0_0 < 0 then (kbo_Greater.j0 k true a0_0 l0_1 a1_0 l1_1) else (kbo_Greater.j0 k (decide (a1_0 < 0)) a0_0 l0_1 a1_0 l1_1)) else (some (decide (t271 > 0))))))) = some r := by rw [if_pos rfl] at H; exact H
  clear H
  have H := H1
  clear H1
  replace H := Option.bind_eq_some_iff.mp H
  obtain ⟨t269, A50, H⟩ := H
  replace H : ((term_Size.f a1_0 l1_1).bind fun t270 => ((cmp_Compare_int.f t269 t270).bind fun t271 => (if t271 = 0 then (if a0_0 < 0 then (kbo_Greater.j0 k true a0_0 l0_1 a1_0 l1_1) else (kbo_Greater.j0 k (decide (a1_0 < 0)) a0_0 l0_1 a1_0 l1_1)) else (some (decide (t271 > 0)))))) = some r := H
  have A5 := Az_.mk A50
  clear A50
  replace H := Option.bind_eq_some_iff.mp H
  obtain ⟨t270, A60, H⟩ := H
  replace H : ((cmp_Compare_int.f t269 t270).bind fun t271 => (if t271 = 0 then (if a0_0 < 0 then (kbo_Greater.j0 k true a0_0 l0_1 a1_0 l1_1) else (kbo_Greater.j0 k (decide (a1_0 < 0)) a0_0 l0_1 a1_0 l1_1)) else (some (decide (t271 > 0))))) = some r := H
  have A6 := Az_.mk A60
  clear A60
  replace H := Option.bind_eq_some_iff.mp H
  obtain ⟨t271, A70, H⟩ := H
  replace H : (if t271 = 0 then (if a0_0 < 0 then (kbo_Greater.j0 k true a0_0 l0_1 a1_0 l1_1) else (kbo_Greater.j0 k (decide (a1_0 < 0)) a0_0 l0_1 a1_0 l1_1)) else (some (decide (t271 > 0)))) = some r := H
  have A7 := Az_.mk A70
  clear A70
  by_cases c8 : t271 = 0
  ·rw [if_pos c8] at H
   have c8b0 : (t271 == 0) = true := beq_iff_eq.mpr c8
   have c8b1 : (t271 != 0) = false := bne_eq_false_iff_eq.mpr c8
   clear c8
   have HC9 := Az_.mk H
   clear H
   go_enter Try.func41, Try.ntmps41
   try go_wp2_with (first | ((with_reducible refine yak_ (N := 2) rfl ?_); refine yaj_ ?hg (N := 2) ?hd (cs := #[.int .i64 a0_0, .slice A0_1 l0_1.length c0_1]) (t := 30) ?hr ?_; (case hd => rfl); (case hg => rfl); (case hr => first | (go_simp; done) | (go_simp; rfl)); intro gb266 hg w10 hbox hb; have n0_ := Az_.mk (bT_ (by repeat (first | (with_reducible first | exact HB.out | apply bA_ | apply bN_ | apply bD_) | exact HB.out)) hb); have n1_ := Az_.mk (hbox); have n2_ := Az_.mk ((by rw [hg]; exact (bZ_ (by repeat (first | (with_reducible first | exact HB.out | apply bA_ | apply bN_ | apply bD_) | exact HB.out))) : w.heap.size ≤ gb266)); have n3_ := Az_.mk ((by rw [hg]; exact (bZ_ (by repeat (first | (with_reducible first | exact HB.out | apply bA_ | apply bN_ | apply bD_) | exact HB.out))) : w.heap.size ≤ gb266)); clear HB; have HB := n0_; have BK266 := n1_; have GW266 := n2_; have GE266 := n3_; clear n0_ n1_ n2_ n3_; clear hb hbox hg) | ((with_reducible refine yak_ (N := 3) rfl ?_); refine yaj_ ?hg (N := 3) ?hd (cs := #[.int .i64 a1_0, .slice A1_1 l1_1.length c1_1]) (t := 30) ?hr ?_; (case hd => rfl); (case hg => rfl); (case hr => first | (go_simp; done) | (go_simp; rfl)); intro gb267 hg w11 hbox hb; have n0_ := Az_.mk (kB_ (g := gb266) (o := .cells #[.int .i64 a0_0, .slice A0_1 l0_1.length c0_1] 30 (0, 0)) (by (with_reducible repeat (first | refine kN_ ?_ _ | refine kD_ ?_ | refine kA_ ?_ _)); exact BK266.out) hb); have n1_ := Az_.mk (bT_ (by repeat (first | (with_reducible first | exact HB.out | apply bA_ | apply bN_ | apply bD_ | refine bS_ ?_ GE266.out) | exact HB.out)) hb); have n2_ := Az_.mk (hbox); have n3_ := Az_.mk ((by rw [hg]; exact (bZ_ (by repeat (first | (with_reducible first | exact HB.out | apply bA_ | apply bN_ | apply bD_ | refine bS_ ?_ GE266.out) | exact HB.out))) : w.heap.size ≤ gb267)); have n4_ := Az_.mk ((by rw [hg]; exact (bZ_ (by repeat (first | (with_reducible first | exact HB.out | apply bA_ | apply bN_ | apply bD_ | refine bS_ ?_ GE266.out) | exact HB.out))) : w.heap.size ≤ gb267)); have n5_ := Az_.mk ((by rw [hg]; exact Nat.ne_of_lt (blk_lt (g := gb266) (o := .cells #[.int .i64 a0_0, .slice A0_1 l0_1.length c0_1] 30 (0, 0)) (by (with_reducible repeat (first | refine kN_ ?_ _ | refine kD_ ?_ | refine kA_ ?_ _)); exact BK266.out)) : gb266 ≠ gb267)); have n6_ := Az_.mk ((by rw [hg]; exact Nat.ne_of_gt (blk_lt (g := gb266) (o := .cells #[.int .i64 a0_0, .slice A0_1 l0_1.length c0_1] 30 (0, 0)) (by (with_reducible repeat (first | refine kN_ ?_ _ | refine kD_ ?_ | refine kA_ ?_ _)); exact BK266.out)) : gb267 ≠ gb266)); clear BK266; clear HB; have BK266 := n0_; have HB := n1_; have BK267 := n2_; have GW267 := n3_; have GE267 := n4_; have NB266_267 := n5_; have NB267_266 := n6_; clear n0_ n1_ n2_ n3_ n4_ n5_ n6_; clear hb hbox hg; have hnb12 := NB266_267.out; have hnc12 := NB267_266.out; have hcz13_0 : w11.cell? ⟨gb266, 0, none⟩ = some (.int .i64 a0_0) := (yaa_ BK266.out 0).trans rfl; have hcz13_1 : w11.cell? ⟨gb266, 1, none⟩ = some (.slice A0_1 l0_1.length c0_1) := (yaa_ BK266.out 1).trans rfl; have hfz13_0 := yab_ BK266.out 0; have hfz13_1 := yab_ BK266.out 1; have hcz14_0 : w11.cell? ⟨gb267, 0, none⟩ = some (.int .i64 a1_0) := (yaa_ BK267.out 0).trans rfl; have hcz14_1 : w11.cell? ⟨gb267, 1, none⟩ = some (.slice A1_1 l1_1.length c1_1) := (yaa_ BK267.out 1).trans rfl; have hfz14_0 := yab_ BK267.out 0; have hfz14_1 := yab_ BK267.out 1) | ((with_reducible refine yah_ (f := 45) rfl ?_); refine goesL_ (some 11) rfl rfl Try.func45 (by kernel_rfl) rfl #[.agg #[.int .i64 a0_0, .slice A0_1 l0_1.length c0_1], .agg #[.int .i64 a1_0, .slice A1_1 l1_1.length c1_1]] rfl (by (try simp only [List.map_toArray, List.map_cons, List.map_nil]); first | done | rfl | (simp only [List.length_drop, List.length_take]; rfl)) ?_; (with_reducible refine (kbo_Covers.calls a0_0 _ _ l0_1 a1_0 _ _ l1_1 true _ ?side1 ?side2 ?side3 ?side4 A3.out).mono ?_); (case side1 => repeat (first | exact (Kd.C_below HR0_1.out HB.out) | (with_reducible refine Kd.C_alloc ?_ _) | (with_reducible refine Kd.C_drewN ?_ _) | (with_reducible refine Kd.C_drew ?_))); (case side2 => exact HC0_1.out); (case side3 => repeat (first | exact (Kd.C_below HR1_1.out HB.out) | (with_reducible refine Kd.C_alloc ?_ _) | (with_reducible refine Kd.C_drewN ?_ _) | (with_reducible refine Kd.C_drew ?_))); (case side4 => exact HC1_1.out); rintro e w15 ⟨rfl, hb⟩; refine ⟨_, rfl, ?_⟩; have n0_ := Az_.mk (kB_ (g := gb266) (o := .cells #[.int .i64 a0_0, .slice A0_1 l0_1.length c0_1] 30 (0, 0)) (by (with_reducible repeat (first | refine kN_ ?_ _ | refine kD_ ?_ | refine kA_ ?_ _)); exact BK266.out) hb); have n1_ := Az_.mk (kB_ (g := gb267) (o := .cells #[.int .i64 a1_0, .slice A1_1 l1_1.length c1_1] 30 (0, 0)) (by (with_reducible repeat (first | refine kN_ ?_ _ | refine kD_ ?_ | refine kA_ ?_ _)); exact BK267.out) hb); have n2_ := Az_.mk (bT_ (by repeat (first | (with_reducible first | exact HB.out | apply bA_ | apply bN_ | apply bD_ | refine bS_ ?_ GE266.out | refine bS_ ?_ GE267.out) | exact HB.out)) hb); clear BK266; clear BK267; clear HB; have BK266 := n0_; have BK267 := n1_; have HB := n2_; clear n0_ n1_ n2_; (try clear hb); (try clear hb2); (try clear hk); (try clear hi)))
   have n0_ := Az_.mk (kD_ BK266.out)
   have n1_ := Az_.mk (kD_ BK267.out)
   have n2_ := Az_.mk (bD_ HB.out)
   clear BK266
   clear BK267
   clear HB
   have BK266 := n0_
   have BK267 := n1_
   have HB := n2_
   clear n0_ n1_ n2_
   refine start_ (n := 6) (S := fun w' => w'.cell? ⟨gb266, 0, none⟩ = some (.int .i64 a0_0) ∧ w'.cell? ⟨gb266, 1, none⟩ = some (.slice A0_1 l0_1.length c0_1) ∧ w'.cell? ⟨gb267, 0, none⟩ = some (.int .i64 a1_0) ∧ w'.cell? ⟨gb267, 1, none⟩ = some (.slice A1_1 l1_1.length c1_1)) (ds := []) #[false, false, false, false, false, false] (by kernel_rfl) rfl rfl ⟨(yaa_ BK266.out 0).trans rfl, (yaa_ BK266.out 1).trans rfl, (yaa_ BK267.out 0).trans rfl, (yaa_ BK267.out 1).trans rfl⟩ (fun hHeld => ?_)
   generalize w15.drew = w16 at BK266 BK267 HB hHeld ⊢
   refine take_ (i := 0) (N := some 13) (v := ?_) (a' := ?_) #[true, false, false, false, false, false] rfl rfl (by kernel_rfl) (fun _ _ _ h => h) (Or.inl ⟨by rfl, ?_⟩) hHeld ?_ ?_
   rotate_left
   ·rintro w' ⟨s0, s1, s2, s3⟩
    go_simp
    with_reducible rfl
   rotate_left
   ·simp only [Act.put, sA_, sZ_, sS_, i64_w, i32_w]
    rfl
   refine take_ (i := 2) (N := some 15) (v := ?_) (a' := ?_) #[true, false, true, false, false, false] rfl rfl (by kernel_rfl) (fun _ _ _ h => h) (Or.inl ⟨by rfl, ?_⟩) hHeld ?_ ?_
   rotate_left
   ·rintro w' ⟨s0, s1, s2, s3⟩
    go_simp
    with_reducible rfl
   rotate_left
   ·simp only [Act.put, sA_, sZ_, sS_, i64_w, i32_w]
    rfl
   refine one_ (i := 1) (N := some 14) #[true, true, true, false, false, false] rfl rfl (by kernel_rfl) (by decide) (fun K hK => ?_)
   refine goes_ Try.func34 (by kernel_rfl) rfl #[.agg #[.int .i64 a0_0, .slice A0_1 l0_1.length c0_1]] (by rfl) rfl rfl (by (try simp only [List.map_toArray, List.map_cons, List.map_nil]); first | done | rfl | (simp only [List.length_drop, List.length_take]; rfl)) ?_
   with_reducible refine (term_Size.calls a0_0 _ _ l0_1 t269 _ ?side1 ?side2 A5.out).mono ?_
   (case side1 => repeat (first | exact (Kd.C_below HR0_1.out HB.out) | (with_reducible refine Kd.C_alloc ?_ _) | (with_reducible refine Kd.C_drewN ?_ _) | (with_reducible refine Kd.C_drew ?_)))
   (case side2 => exact HC0_1.out)
   rintro e w17 ⟨rfl, hb⟩
   refine ⟨_, rfl, ?_⟩
   have n0_ := Az_.mk (kB_ (g := gb266) (o := .cells #[.int .i64 a0_0, .slice A0_1 l0_1.length c0_1] 30 (0, 0)) (by (with_reducible repeat (first | refine kN_ ?_ _ | refine kD_ ?_ | refine kA_ ?_ _)); exact BK266.out) hb)
   have n1_ := Az_.mk (kB_ (g := gb267) (o := .cells #[.int .i64 a1_0, .slice A1_1 l1_1.length c1_1] 30 (0, 0)) (by (with_reducible repeat (first | refine kN_ ?_ _ | refine kD_ ?_ | refine kA_ ?_ _)); exact BK267.out) hb)
   have n2_ := Az_.mk (bT_ (by repeat (first | (with_reducible first | exact HB.out | apply bA_ | apply bN_ | apply bD_ | refine bS_ ?_ GE266.out | refine bS_ ?_ GE267.out) | exact HB.out)) hb)
   clear BK266
   clear BK267
   clear HB
   have BK266 := n0_
   have BK267 := n1_
   have HB := n2_
   clear n0_ n1_ n2_
   (try clear hb)
   (try clear hb2)
   (try clear hk)
   (try clear hi)
   refine hK.out _ _ ⟨(yaa_ BK266.out 0).trans rfl, (yaa_ BK266.out 1).trans rfl, (yaa_ BK267.out 0).trans rfl, (yaa_ BK267.out 1).trans rfl⟩ (fun hHeld => ?_)
   clear hK K
   refine norm_ (a' := ?_) ?_ ?_
   rotate_left
   ·show Act.put _ (some 14) _ = _
    simp only [Act.put, sA_, sZ_, sS_, i64_w, i32_w]
    rfl
   refine one_ (i := 3) (N := some 16) #[true, true, true, true, false, false] rfl rfl (by kernel_rfl) (by decide) (fun K hK => ?_)
   refine goes_ Try.func34 (by kernel_rfl) rfl #[.agg #[.int .i64 a1_0, .slice A1_1 l1_1.length c1_1]] (by rfl) rfl rfl (by (try simp only [List.map_toArray, List.map_cons, List.map_nil]); first | done | rfl | (simp only [List.length_drop, List.length_take]; rfl)) ?_
   with_reducible refine (term_Size.calls a1_0 _ _ l1_1 t270 _ ?side1 ?side2 A6.out).mono ?_
   (case side1 => repeat (first | exact (Kd.C_below HR1_1.out HB.out) | (with_reducible refine Kd.C_alloc ?_ _) | (with_reducible refine Kd.C_drewN ?_ _) | (with_reducible refine Kd.C_drew ?_)))
   (case side2 => exact HC1_1.out)
   rintro e w18 ⟨rfl, hb⟩
   refine ⟨_, rfl, ?_⟩
   have n0_ := Az_.mk (kB_ (g := gb266) (o := .cells #[.int .i64 a0_0, .slice A0_1 l0_1.length c0_1] 30 (0, 0)) (by (with_reducible repeat (first | refine kN_ ?_ _ | refine kD_ ?_ | refine kA_ ?_ _)); exact BK266.out) hb)
   have n1_ := Az_.mk (kB_ (g := gb267) (o := .cells #[.int .i64 a1_0, .slice A1_1 l1_1.length c1_1] 30 (0, 0)) (by (with_reducible repeat (first | refine kN_ ?_ _ | refine kD_ ?_ | refine kA_ ?_ _)); exact BK267.out) hb)
   have n2_ := Az_.mk (bT_ (by repeat (first | (with_reducible first | exact HB.out | apply bA_ | apply bN_ | apply bD_ | refine bS_ ?_ GE266.out | refine bS_ ?_ GE267.out) | exact HB.out)) hb)
   clear BK266
   clear BK267
   clear HB
   have BK266 := n0_
   have BK267 := n1_
   have HB := n2_
   clear n0_ n1_ n2_
   (try clear hb)
   (try clear hb2)
   (try clear hk)
   (try clear hi)
   refine hK.out _ _ ⟨(yaa_ BK266.out 0).trans rfl, (yaa_ BK266.out 1).trans rfl, (yaa_ BK267.out 0).trans rfl, (yaa_ BK267.out 1).trans rfl⟩ (fun hHeld => ?_)
   clear hK K
   refine norm_ (a' := ?_) ?_ ?_
   rotate_left
   ·show Act.put _ (some 16) _ = _
    simp only [Act.put, sA_, sZ_, sS_, i64_w, i32_w]
    rfl
   refine one_ (i := 4) (N := some 17) #[true, true, true, true, true, false] rfl rfl (by kernel_rfl) (by decide) (fun K hK => ?_)
   refine goes_ Try.func76 (by kernel_rfl) rfl #[.int .i64 t269, .int .i64 t270] (by rfl) rfl rfl (by (try simp only [List.map_toArray, List.map_cons, List.map_nil]); first | done | rfl | (simp only [List.length_drop, List.length_take]; rfl)) ?_
   with_reducible refine (cmp_Compare_int.calls t269 t270 t271 _ A7.out).mono ?_
   rintro e w' ⟨rfl, ⟨nd, rfl⟩⟩
   refine ⟨_, rfl, ?_⟩
   refine hK.out _ _ ⟨(yaa_ BK266.out 0).trans rfl, (yaa_ BK266.out 1).trans rfl, (yaa_ BK267.out 0).trans rfl, (yaa_ BK267.out 1).trans rfl⟩ (fun hHeld => ?_)
   clear hK K
   refine norm_ (a' := ?_) ?_ ?_
   rotate_left
   ·show Act.put _ (some 17) _ = _
    simp only [Act.put, sA_, sZ_, sS_, i64_w, i32_w]
    rfl
   refine pure_ (i := 5) (N := some 5) (v := ?_) (a' := ?_) #[true, true, true, true, true, true] rfl rfl (by kernel_rfl) (fun _ _ _ h => h) (Or.inl ⟨by rfl, ?_⟩) ?_ ?_
   rotate_left
   ·intro w'
    go_simp
    with_reducible rfl
   rotate_left
   ·simp only [Act.put, sA_, sZ_, sS_, i64_w, i32_w]
    rfl
   refine done_ (by kernel_rfl) ?_
   go_upto_region 6 with (fail)
   go_cut [29] (fun v29 wc => ∃ (kq : Nat) (x29_8 : Bool), v29 = .bool x29_8 ∧ Az_ (kbo_Greater.j0 kq x29_8 a0_0 l0_1 a1_0 l1_1 = some r) ∧ Az_ (kq ≤ k) ∧ Az_ (wc.heap[gb266]? = some (.cells #[.int .i64 a0_0, (.slice A0_1 l0_1.length c0_1)] 30 (0, 0))) ∧ Az_ (wc.heap[gb267]? = some (.cells #[.int .i64 a1_0, (.slice A1_1 l1_1.length c1_1)] 30 (0, 0))) ∧ Az_ (Below w.heap.size w wc))
   case first =>
    have H := HC9.out
    clear HC9
    by_cases c19 : a0_0 < 0
    ·rw [if_pos c19] at H
     have c19b0 : decide (a0_0 < 0) = true := decide_eq_true c19
     clear c19
     (first | rw [c19b0] | (simp only [i64_w, i32_w]; rw [c19b0]) | skip)
     have H' := Az_.mk H
     clear H
     have hnb20 := NB266_267.out
     have hnc20 := NB267_266.out
     have hcz21_0 : w18.cell? ⟨gb266, 0, none⟩ = some (.int .i64 a0_0) := (yaa_ BK266.out 0).trans rfl
     have hcz21_1 : w18.cell? ⟨gb266, 1, none⟩ = some (.slice A0_1 l0_1.length c0_1) := (yaa_ BK266.out 1).trans rfl
     have hfz21_0 := yab_ BK266.out 0
     have hfz21_1 := yab_ BK266.out 1
     go_wp2
     go_meet
     case rel => exact ⟨_, (true), (by first | rfl | (simp; done) | (simp [*]; done)), H', ⟨by first | omega | exact Nat.le_refl _⟩, ⟨by (with_reducible repeat (first | refine kN_ ?_ _ | refine kD_ ?_ | refine kA_ ?_ _)); exact BK266.out⟩, ⟨by (with_reducible repeat (first | refine kN_ ?_ _ | refine kD_ ?_ | refine kA_ ?_ _)); exact BK267.out⟩, ⟨by repeat (first | (with_reducible first | exact HB.out | apply bA_ | apply bN_ | apply bD_ | refine bS_ ?_ GE266.out | refine bS_ ?_ GE267.out) | exact HB.out)⟩⟩
    ·rw [if_neg c19] at H
     have c19b0 : decide (a0_0 < 0) = false := decide_eq_false c19
     clear c19
     (first | rw [c19b0] | (simp only [i64_w, i32_w]; rw [c19b0]) | skip)
     have H' := Az_.mk H
     clear H
     have hnb22 := NB266_267.out
     have hnc22 := NB267_266.out
     have hcz23_0 : w18.cell? ⟨gb266, 0, none⟩ = some (.int .i64 a0_0) := (yaa_ BK266.out 0).trans rfl
     have hcz23_1 : w18.cell? ⟨gb266, 1, none⟩ = some (.slice A0_1 l0_1.length c0_1) := (yaa_ BK266.out 1).trans rfl
     have hfz23_0 := yab_ BK266.out 0
     have hfz23_1 := yab_ BK266.out 1
     have hcz24_0 : w18.cell? ⟨gb267, 0, none⟩ = some (.int .i64 a1_0) := (yaa_ BK267.out 0).trans rfl
     have hcz24_1 : w18.cell? ⟨gb267, 1, none⟩ = some (.slice A1_1 l1_1.length c1_1) := (yaa_ BK267.out 1).trans rfl
     have hfz24_0 := yab_ BK267.out 0
     have hfz24_1 := yab_ BK267.out 1
     go_wp2
     go_meet
     case rel => exact ⟨_, (decide (a1_0 < 0)), (by first | rfl | (simp; done) | (simp [*]; done)), H', ⟨by first | omega | exact Nat.le_refl _⟩, ⟨by (with_reducible repeat (first | refine kN_ ?_ _ | refine kD_ ?_ | refine kA_ ?_ _)); exact BK266.out⟩, ⟨by (with_reducible repeat (first | refine kN_ ?_ _ | refine kD_ ?_ | refine kA_ ?_ _)); exact BK267.out⟩, ⟨by repeat (first | (with_reducible first | exact HB.out | apply bA_ | apply bN_ | apply bD_ | refine bS_ ?_ GE266.out | refine bS_ ?_ GE267.out) | exact HB.out)⟩⟩
   case rest =>
    clear HC9
    try clear c1
    try clear c2
    try clear p2
    try clear c3
    try clear c4
    try clear c7
    try clear c8
    try clear c8b0
    try clear c8b1
    try clear c12
    try clear c19
    try clear c19b0
    try clear c20
    try clear c22
    try clear hcz13_0
    try clear hcz13_1
    try clear hcz14_0
    try clear hcz14_1
    try clear hcz21_0
    try clear hcz21_1
    try clear hcz23_0
    try clear hcz23_1
    try clear hcz24_0
    try clear hcz24_1
    try clear hfz13_0
    try clear hfz13_1
    try clear hfz14_0
    try clear hfz14_1
    try clear hfz21_0
    try clear hfz21_1
    try clear hfz23_0
    try clear hfz23_1
    try clear hfz24_0
    try clear hfz24_1
    obtain ⟨kq, x29_8, rfl, HA, HJ8, BK266, BK267, HB⟩ := hcut
    cases kq with
    | zero => exact absurd HA.out (by simp [kbo_Greater.j0])
    | succ kj8 =>
     have H := HA.out
     clear HA
     simp only [kbo_Greater.j0] at H
     by_cases c25 : x29_8 = true
     ·subst c25
      have H1 : (some false) = some r := by rw [if_pos rfl] at H; exact H
      clear H
      have H := H1
      clear H1
      obtain rfl := Option.some.inj H
      go_wp2
      go_ret
      exact ⟨by first | rfl | (simp [yag_, yaf_] <;> rfl) | (simp [*, yag_, yaf_] <;> rfl), by repeat (first | (with_reducible first | exact HB.out | apply bA_ | apply bN_ | apply bD_ | refine bS_ ?_ GE266.out | refine bS_ ?_ GE267.out) | exact HB.out)⟩
     ·replace c25 := Bool.eq_false_iff.mpr c25
      subst c25
      have H1 : ((cmp_Compare_int.f a0_0 a1_0).bind fun t272 => ((cmp_Compare_int.f (l0_1.length : Int) (l1_1.length : Int)).bind fun t273 => ((cmp_Or_int.f kj8 (([t272, t273] : List Int))).bind fun t277 => (if t277 = 0 then (kbo_Greater.l0 kj8 l0_1 (l0_1.length : Int) 0 a1_0 l1_1) else (some (decide (t277 > 0))))))) = some r := by rw [if_neg (show ¬ (false = true) by decide)] at H; exact H
      clear H
      have H := H1
      clear H1
      replace H := Option.bind_eq_some_iff.mp H
      obtain ⟨t272, A260, H⟩ := H
      replace H : ((cmp_Compare_int.f (l0_1.length : Int) (l1_1.length : Int)).bind fun t273 => ((cmp_Or_int.f kj8 (([t272, t273] : List Int))).bind fun t277 => (if t277 = 0 then (kbo_Greater.l0 kj8 l0_1 (l0_1.length : Int) 0 a1_0 l1_1) else (some (decide (t277 > 0)))))) = some r := H
      have A26 := Az_.mk A260
      clear A260
      replace H := Option.bind_eq_some_iff.mp H
      obtain ⟨t273, A270, H⟩ := H
      replace H : ((cmp_Or_int.f kj8 (([t272, t273] : List Int))).bind fun t277 => (if t277 = 0 then (kbo_Greater.l0 kj8 l0_1 (l0_1.length : Int) 0 a1_0 l1_1) else (some (decide (t277 > 0))))) = some r := H
      have A27 := Az_.mk A270
      clear A270
      obtain ⟨y274, hy274⟩ : ∃ y_ : List Int, y_ = (([t272, t273] : List Int)) := ⟨_, rfl⟩
      replace H : ((cmp_Or_int.f kj8 y274).bind fun t277 => (if t277 = 0 then (kbo_Greater.l0 kj8 l0_1 (l0_1.length : Int) 0 a1_0 l1_1) else (some (decide (t277 > 0))))) = some r := by first | (rw [hy274]; with_reducible exact H) | (have H2_ := (Option.bind_some _ _).symm.trans H; rw [hy274]; with_reducible exact H2_) | (have H2_ := (Option.bind_some _ _).symm.trans H; with_reducible exact H2_) | with_reducible exact H | (rw [hy274]; exact H) | exact H
      have Ny274 := Az_.mk hy274
      clear hy274
      replace H := Option.bind_eq_some_iff.mp H
      obtain ⟨t277, A280, H⟩ := H
      replace H : (if t277 = 0 then (kbo_Greater.l0 kj8 l0_1 (l0_1.length : Int) 0 a1_0 l1_1) else (some (decide (t277 > 0)))) = some r := H
      have A28 := Az_.mk A280
      clear A280
      by_cases c29 : t277 = 0
      ·rw [if_pos c29] at H
       have c29b0 : (t277 == 0) = true := beq_iff_eq.mpr c29
       have c29b1 : (t277 != 0) = false := bne_eq_false_iff_eq.mpr c29
       clear c29
       have H' := Az_.mk H
       clear H
       try go_wp2
       have n0_ := Az_.mk (kD_ BK266.out)
       have n1_ := Az_.mk (kD_ BK267.out)
       have n2_ := Az_.mk (bD_ HB.out)
       clear BK266
       clear BK267
       clear HB
       have BK266 := n0_
       have BK267 := n1_
       have HB := n2_
       clear n0_ n1_ n2_
       refine start_ (n := 15) (S := fun w' => w'.cell? ⟨gb266, 0, none⟩ = some (.int .i64 a0_0) ∧ w'.cell? ⟨gb266, 1, none⟩ = some (.slice A0_1 l0_1.length c0_1) ∧ w'.cell? ⟨gb267, 0, none⟩ = some (.int .i64 a1_0) ∧ w'.cell? ⟨gb267, 1, none⟩ = some (.slice A1_1 l1_1.length c1_1)) (ds := []) #[false, false, false, false, false, false, false, false, false, false, false, false, false, false, false] (by kernel_rfl) rfl rfl ⟨(yaa_ BK266.out 0).trans rfl, (yaa_ BK266.out 1).trans rfl, (yaa_ BK267.out 0).trans rfl, (yaa_ BK267.out 1).trans rfl⟩ (fun hHeld => ?_); refine with_tabW kbo_Greater.tab8 kbo_Greater.bits8 (fun HT_ HW_ => ?_)
       generalize wc.drew = w30 at BK266 BK267 HB hHeld ⊢
       refine pure_ (i := 0) (N := some 30) (v := ?_) (a' := ?_) #[true, false, false, false, false, false, false, false, false, false, false, false, false, false, false] rfl rfl (any_of HT_.out (by kernel_rfl)) (fun _ _ _ h => h) (Or.inl ⟨by rfl, ?_⟩) ?_ ?_
       rotate_left
       ·intro w'
        go_simp
        with_reducible rfl
       rotate_left
       ·simp only [Act.put, sA_, sZ_, sS_, i64_w, i32_w]
        rfl
       refine pure_ (i := 2) (N := some 32) (v := ?_) (a' := ?_) #[true, false, true, false, false, false, false, false, false, false, false, false, false, false, false] rfl rfl (any_of HT_.out (by kernel_rfl)) (fun _ _ _ h => h) (Or.inl ⟨by rfl, ?_⟩) ?_ ?_
       rotate_left
       ·intro w'
        go_simp
        with_reducible rfl
       rotate_left
       ·simp only [Act.put, sA_, sZ_, sS_, i64_w, i32_w]
        rfl
       refine pure_ (i := 5) (N := some 35) (v := ?_) (a' := ?_) #[true, false, true, false, false, true, false, false, false, false, false, false, false, false, false] rfl rfl (any_of HT_.out (by kernel_rfl)) (fun _ _ _ h => h) (Or.inl ⟨by rfl, ?_⟩) ?_ ?_
       rotate_left
       ·intro w'
        go_simp
        with_reducible rfl
       rotate_left
       ·simp only [Act.put, sA_, sZ_, sS_, i64_w, i32_w]
        rfl
       refine pure_ (i := 8) (N := some 38) (v := ?_) (a' := ?_) #[true, false, true, false, false, true, false, false, true, false, false, false, false, false, false] rfl rfl (any_of HT_.out (by kernel_rfl)) (fun _ _ _ h => h) (Or.inl ⟨by rfl, ?_⟩) ?_ ?_
       rotate_left
       ·intro w'
        go_simp
        with_reducible rfl
       rotate_left
       ·simp only [Act.put, sA_, sZ_, sS_, i64_w, i32_w]
        rfl
       refine take_ (i := 1) (N := some 31) (v := ?_) (a' := ?_) #[true, true, true, false, false, true, false, false, true, false, false, false, false, false, false] rfl rfl (take_ofW HT_.out HW_.out (by kernel_rfl)) (fun _ _ _ h => h) (Or.inl ⟨by rfl, ?_⟩) hHeld ?_ ?_
       rotate_left
       ·rintro w' ⟨s0, s1, s2, s3⟩
        go_simp
        with_reducible rfl
       rotate_left
       ·simp only [Act.put, sA_, sZ_, sS_, i64_w, i32_w]
        rfl
       refine take_ (i := 3) (N := some 33) (v := ?_) (a' := ?_) #[true, true, true, true, false, true, false, false, true, false, false, false, false, false, false] rfl rfl (take_ofW HT_.out HW_.out (by kernel_rfl)) (fun _ _ _ h => h) (Or.inl ⟨by rfl, ?_⟩) hHeld ?_ ?_
       rotate_left
       ·rintro w' ⟨s0, s1, s2, s3⟩
        go_simp
        with_reducible rfl
       rotate_left
       ·simp only [Act.put, sA_, sZ_, sS_, i64_w, i32_w]
        rfl
       refine take_ (i := 6) (N := some 36) (v := ?_) (a' := ?_) #[true, true, true, true, false, true, true, false, true, false, false, false, false, false, false] rfl rfl (take_ofW HT_.out HW_.out (by kernel_rfl)) (fun _ _ _ h => h) (Or.inl ⟨by rfl, ?_⟩) hHeld ?_ ?_
       rotate_left
       ·rintro w' ⟨s0, s1, s2, s3⟩
        go_simp
        with_reducible rfl
       rotate_left
       ·simp only [Act.put, sA_, sZ_, sS_, i64_w, i32_w]
        rfl
       refine pure_ (i := 7) (N := some 37) (v := ?_) (a' := ?_) #[true, true, true, true, false, true, true, true, true, false, false, false, false, false, false] rfl rfl (any_of HT_.out (by kernel_rfl)) (fun _ _ _ h => h) (Or.inl ⟨by rfl, ?_⟩) ?_ ?_
       rotate_left
       ·intro w'
        go_simp
        with_reducible rfl
       rotate_left
       ·simp only [Act.put, sA_, sZ_, sS_, i64_w, i32_w]
        rfl
       refine take_ (i := 9) (N := some 39) (v := ?_) (a' := ?_) #[true, true, true, true, false, true, true, true, true, true, false, false, false, false, false] rfl rfl (take_ofW HT_.out HW_.out (by kernel_rfl)) (fun _ _ _ h => h) (Or.inl ⟨by rfl, ?_⟩) hHeld ?_ ?_
       rotate_left
       ·rintro w' ⟨s0, s1, s2, s3⟩
        go_simp
        with_reducible rfl
       rotate_left
       ·simp only [Act.put, sA_, sZ_, sS_, i64_w, i32_w]
        rfl
       refine pure_ (i := 10) (N := some 40) (v := ?_) (a' := ?_) #[true, true, true, true, false, true, true, true, true, true, true, false, false, false, false] rfl rfl (any_of HT_.out (by kernel_rfl)) (fun _ _ _ h => h) (Or.inl ⟨by rfl, ?_⟩) ?_ ?_
       rotate_left
       ·intro w'
        go_simp
        with_reducible rfl
       rotate_left
       ·simp only [Act.put, sA_, sZ_, sS_, i64_w, i32_w]
        rfl
       refine one_ (i := 4) (N := some 34) #[true, true, true, true, true, true, true, true, true, true, true, false, false, false, false] rfl rfl (one_of HT_.out (by kernel_rfl)) (by decide) (fun K hK => ?_)
       refine goes_ Try.func76 (by kernel_rfl) rfl #[.int .i64 a0_0, .int .i64 a1_0] (by rfl) rfl rfl (by (try simp only [List.map_toArray, List.map_cons, List.map_nil]); first | done | rfl | (simp only [List.length_drop, List.length_take]; rfl)) ?_
       with_reducible refine (cmp_Compare_int.calls a0_0 a1_0 t272 _ A26.out).mono ?_
       rintro e w' ⟨rfl, ⟨nd, rfl⟩⟩
       refine ⟨_, rfl, ?_⟩
       refine hK.out _ _ ⟨(yaa_ BK266.out 0).trans rfl, (yaa_ BK266.out 1).trans rfl, (yaa_ BK267.out 0).trans rfl, (yaa_ BK267.out 1).trans rfl⟩ (fun hHeld => ?_)
       clear hK K
       refine norm_ (a' := ?_) ?_ ?_
       rotate_left
       ·show Act.put _ (some 34) _ = _
        simp only [Act.put, sA_, sZ_, sS_, i64_w, i32_w]
        rfl
       refine one_ (i := 11) (N := some 41) #[true, true, true, true, true, true, true, true, true, true, true, true, false, false, false] rfl rfl (one_of HT_.out (by kernel_rfl)) (by decide) (fun K hK => ?_)
       refine goes_ Try.func76 (by kernel_rfl) rfl #[.int .i64 (l0_1.length : Int), .int .i64 (l1_1.length : Int)] (by rfl) rfl rfl (by (try simp only [List.map_toArray, List.map_cons, List.map_nil]); first | done | rfl | (simp only [List.length_drop, List.length_take]; rfl)) ?_
       with_reducible refine (cmp_Compare_int.calls (l0_1.length : Int) (l1_1.length : Int) t273 _ A27.out).mono ?_
       rintro e w' ⟨rfl, ⟨nd, rfl⟩⟩
       refine ⟨_, rfl, ?_⟩
       refine hK.out _ _ ⟨(yaa_ BK266.out 0).trans rfl, (yaa_ BK266.out 1).trans rfl, (yaa_ BK267.out 0).trans rfl, (yaa_ BK267.out 1).trans rfl⟩ (fun hHeld => ?_)
       clear hK K
       refine norm_ (a' := ?_) ?_ ?_
       rotate_left
       ·show Act.put _ (some 41) _ = _
        simp only [Act.put, sA_, sZ_, sS_, i64_w, i32_w]
        rfl
       refine one_ (i := 12) (N := some 42) #[true, true, true, true, true, true, true, true, true, true, true, true, true, false, false] rfl rfl (one_of HT_.out (by kernel_rfl)) (by decide) (fun K hK => ?_)
       refine Kd.R_lit_step (Kd.int .i64) _ 3 ?hg (N := 42) ?hd (xs := ([t272, t273] : List Int)) (inner := [.int .i64 t272, .int .i64 t273]) (ok := fun _ => True) (okp := fun _ => True) ?hr ?hp (fun _ hk => hk) trivial (Below.refl _ _) (Nat.le_refl _) (by simp) ?_; (case hd => rfl); (case hg => rfl); (case hr => first | (go_simp; done) | (go_simp; rfl)); (case hp => exact (Reps.one (show Kd.M (Kd.int .i64) _ _ _ t272 [.int .i64 t272] from rfl) (Reps.one (show Kd.M (Kd.int .i64) _ _ _ t273 [.int .i64 t273] from rfl) (Reps.none _ _))))
       intro v275 w31 ho32 hb hg_ hnew_
       clear hg_ hnew_
       (first | rw [← Ny274.out] at ho32 | (simp only [Int.reduceToNat] at ho32; rw [← Ny274.out] at ho32))
       have n0_ := Az_.mk (Kd.R_lower ho32 (bZ_ (by repeat (first | (with_reducible first | exact HB.out | apply bA_ | apply bN_ | apply bD_ | refine bS_ ?_ GE266.out | refine bS_ ?_ GE267.out) | exact HB.out))))
       have n1_ := Az_.mk (kB_ (g := gb266) (o := .cells #[.int .i64 a0_0, .slice A0_1 l0_1.length c0_1] 30 (0, 0)) (by (with_reducible repeat (first | refine kN_ ?_ _ | refine kD_ ?_ | refine kA_ ?_ _)); exact BK266.out) hb)
       have n2_ := Az_.mk (kB_ (g := gb267) (o := .cells #[.int .i64 a1_0, .slice A1_1 l1_1.length c1_1] 30 (0, 0)) (by (with_reducible repeat (first | refine kN_ ?_ _ | refine kD_ ?_ | refine kA_ ?_ _)); exact BK267.out) hb)
       have n3_ := Az_.mk (bT_ (by repeat (first | (with_reducible first | exact HB.out | apply bA_ | apply bN_ | apply bD_ | refine bS_ ?_ GE266.out | refine bS_ ?_ GE267.out) | exact HB.out)) hb)
       clear BK266
       clear BK267
       clear HB
       have HO276 := n0_
       have BK266 := n1_
       have BK267 := n2_
       have HB := n3_
       clear n0_ n1_ n2_ n3_
       clear hb ho32
       obtain ⟨Ao33, co33, eo33⟩ := Kd.R_slice HO276.out
       (first | subst eo33 | (injection eo33 with f1_ f2_ f3_; have f4_ := f1_.symm; have f5_ := f3_.symm; clear f1_ f2_ f3_; subst f4_; subst f5_))
       refine hK.out _ _ ⟨(yaa_ BK266.out 0).trans rfl, (yaa_ BK266.out 1).trans rfl, (yaa_ BK267.out 0).trans rfl, (yaa_ BK267.out 1).trans rfl⟩ (fun hHeld => ?_)
       clear hK K
       refine norm_ (a' := ?_) ?_ ?_
       rotate_left
       ·show Act.put _ (some 42) _ = _
        simp only [Act.put, sA_, sZ_, sS_, i64_w, i32_w]
        rfl
       refine one_ (i := 13) (N := some 43) #[true, true, true, true, true, true, true, true, true, true, true, true, true, true, false] rfl rfl (one_of HT_.out (by kernel_rfl)) (by decide) (fun K hK => ?_)
       refine goes_ Try.func77 (by kernel_rfl) rfl #[.slice Ao33 y274.length co33] (by rfl) rfl rfl (by (try simp only [List.map_toArray, List.map_cons, List.map_nil]); first | done | rfl | (simp only [List.length_drop, List.length_take]; rfl)) ?_
       with_reducible refine (cmp_Or_int.calls kj8 _ _ y274 t277 _ ?side1 ?side2 A28.out).mono ?_
       (case side1 => repeat (first | exact (Kd.R_reads' HO276.out).2.2 | (with_reducible refine Kd.C_alloc ?_ _) | (with_reducible refine Kd.C_drewN ?_ _) | (with_reducible refine Kd.C_drew ?_)))
       (case side2 => exact (Kd.R_reads' HO276.out).2.1)
       rintro e w' ⟨rfl, ⟨nd, rfl⟩⟩
       refine ⟨_, rfl, ?_⟩
       refine hK.out _ _ ⟨(yaa_ BK266.out 0).trans rfl, (yaa_ BK266.out 1).trans rfl, (yaa_ BK267.out 0).trans rfl, (yaa_ BK267.out 1).trans rfl⟩ (fun hHeld => ?_)
       clear hK K
       refine norm_ (a' := ?_) ?_ ?_
       rotate_left
       ·show Act.put _ (some 43) _ = _
        simp only [Act.put, sA_, sZ_, sS_, i64_w, i32_w]
        rfl
       refine pure_ (i := 14) (N := some 6) (v := ?_) (a' := ?_) #[true, true, true, true, true, true, true, true, true, true, true, true, true, true, true] rfl rfl (any_of HT_.out (by kernel_rfl)) (fun _ _ _ h => h) (Or.inl ⟨by rfl, ?_⟩) ?_ ?_
       rotate_left
       ·intro w'
        go_simp
        with_reducible rfl
       rotate_left
       ·simp only [Act.put, sA_, sZ_, sS_, i64_w, i32_w]
        rfl
       refine done_ (done_of HT_.out (by kernel_rfl)) ?_
       have hnb34 := NB266_267.out
       have hnc34 := NB267_266.out
       have hcz35_0 : w31.cell? ⟨gb266, 0, none⟩ = some (.int .i64 a0_0) := (yaa_ BK266.out 0).trans rfl
       have hcz35_1 : w31.cell? ⟨gb266, 1, none⟩ = some (.slice A0_1 l0_1.length c0_1) := (yaa_ BK266.out 1).trans rfl
       have hfz35_0 := yab_ BK266.out 0
       have hfz35_1 := yab_ BK266.out 1
       try go_wp2
       go_loopg [51] kj8 (fun kq v51 w' => ∃ (x51_2 : Int), v51 = .int .i64 x51_2 ∧ Az_ (kbo_Greater.l0 kq l0_1 (l0_1.length : Int) x51_2 a1_0 l1_1 = some r) ∧ Az_ (kq ≤ kj8) ∧ Az_ (w'.heap[gb266]? = some (.cells #[.int .i64 a0_0, (.slice A0_1 l0_1.length c0_1)] 30 (0, 0))) ∧ Az_ (w'.heap[gb267]? = some (.cells #[.int .i64 a1_0, (.slice A1_1 l1_1.length c1_1)] 30 (0, 0))) ∧ Az_ (Below w.heap.size w w'))
       case atStart => exact ⟨(0), (by first | rfl | (simp; done) | (simp [*]; done)), H', ⟨Nat.le_refl _⟩, ⟨by (with_reducible repeat (first | refine kN_ ?_ _ | refine kD_ ?_ | refine kA_ ?_ _)); exact BK266.out⟩, ⟨by (with_reducible repeat (first | refine kN_ ?_ _ | refine kD_ ?_ | refine kA_ ?_ _)); exact BK267.out⟩, ⟨by repeat (first | (with_reducible first | exact HB.out | apply bA_ | apply bN_ | apply bD_ | refine bS_ ?_ GE266.out | refine bS_ ?_ GE267.out) | exact HB.out)⟩⟩
       case round =>
        clear H'
        try clear c1
        try clear c2
        try clear p2
        try clear c3
        try clear c4
        try clear c7
        try clear c8
        try clear c8b0
        try clear c8b1
        try clear c12
        try clear c19
        try clear c19b0
        try clear c20
        try clear c22
        try clear c25
        try clear c29
        try clear c29b0
        try clear c29b1
        try clear c34
        try clear hcz13_0
        try clear hcz13_1
        try clear hcz14_0
        try clear hcz14_1
        try clear hcz21_0
        try clear hcz21_1
        try clear hcz23_0
        try clear hcz23_1
        try clear hcz24_0
        try clear hcz24_1
        try clear hcz35_0
        try clear hcz35_1
        try clear hfz13_0
        try clear hfz13_1
        try clear hfz14_0
        try clear hfz14_1
        try clear hfz21_0
        try clear hfz21_1
        try clear hfz23_0
        try clear hfz23_1
        try clear hfz24_0
        try clear hfz24_1
        try clear hfz35_0
        try clear hfz35_1
        try clear p2
        obtain ⟨x51_2, rfl, HA, HK2, BK266, BK267, HB⟩ := hrel
        cases gk with
        | zero => exact absurd HA.out (by simp [kbo_Greater.l0])
        | succ k2 =>
         have H := HA.out
         clear HA
         simp only [kbo_Greater.l0] at H
         by_cases c36 : x51_2 < (l0_1.length : Int)
         ·rw [if_pos c36] at H
          have c36b0 : decide (x51_2 < (l0_1.length : Int)) = true := decide_eq_true c36
          clear c36
          by_cases c37 : 0 ≤ x51_2
          ·rw [if_pos c37] at H
           have c37b0 : decide (0 ≤ x51_2) = true := decide_eq_true c37
           clear c37
           by_cases c38 : x51_2 < (l0_1.length : Int)
           ·rw [if_pos c38] at H
            have c38b0 : decide (x51_2 < (l0_1.length : Int)) = true := decide_eq_true c38
            clear c38
            by_cases c39 : x51_2 < (l1_1.length : Int)
            ·rw [if_pos c39] at H
             have c39b0 : decide (x51_2 < (l1_1.length : Int)) = true := decide_eq_true c39
             clear c39
             replace H := Option.bind_eq_some_iff.mp H
             obtain ⟨t281, A400, H⟩ := H
             replace H : (if t281 = true then (kbo_Greater.l0 k2 l0_1 (l0_1.length : Int) (wrap64 (x51_2 + 1)) a1_0 l1_1) else ((kbo_Greater.f k2 ((rd_T30 l0_1 x51_2).f0) ((rd_T30 l0_1 x51_2).f1) ((rd_T30 l1_1 x51_2).f0) ((rd_T30 l1_1 x51_2).f1)).bind fun t283 => (some t283))) = some r := H
             have A40 := Az_.mk A400
             clear A400
             by_cases c41 : t281 = true
             ·subst c41
              have H1 : (kbo_Greater.l0 k2 l0_1 (l0_1.length : Int) (wrap64 (x51_2 + 1)) a1_0 l1_1) = some r := by rw [if_pos rfl] at H; exact H
              clear H
              have H := H1
              clear H1
              have H' := Az_.mk H
              clear H
              have p278 : 0 ≤ (x51_2 : Int) := of_decide_eq_true (by first | (with_reducible assumption) | assumption)
              have q278 : x51_2 < (l0_1.length : Int) := of_decide_eq_true (by first | (with_reducible assumption) | assumption)
              obtain ⟨ad278, A278_1, c278_1, e278, hx278_0, hx278_1, hl278_1, hi278_1⟩ := at_T30 HR0_1.out x51_2 p278 q278
              cases e278
              replace hx278_0 := (HB.out.cell (World.block_lt_of_cell? w _ hx278_0)).trans hx278_0
              replace hx278_1 := (HB.out.cell (World.block_lt_of_cell? w _ hx278_1)).trans hx278_1
              have HR278_1 := Az_.mk hi278_1
              have HC278_1 := Az_.mk hl278_1
              clear hi278_1 hl278_1
              replace p278 := eq_true p278
              replace q278 := eq_true q278
              try go_wp2_with (first | ((with_reducible refine yak_ (N := 8) rfl ?_); refine yaj_ ?hg (N := 8) ?hd (cs := #[.int .i64 0, .slice none 0 0]) (t := 30) ?hr ?_; (case hd => rfl); (case hg => rfl); (case hr => first | (go_simp; done) | (go_simp; rfl)); intro gb279 hg w42 hbox hb; have n0_ := Az_.mk (kB_ (g := gb266) (o := .cells #[.int .i64 a0_0, .slice (some ad278) l0_1.length c0_1] 30 (0, 0)) (by (with_reducible repeat (first | refine kN_ ?_ _ | refine kD_ ?_ | refine kA_ ?_ _)); exact BK266.out) hb); have n1_ := Az_.mk (kB_ (g := gb267) (o := .cells #[.int .i64 a1_0, .slice A1_1 l1_1.length c1_1] 30 (0, 0)) (by (with_reducible repeat (first | refine kN_ ?_ _ | refine kD_ ?_ | refine kA_ ?_ _)); exact BK267.out) hb); have n2_ := Az_.mk (bT_ (by repeat (first | (with_reducible first | exact HB.out | apply bA_ | apply bN_ | apply bD_ | refine bS_ ?_ GE266.out | refine bS_ ?_ GE267.out) | exact HB.out)) hb); have n3_ := Az_.mk (hbox); have n4_ := Az_.mk ((by rw [hg]; exact (bZ_ (by repeat (first | (with_reducible first | exact HB.out | apply bA_ | apply bN_ | apply bD_ | refine bS_ ?_ GE266.out | refine bS_ ?_ GE267.out) | exact HB.out))) : w.heap.size ≤ gb279)); have n5_ := Az_.mk ((by rw [hg]; exact (bZ_ (by repeat (first | (with_reducible first | exact HB.out | apply bA_ | apply bN_ | apply bD_ | refine bS_ ?_ GE266.out | refine bS_ ?_ GE267.out) | exact HB.out))) : w.heap.size ≤ gb279)); have n6_ := Az_.mk ((by rw [hg]; exact Nat.ne_of_lt (blk_lt (g := gb266) (o := .cells #[.int .i64 a0_0, .slice (some ad278) l0_1.length c0_1] 30 (0, 0)) (by (with_reducible repeat (first | refine kN_ ?_ _ | refine kD_ ?_ | refine kA_ ?_ _)); exact BK266.out)) : gb266 ≠ gb279)); have n7_ := Az_.mk ((by rw [hg]; exact Nat.ne_of_gt (blk_lt (g := gb266) (o := .cells #[.int .i64 a0_0, .slice (some ad278) l0_1.length c0_1] 30 (0, 0)) (by (with_reducible repeat (first | refine kN_ ?_ _ | refine kD_ ?_ | refine kA_ ?_ _)); exact BK266.out)) : gb279 ≠ gb266)); have n8_ := Az_.mk ((by rw [hg]; exact Nat.ne_of_lt (blk_lt (g := gb267) (o := .cells #[.int .i64 a1_0, .slice A1_1 l1_1.length c1_1] 30 (0, 0)) (by (with_reducible repeat (first | refine kN_ ?_ _ | refine kD_ ?_ | refine kA_ ?_ _)); exact BK267.out)) : gb267 ≠ gb279)); have n9_ := Az_.mk ((by rw [hg]; exact Nat.ne_of_gt (blk_lt (g := gb267) (o := .cells #[.int .i64 a1_0, .slice A1_1 l1_1.length c1_1] 30 (0, 0)) (by (with_reducible repeat (first | refine kN_ ?_ _ | refine kD_ ?_ | refine kA_ ?_ _)); exact BK267.out)) : gb279 ≠ gb267)); clear BK266; clear BK267; clear HB; have BK266 := n0_; have BK267 := n1_; have HB := n2_; have BK279 := n3_; have GW279 := n4_; have GE279 := n5_; have NB266_279 := n6_; have NB279_266 := n7_; have NB267_279 := n8_; have NB279_267 := n9_; clear n0_ n1_ n2_ n3_ n4_ n5_ n6_ n7_ n8_ n9_; clear hb hbox hg; have hnb43 := NB279_266.out; have hnc43 := NB266_279.out; have hnb44 := NB279_267.out; have hnc44 := NB267_279.out; have hcz45_0 : w42.cell? ⟨gb279, 0, none⟩ = some (.int .i64 0) := (yaa_ BK279.out 0).trans rfl; have hcz45_1 : w42.cell? ⟨gb279, 1, none⟩ = some (.slice none 0 0) := (yaa_ BK279.out 1).trans rfl; have hfz45_0 := yab_ BK279.out 0; have hfz45_1 := yab_ BK279.out 1))
              have n0_ : Az_ (((w42.setCell ⟨gb279, 0, none⟩ (.int .i64 ((rd_T30 l0_1 x51_2).f0))).setCell ⟨gb279, 1, none⟩ (.slice A278_1 ((rd_T30 l0_1 x51_2).f1).length c278_1)).heap[gb266]? = some (.cells #[.int .i64 a0_0, .slice (some ad278) l0_1.length c0_1] 30 (0, 0))) := ⟨by (with_reducible repeat (first | refine kN_ ?_ _ | refine kD_ ?_ | refine kA_ ?_ _)); refine blk_far ?_ NB266_279.out _; (with_reducible repeat (first | refine kN_ ?_ _ | refine kD_ ?_ | refine kA_ ?_ _)); refine blk_far ?_ NB266_279.out _; (with_reducible repeat (first | refine kN_ ?_ _ | refine kD_ ?_ | refine kA_ ?_ _)); exact BK266.out⟩
              have n1_ : Az_ (((w42.setCell ⟨gb279, 0, none⟩ (.int .i64 ((rd_T30 l0_1 x51_2).f0))).setCell ⟨gb279, 1, none⟩ (.slice A278_1 ((rd_T30 l0_1 x51_2).f1).length c278_1)).heap[gb267]? = some (.cells #[.int .i64 a1_0, .slice A1_1 l1_1.length c1_1] 30 (0, 0))) := ⟨by (with_reducible repeat (first | refine kN_ ?_ _ | refine kD_ ?_ | refine kA_ ?_ _)); refine blk_far ?_ NB267_279.out _; (with_reducible repeat (first | refine kN_ ?_ _ | refine kD_ ?_ | refine kA_ ?_ _)); refine blk_far ?_ NB267_279.out _; (with_reducible repeat (first | refine kN_ ?_ _ | refine kD_ ?_ | refine kA_ ?_ _)); exact BK267.out⟩
              have n2_ : Az_ (((w42.setCell ⟨gb279, 0, none⟩ (.int .i64 ((rd_T30 l0_1 x51_2).f0))).setCell ⟨gb279, 1, none⟩ (.slice A278_1 ((rd_T30 l0_1 x51_2).f1).length c278_1)).heap[gb279]? = some (.cells #[.int .i64 ((rd_T30 l0_1 x51_2).f0), .slice A278_1 ((rd_T30 l0_1 x51_2).f1).length c278_1] 30 (0, 0))) := ⟨by (with_reducible repeat (first | refine kN_ ?_ _ | refine kD_ ?_ | refine kA_ ?_ _)); refine blk_put (cs := #[.int .i64 ((rd_T30 l0_1 x51_2).f0), .slice none 0 0]) ?_ 1 _ rfl; (with_reducible repeat (first | refine kN_ ?_ _ | refine kD_ ?_ | refine kA_ ?_ _)); refine blk_put (cs := #[.int .i64 0, .slice none 0 0]) ?_ 0 _ rfl; (with_reducible repeat (first | refine kN_ ?_ _ | refine kD_ ?_ | refine kA_ ?_ _)); exact BK279.out⟩
              have n3_ : Az_ (Below w.heap.size w ((w42.setCell ⟨gb279, 0, none⟩ (.int .i64 ((rd_T30 l0_1 x51_2).f0))).setCell ⟨gb279, 1, none⟩ (.slice A278_1 ((rd_T30 l0_1 x51_2).f1).length c278_1))) := ⟨by repeat (first | (with_reducible first | exact HB.out | apply bA_ | apply bN_ | apply bD_ | refine bS_ ?_ GE266.out | refine bS_ ?_ GE267.out | refine bS_ ?_ GE279.out) | exact HB.out)⟩
              (try clear BK266)
              (try clear BK267)
              (try clear BK279)
              (try clear HB)
              generalize ((w42.setCell ⟨gb279, 0, none⟩ (.int .i64 ((rd_T30 l0_1 x51_2).f0))).setCell ⟨gb279, 1, none⟩ (.slice A278_1 ((rd_T30 l0_1 x51_2).f1).length c278_1)) = w46 at n0_ n1_ n2_ n3_ ⊢
              have BK266 := n0_
              have BK267 := n1_
              have BK279 := n2_
              have HB := n3_
              clear n0_ n1_ n2_ n3_
              have n0_ := Az_.mk (kD_ BK266.out)
              have n1_ := Az_.mk (kD_ BK267.out)
              have n2_ := Az_.mk (kD_ BK279.out)
              have n3_ := Az_.mk (bD_ HB.out)
              clear BK266
              clear BK267
              clear BK279
              clear HB
              have BK266 := n0_
              have BK267 := n1_
              have BK279 := n2_
              have HB := n3_
              clear n0_ n1_ n2_ n3_
              have p280 : 0 ≤ (x51_2 : Int) := of_decide_eq_true (by first | (with_reducible assumption) | assumption)
              have q280 : x51_2 < (l1_1.length : Int) := of_decide_eq_true (by first | (with_reducible assumption) | assumption)
              obtain ⟨ad280, A280_1, c280_1, e280, hx280_0, hx280_1, hl280_1, hi280_1⟩ := at_T30 HR1_1.out x51_2 p280 q280
              have hw280_1 := hx280_1
              have hw280_0 := hx280_0
              cases e280
              replace hx280_0 := (HB.out.cell (World.block_lt_of_cell? w _ hx280_0)).trans hx280_0
              replace hx280_1 := (HB.out.cell (World.block_lt_of_cell? w _ hx280_1)).trans hx280_1
              have HR280_1 := Az_.mk hi280_1
              have HC280_1 := Az_.mk hl280_1
              clear hi280_1 hl280_1
              replace p280 := eq_true p280
              replace q280 := eq_true q280
              refine start_ (n := 8) (S := fun w' => w'.cell? ⟨gb279, 0, none⟩ = some (.int .i64 ((rd_T30 l0_1 x51_2).f0)) ∧ w'.cell? ⟨gb279, 1, none⟩ = some (.slice A278_1 ((rd_T30 l0_1 x51_2).f1).length c278_1) ∧ w'.cell? ⟨gb267, 0, none⟩ = some (.int .i64 a1_0) ∧ w'.cell? ⟨gb267, 1, none⟩ = some (.slice (some ad280) l1_1.length c1_1) ∧ w'.cell? (ad280.add ((x51_2).toNat * 2)) = some (.int .i64 ((rd_T30 l1_1 x51_2).f0)) ∧ w'.cell? ⟨(ad280.add ((x51_2).toNat * 2)).block, (ad280.add ((x51_2).toNat * 2)).off + 1, none⟩ = some (.slice A280_1 ((rd_T30 l1_1 x51_2).f1).length c280_1)) (ds := []) #[false, false, false, false, false, false, false, false] (by kernel_rfl) rfl rfl ⟨(yaa_ BK279.out 0).trans rfl, (yaa_ BK279.out 1).trans rfl, (yaa_ BK267.out 0).trans rfl, (yaa_ BK267.out 1).trans rfl, ((HB.out.cell (World.block_lt_of_cell? w _ hw280_0)).trans hw280_0), ((HB.out.cell (World.block_lt_of_cell? w _ hw280_1)).trans hw280_1)⟩ (fun hHeld => ?_); refine with_tabW kbo_Greater.tab14 kbo_Greater.bits14 (fun HT_ HW_ => ?_)
              generalize w46.drew = w47 at BK266 BK267 BK279 HB HR280_1 hx280_0 hx280_1 hHeld ⊢
              refine pure_ (i := 1) (N := some 57) (v := ?_) (a' := ?_) #[false, true, false, false, false, false, false, false] rfl rfl (any_of HT_.out (by kernel_rfl)) (fun _ _ _ h => h) (Or.inl ⟨by rfl, ?_⟩) ?_ ?_
              rotate_left
              ·intro w'
               go_simp
               with_reducible rfl
              rotate_left
              ·simp only [Act.put, sA_, sZ_, sS_, i64_w, i32_w]
               rfl
              refine pure_ (i := 3) (N := some 59) (v := ?_) (a' := ?_) #[false, true, false, true, false, false, false, false] rfl rfl (any_of HT_.out (by kernel_rfl)) (fun _ _ _ h => h) (Or.inl ⟨by rfl, ?_⟩) ?_ ?_
              rotate_left
              ·intro w'
               go_simp
               with_reducible rfl
              rotate_left
              ·simp only [Act.put, sA_, sZ_, sS_, i64_w, i32_w]
               rfl
              refine take_ (i := 0) (N := some 56) (v := ?_) (a' := ?_) #[true, true, false, true, false, false, false, false] rfl rfl (take_ofW HT_.out HW_.out (by kernel_rfl)) (fun _ _ _ h => h) (Or.inl ⟨by rfl, ?_⟩) hHeld ?_ ?_
              rotate_left
              ·rintro w' ⟨s0, s1, s2, s3, s4, s5⟩
               go_simp
               with_reducible rfl
              rotate_left
              ·simp only [Act.put, sA_, sZ_, sS_, i64_w, i32_w]
               rfl
              refine take_ (i := 2) (N := some 58) (v := ?_) (a' := ?_) #[true, true, true, true, false, false, false, false] rfl rfl (take_ofW HT_.out HW_.out (by kernel_rfl)) (fun _ _ _ h => h) (Or.inl ⟨by rfl, ?_⟩) hHeld ?_ ?_
              rotate_left
              ·rintro w' ⟨s0, s1, s2, s3, s4, s5⟩
               go_simp
               with_reducible rfl
              rotate_left
              ·simp only [Act.put, sA_, sZ_, sS_, i64_w, i32_w]
               rfl
              refine pure_ (i := 4) (N := some 60) (v := ?_) (a' := ?_) #[true, true, true, true, true, false, false, false] rfl rfl (any_of HT_.out (by kernel_rfl)) (fun _ _ _ h => h) (Or.inl ⟨by rfl, ?_⟩) ?_ ?_
              rotate_left
              ·intro w'
               go_simp
               with_reducible rfl
              rotate_left
              ·simp only [Act.put, sA_, sZ_, sS_, i64_w, i32_w]
               rfl
              refine take_ (i := 5) (N := some 61) (v := ?_) (a' := ?_) #[true, true, true, true, true, true, false, false] rfl rfl (take_ofW HT_.out HW_.out (by kernel_rfl)) (fun _ _ _ h => h) (Or.inl ⟨by rfl, ?_⟩) hHeld ?_ ?_
              rotate_left
              ·rintro w' ⟨s0, s1, s2, s3, s4, s5⟩
               go_simp
               with_reducible rfl
              rotate_left
              ·simp only [Act.put, sA_, sZ_, sS_, i64_w, i32_w]
               rfl
              refine one_ (i := 6) (N := some 62) #[true, true, true, true, true, true, true, false] rfl rfl (one_of HT_.out (by kernel_rfl)) (by decide) (fun K hK => ?_)
              refine goes_ Try.func37 (by kernel_rfl) rfl #[.agg #[.int .i64 ((rd_T30 l0_1 x51_2).f0), .slice A278_1 ((rd_T30 l0_1 x51_2).f1).length c278_1], .agg #[.int .i64 ((rd_T30 l1_1 x51_2).f0), .slice A280_1 ((rd_T30 l1_1 x51_2).f1).length c280_1]] (by rfl) rfl rfl (by (try simp only [List.map_toArray, List.map_cons, List.map_nil]); first | done | rfl | (simp only [List.length_drop, List.length_take]; rfl)) ?_
              with_reducible refine (term_Same.calls ((rd_T30 l0_1 x51_2).f0) _ _ ((rd_T30 l0_1 x51_2).f1) ((rd_T30 l1_1 x51_2).f0) _ _ ((rd_T30 l1_1 x51_2).f1) true _ ?side1 ?side2 ?side3 ?side4 A40.out).mono ?_
              (case side1 => repeat (first | exact (Kd.C_below HR278_1.out HB.out) | (with_reducible refine Kd.C_alloc ?_ _) | (with_reducible refine Kd.C_drewN ?_ _) | (with_reducible refine Kd.C_drew ?_)))
              (case side2 => exact HC278_1.out)
              (case side3 => repeat (first | exact (Kd.C_below HR280_1.out HB.out) | (with_reducible refine Kd.C_alloc ?_ _) | (with_reducible refine Kd.C_drewN ?_ _) | (with_reducible refine Kd.C_drew ?_)))
              (case side4 => exact HC280_1.out)
              rintro e w48 ⟨rfl, hb⟩
              refine ⟨_, rfl, ?_⟩
              have n0_ := Az_.mk (kB_ (g := gb266) (o := .cells #[.int .i64 a0_0, .slice (some ad278) l0_1.length c0_1] 30 (0, 0)) (by (with_reducible repeat (first | refine kN_ ?_ _ | refine kD_ ?_ | refine kA_ ?_ _)); exact BK266.out) hb)
              have n1_ := Az_.mk (kB_ (g := gb267) (o := .cells #[.int .i64 a1_0, .slice (some ad280) l1_1.length c1_1] 30 (0, 0)) (by (with_reducible repeat (first | refine kN_ ?_ _ | refine kD_ ?_ | refine kA_ ?_ _)); exact BK267.out) hb)
              have n2_ := Az_.mk (kB_ (g := gb279) (o := .cells #[.int .i64 ((rd_T30 l0_1 x51_2).f0), .slice A278_1 ((rd_T30 l0_1 x51_2).f1).length c278_1] 30 (0, 0)) (by (with_reducible repeat (first | refine kN_ ?_ _ | refine kD_ ?_ | refine kA_ ?_ _)); exact BK279.out) hb)
              have n3_ := Az_.mk (bT_ (by repeat (first | (with_reducible first | exact HB.out | apply bA_ | apply bN_ | apply bD_ | refine bS_ ?_ GE266.out | refine bS_ ?_ GE267.out | refine bS_ ?_ GE279.out) | exact HB.out)) hb)
              clear BK266
              clear BK267
              clear BK279
              clear HB
              have BK266 := n0_
              have BK267 := n1_
              have BK279 := n2_
              have HB := n3_
              clear n0_ n1_ n2_ n3_
              (try clear hb)
              (try clear hb2)
              (try clear hk)
              (try clear hi)
              refine hK.out _ _ ⟨(yaa_ BK279.out 0).trans rfl, (yaa_ BK279.out 1).trans rfl, (yaa_ BK267.out 0).trans rfl, (yaa_ BK267.out 1).trans rfl, ((HB.out.cell (World.block_lt_of_cell? w _ hw280_0)).trans hw280_0), ((HB.out.cell (World.block_lt_of_cell? w _ hw280_1)).trans hw280_1)⟩ (fun hHeld => ?_)
              clear hK K
              refine norm_ (a' := ?_) ?_ ?_
              rotate_left
              ·show Act.put _ (some 62) _ = _
               simp only [Act.put, sA_, sZ_, sS_, i64_w, i32_w]
               rfl
              refine pure_ (i := 7) (N := some 63) (v := ?_) (a' := ?_) #[true, true, true, true, true, true, true, true] rfl rfl (any_of HT_.out (by kernel_rfl)) (fun _ _ _ h => h) (Or.inl ⟨by rfl, ?_⟩) ?_ ?_
              rotate_left
              ·intro w'
               go_simp
               with_reducible rfl
              rotate_left
              ·simp only [Act.put, sA_, sZ_, sS_, i64_w, i32_w]
               rfl
              refine done_ (done_of HT_.out (by kernel_rfl)) ?_
              try go_wp2
              go_roundg k2
              case measure => have := HJ8.out; have := HK2.out; omega
              case rel => exact ⟨(wrap64 (x51_2 + 1)), (by first | rfl | (simp; done) | (simp [*]; done)), H', ⟨by have := HJ8.out; have := HK2.out; omega⟩, ⟨by (with_reducible repeat (first | refine kN_ ?_ _ | refine kD_ ?_ | refine kA_ ?_ _)); exact BK266.out⟩, ⟨by (with_reducible repeat (first | refine kN_ ?_ _ | refine kD_ ?_ | refine kA_ ?_ _)); exact BK267.out⟩, ⟨by repeat (first | (with_reducible first | exact HB.out | apply bA_ | apply bN_ | apply bD_ | refine bS_ ?_ GE266.out | refine bS_ ?_ GE267.out | refine bS_ ?_ GE279.out) | exact HB.out)⟩⟩
             ·replace c41 := Bool.eq_false_iff.mpr c41
              subst c41
              have H1 : ((kbo_Greater.f k2 ((rd_T30 l0_1 x51_2).f0) ((rd_T30 l0_1 x51_2).f1) ((rd_T30 l1_1 x51_2).f0) ((rd_T30 l1_1 x51_2).f1)).bind fun t283 => (some t283)) = some r := by rw [if_neg (show ¬ (false = true) by decide)] at H; exact H
              clear H
              have H := H1
              clear H1
              replace H := Option.bind_eq_some_iff.mp H
              obtain ⟨t283, A490, H⟩ := H
              replace H : (some t283) = some r := H
              have A49 := Az_.mk A490
              clear A490
              obtain rfl := Option.some.inj H
              have p278 : 0 ≤ (x51_2 : Int) := of_decide_eq_true (by first | (with_reducible assumption) | assumption)
              have q278 : x51_2 < (l0_1.length : Int) := of_decide_eq_true (by first | (with_reducible assumption) | assumption)
              obtain ⟨ad278, A278_1, c278_1, e278, hx278_0, hx278_1, hl278_1, hi278_1⟩ := at_T30 HR0_1.out x51_2 p278 q278
              cases e278
              replace hx278_0 := (HB.out.cell (World.block_lt_of_cell? w _ hx278_0)).trans hx278_0
              replace hx278_1 := (HB.out.cell (World.block_lt_of_cell? w _ hx278_1)).trans hx278_1
              have HR278_1 := Az_.mk hi278_1
              have HC278_1 := Az_.mk hl278_1
              clear hi278_1 hl278_1
              replace p278 := eq_true p278
              replace q278 := eq_true q278
              try go_wp2_with (first | ((with_reducible refine yak_ (N := 8) rfl ?_); refine yaj_ ?hg (N := 8) ?hd (cs := #[.int .i64 0, .slice none 0 0]) (t := 30) ?hr ?_; (case hd => rfl); (case hg => rfl); (case hr => first | (go_simp; done) | (go_simp; rfl)); intro gb279 hg w50 hbox hb; have n0_ := Az_.mk (kB_ (g := gb266) (o := .cells #[.int .i64 a0_0, .slice (some ad278) l0_1.length c0_1] 30 (0, 0)) (by (with_reducible repeat (first | refine kN_ ?_ _ | refine kD_ ?_ | refine kA_ ?_ _)); exact BK266.out) hb); have n1_ := Az_.mk (kB_ (g := gb267) (o := .cells #[.int .i64 a1_0, .slice A1_1 l1_1.length c1_1] 30 (0, 0)) (by (with_reducible repeat (first | refine kN_ ?_ _ | refine kD_ ?_ | refine kA_ ?_ _)); exact BK267.out) hb); have n2_ := Az_.mk (bT_ (by repeat (first | (with_reducible first | exact HB.out | apply bA_ | apply bN_ | apply bD_ | refine bS_ ?_ GE266.out | refine bS_ ?_ GE267.out) | exact HB.out)) hb); have n3_ := Az_.mk (hbox); have n4_ := Az_.mk ((by rw [hg]; exact (bZ_ (by repeat (first | (with_reducible first | exact HB.out | apply bA_ | apply bN_ | apply bD_ | refine bS_ ?_ GE266.out | refine bS_ ?_ GE267.out) | exact HB.out))) : w.heap.size ≤ gb279)); have n5_ := Az_.mk ((by rw [hg]; exact (bZ_ (by repeat (first | (with_reducible first | exact HB.out | apply bA_ | apply bN_ | apply bD_ | refine bS_ ?_ GE266.out | refine bS_ ?_ GE267.out) | exact HB.out))) : w.heap.size ≤ gb279)); have n6_ := Az_.mk ((by rw [hg]; exact Nat.ne_of_lt (blk_lt (g := gb266) (o := .cells #[.int .i64 a0_0, .slice (some ad278) l0_1.length c0_1] 30 (0, 0)) (by (with_reducible repeat (first | refine kN_ ?_ _ | refine kD_ ?_ | refine kA_ ?_ _)); exact BK266.out)) : gb266 ≠ gb279)); have n7_ := Az_.mk ((by rw [hg]; exact Nat.ne_of_gt (blk_lt (g := gb266) (o := .cells #[.int .i64 a0_0, .slice (some ad278) l0_1.length c0_1] 30 (0, 0)) (by (with_reducible repeat (first | refine kN_ ?_ _ | refine kD_ ?_ | refine kA_ ?_ _)); exact BK266.out)) : gb279 ≠ gb266)); have n8_ := Az_.mk ((by rw [hg]; exact Nat.ne_of_lt (blk_lt (g := gb267) (o := .cells #[.int .i64 a1_0, .slice A1_1 l1_1.length c1_1] 30 (0, 0)) (by (with_reducible repeat (first | refine kN_ ?_ _ | refine kD_ ?_ | refine kA_ ?_ _)); exact BK267.out)) : gb267 ≠ gb279)); have n9_ := Az_.mk ((by rw [hg]; exact Nat.ne_of_gt (blk_lt (g := gb267) (o := .cells #[.int .i64 a1_0, .slice A1_1 l1_1.length c1_1] 30 (0, 0)) (by (with_reducible repeat (first | refine kN_ ?_ _ | refine kD_ ?_ | refine kA_ ?_ _)); exact BK267.out)) : gb279 ≠ gb267)); clear BK266; clear BK267; clear HB; have BK266 := n0_; have BK267 := n1_; have HB := n2_; have BK279 := n3_; have GW279 := n4_; have GE279 := n5_; have NB266_279 := n6_; have NB279_266 := n7_; have NB267_279 := n8_; have NB279_267 := n9_; clear n0_ n1_ n2_ n3_ n4_ n5_ n6_ n7_ n8_ n9_; clear hb hbox hg; have hnb51 := NB279_266.out; have hnc51 := NB266_279.out; have hnb52 := NB279_267.out; have hnc52 := NB267_279.out; have hcz53_0 : w50.cell? ⟨gb279, 0, none⟩ = some (.int .i64 0) := (yaa_ BK279.out 0).trans rfl; have hcz53_1 : w50.cell? ⟨gb279, 1, none⟩ = some (.slice none 0 0) := (yaa_ BK279.out 1).trans rfl; have hfz53_0 := yab_ BK279.out 0; have hfz53_1 := yab_ BK279.out 1))
              have n0_ : Az_ (((w50.setCell ⟨gb279, 0, none⟩ (.int .i64 ((rd_T30 l0_1 x51_2).f0))).setCell ⟨gb279, 1, none⟩ (.slice A278_1 ((rd_T30 l0_1 x51_2).f1).length c278_1)).heap[gb266]? = some (.cells #[.int .i64 a0_0, .slice (some ad278) l0_1.length c0_1] 30 (0, 0))) := ⟨by (with_reducible repeat (first | refine kN_ ?_ _ | refine kD_ ?_ | refine kA_ ?_ _)); refine blk_far ?_ NB266_279.out _; (with_reducible repeat (first | refine kN_ ?_ _ | refine kD_ ?_ | refine kA_ ?_ _)); refine blk_far ?_ NB266_279.out _; (with_reducible repeat (first | refine kN_ ?_ _ | refine kD_ ?_ | refine kA_ ?_ _)); exact BK266.out⟩
              have n1_ : Az_ (((w50.setCell ⟨gb279, 0, none⟩ (.int .i64 ((rd_T30 l0_1 x51_2).f0))).setCell ⟨gb279, 1, none⟩ (.slice A278_1 ((rd_T30 l0_1 x51_2).f1).length c278_1)).heap[gb267]? = some (.cells #[.int .i64 a1_0, .slice A1_1 l1_1.length c1_1] 30 (0, 0))) := ⟨by (with_reducible repeat (first | refine kN_ ?_ _ | refine kD_ ?_ | refine kA_ ?_ _)); refine blk_far ?_ NB267_279.out _; (with_reducible repeat (first | refine kN_ ?_ _ | refine kD_ ?_ | refine kA_ ?_ _)); refine blk_far ?_ NB267_279.out _; (with_reducible repeat (first | refine kN_ ?_ _ | refine kD_ ?_ | refine kA_ ?_ _)); exact BK267.out⟩
              have n2_ : Az_ (((w50.setCell ⟨gb279, 0, none⟩ (.int .i64 ((rd_T30 l0_1 x51_2).f0))).setCell ⟨gb279, 1, none⟩ (.slice A278_1 ((rd_T30 l0_1 x51_2).f1).length c278_1)).heap[gb279]? = some (.cells #[.int .i64 ((rd_T30 l0_1 x51_2).f0), .slice A278_1 ((rd_T30 l0_1 x51_2).f1).length c278_1] 30 (0, 0))) := ⟨by (with_reducible repeat (first | refine kN_ ?_ _ | refine kD_ ?_ | refine kA_ ?_ _)); refine blk_put (cs := #[.int .i64 ((rd_T30 l0_1 x51_2).f0), .slice none 0 0]) ?_ 1 _ rfl; (with_reducible repeat (first | refine kN_ ?_ _ | refine kD_ ?_ | refine kA_ ?_ _)); refine blk_put (cs := #[.int .i64 0, .slice none 0 0]) ?_ 0 _ rfl; (with_reducible repeat (first | refine kN_ ?_ _ | refine kD_ ?_ | refine kA_ ?_ _)); exact BK279.out⟩
              have n3_ : Az_ (Below w.heap.size w ((w50.setCell ⟨gb279, 0, none⟩ (.int .i64 ((rd_T30 l0_1 x51_2).f0))).setCell ⟨gb279, 1, none⟩ (.slice A278_1 ((rd_T30 l0_1 x51_2).f1).length c278_1))) := ⟨by repeat (first | (with_reducible first | exact HB.out | apply bA_ | apply bN_ | apply bD_ | refine bS_ ?_ GE266.out | refine bS_ ?_ GE267.out | refine bS_ ?_ GE279.out) | exact HB.out)⟩
              (try clear BK266)
              (try clear BK267)
              (try clear BK279)
              (try clear HB)
              generalize ((w50.setCell ⟨gb279, 0, none⟩ (.int .i64 ((rd_T30 l0_1 x51_2).f0))).setCell ⟨gb279, 1, none⟩ (.slice A278_1 ((rd_T30 l0_1 x51_2).f1).length c278_1)) = w54 at n0_ n1_ n2_ n3_ ⊢
              have BK266 := n0_
              have BK267 := n1_
              have BK279 := n2_
              have HB := n3_
              clear n0_ n1_ n2_ n3_
              have n0_ := Az_.mk (kD_ BK266.out)
              have n1_ := Az_.mk (kD_ BK267.out)
              have n2_ := Az_.mk (kD_ BK279.out)
              have n3_ := Az_.mk (bD_ HB.out)
              clear BK266
              clear BK267
              clear BK279
              clear HB
              have BK266 := n0_
              have BK267 := n1_
              have BK279 := n2_
              have HB := n3_
              clear n0_ n1_ n2_ n3_
              have p280 : 0 ≤ (x51_2 : Int) := of_decide_eq_true (by first | (with_reducible assumption) | assumption)
              have q280 : x51_2 < (l1_1.length : Int) := of_decide_eq_true (by first | (with_reducible assumption) | assumption)
              obtain ⟨ad280, A280_1, c280_1, e280, hx280_0, hx280_1, hl280_1, hi280_1⟩ := at_T30 HR1_1.out x51_2 p280 q280
              have hw280_1 := hx280_1
              have hw280_0 := hx280_0
              cases e280
              replace hx280_0 := (HB.out.cell (World.block_lt_of_cell? w _ hx280_0)).trans hx280_0
              replace hx280_1 := (HB.out.cell (World.block_lt_of_cell? w _ hx280_1)).trans hx280_1
              have HR280_1 := Az_.mk hi280_1
              have HC280_1 := Az_.mk hl280_1
              clear hi280_1 hl280_1
              replace p280 := eq_true p280
              replace q280 := eq_true q280
              refine start_ (n := 8) (S := fun w' => w'.cell? ⟨gb279, 0, none⟩ = some (.int .i64 ((rd_T30 l0_1 x51_2).f0)) ∧ w'.cell? ⟨gb279, 1, none⟩ = some (.slice A278_1 ((rd_T30 l0_1 x51_2).f1).length c278_1) ∧ w'.cell? ⟨gb267, 0, none⟩ = some (.int .i64 a1_0) ∧ w'.cell? ⟨gb267, 1, none⟩ = some (.slice (some ad280) l1_1.length c1_1) ∧ w'.cell? (ad280.add ((x51_2).toNat * 2)) = some (.int .i64 ((rd_T30 l1_1 x51_2).f0)) ∧ w'.cell? ⟨(ad280.add ((x51_2).toNat * 2)).block, (ad280.add ((x51_2).toNat * 2)).off + 1, none⟩ = some (.slice A280_1 ((rd_T30 l1_1 x51_2).f1).length c280_1)) (ds := []) #[false, false, false, false, false, false, false, false] (by kernel_rfl) rfl rfl ⟨(yaa_ BK279.out 0).trans rfl, (yaa_ BK279.out 1).trans rfl, (yaa_ BK267.out 0).trans rfl, (yaa_ BK267.out 1).trans rfl, ((HB.out.cell (World.block_lt_of_cell? w _ hw280_0)).trans hw280_0), ((HB.out.cell (World.block_lt_of_cell? w _ hw280_1)).trans hw280_1)⟩ (fun hHeld => ?_); refine with_tabW kbo_Greater.tab14 kbo_Greater.bits14 (fun HT_ HW_ => ?_)
              generalize w54.drew = w55 at BK266 BK267 BK279 HB HR280_1 hx280_0 hx280_1 hHeld ⊢
              refine pure_ (i := 1) (N := some 57) (v := ?_) (a' := ?_) #[false, true, false, false, false, false, false, false] rfl rfl (any_of HT_.out (by kernel_rfl)) (fun _ _ _ h => h) (Or.inl ⟨by rfl, ?_⟩) ?_ ?_
              rotate_left
              ·intro w'
               go_simp
               with_reducible rfl
              rotate_left
              ·simp only [Act.put, sA_, sZ_, sS_, i64_w, i32_w]
               rfl
              refine pure_ (i := 3) (N := some 59) (v := ?_) (a' := ?_) #[false, true, false, true, false, false, false, false] rfl rfl (any_of HT_.out (by kernel_rfl)) (fun _ _ _ h => h) (Or.inl ⟨by rfl, ?_⟩) ?_ ?_
              rotate_left
              ·intro w'
               go_simp
               with_reducible rfl
              rotate_left
              ·simp only [Act.put, sA_, sZ_, sS_, i64_w, i32_w]
               rfl
              refine take_ (i := 0) (N := some 56) (v := ?_) (a' := ?_) #[true, true, false, true, false, false, false, false] rfl rfl (take_ofW HT_.out HW_.out (by kernel_rfl)) (fun _ _ _ h => h) (Or.inl ⟨by rfl, ?_⟩) hHeld ?_ ?_
              rotate_left
              ·rintro w' ⟨s0, s1, s2, s3, s4, s5⟩
               go_simp
               with_reducible rfl
              rotate_left
              ·simp only [Act.put, sA_, sZ_, sS_, i64_w, i32_w]
               rfl
              refine take_ (i := 2) (N := some 58) (v := ?_) (a' := ?_) #[true, true, true, true, false, false, false, false] rfl rfl (take_ofW HT_.out HW_.out (by kernel_rfl)) (fun _ _ _ h => h) (Or.inl ⟨by rfl, ?_⟩) hHeld ?_ ?_
              rotate_left
              ·rintro w' ⟨s0, s1, s2, s3, s4, s5⟩
               go_simp
               with_reducible rfl
              rotate_left
              ·simp only [Act.put, sA_, sZ_, sS_, i64_w, i32_w]
               rfl
              refine pure_ (i := 4) (N := some 60) (v := ?_) (a' := ?_) #[true, true, true, true, true, false, false, false] rfl rfl (any_of HT_.out (by kernel_rfl)) (fun _ _ _ h => h) (Or.inl ⟨by rfl, ?_⟩) ?_ ?_
              rotate_left
              ·intro w'
               go_simp
               with_reducible rfl
              rotate_left
              ·simp only [Act.put, sA_, sZ_, sS_, i64_w, i32_w]
               rfl
              refine take_ (i := 5) (N := some 61) (v := ?_) (a' := ?_) #[true, true, true, true, true, true, false, false] rfl rfl (take_ofW HT_.out HW_.out (by kernel_rfl)) (fun _ _ _ h => h) (Or.inl ⟨by rfl, ?_⟩) hHeld ?_ ?_
              rotate_left
              ·rintro w' ⟨s0, s1, s2, s3, s4, s5⟩
               go_simp
               with_reducible rfl
              rotate_left
              ·simp only [Act.put, sA_, sZ_, sS_, i64_w, i32_w]
               rfl
              refine one_ (i := 6) (N := some 62) #[true, true, true, true, true, true, true, false] rfl rfl (one_of HT_.out (by kernel_rfl)) (by decide) (fun K hK => ?_)
              refine goes_ Try.func37 (by kernel_rfl) rfl #[.agg #[.int .i64 ((rd_T30 l0_1 x51_2).f0), .slice A278_1 ((rd_T30 l0_1 x51_2).f1).length c278_1], .agg #[.int .i64 ((rd_T30 l1_1 x51_2).f0), .slice A280_1 ((rd_T30 l1_1 x51_2).f1).length c280_1]] (by rfl) rfl rfl (by (try simp only [List.map_toArray, List.map_cons, List.map_nil]); first | done | rfl | (simp only [List.length_drop, List.length_take]; rfl)) ?_
              with_reducible refine (term_Same.calls ((rd_T30 l0_1 x51_2).f0) _ _ ((rd_T30 l0_1 x51_2).f1) ((rd_T30 l1_1 x51_2).f0) _ _ ((rd_T30 l1_1 x51_2).f1) false _ ?side1 ?side2 ?side3 ?side4 A40.out).mono ?_
              (case side1 => repeat (first | exact (Kd.C_below HR278_1.out HB.out) | (with_reducible refine Kd.C_alloc ?_ _) | (with_reducible refine Kd.C_drewN ?_ _) | (with_reducible refine Kd.C_drew ?_)))
              (case side2 => exact HC278_1.out)
              (case side3 => repeat (first | exact (Kd.C_below HR280_1.out HB.out) | (with_reducible refine Kd.C_alloc ?_ _) | (with_reducible refine Kd.C_drewN ?_ _) | (with_reducible refine Kd.C_drew ?_)))
              (case side4 => exact HC280_1.out)
              rintro e w56 ⟨rfl, hb⟩
              refine ⟨_, rfl, ?_⟩
              have n0_ := Az_.mk (kB_ (g := gb266) (o := .cells #[.int .i64 a0_0, .slice (some ad278) l0_1.length c0_1] 30 (0, 0)) (by (with_reducible repeat (first | refine kN_ ?_ _ | refine kD_ ?_ | refine kA_ ?_ _)); exact BK266.out) hb)
              have n1_ := Az_.mk (kB_ (g := gb267) (o := .cells #[.int .i64 a1_0, .slice (some ad280) l1_1.length c1_1] 30 (0, 0)) (by (with_reducible repeat (first | refine kN_ ?_ _ | refine kD_ ?_ | refine kA_ ?_ _)); exact BK267.out) hb)
              have n2_ := Az_.mk (kB_ (g := gb279) (o := .cells #[.int .i64 ((rd_T30 l0_1 x51_2).f0), .slice A278_1 ((rd_T30 l0_1 x51_2).f1).length c278_1] 30 (0, 0)) (by (with_reducible repeat (first | refine kN_ ?_ _ | refine kD_ ?_ | refine kA_ ?_ _)); exact BK279.out) hb)
              have n3_ := Az_.mk (bT_ (by repeat (first | (with_reducible first | exact HB.out | apply bA_ | apply bN_ | apply bD_ | refine bS_ ?_ GE266.out | refine bS_ ?_ GE267.out | refine bS_ ?_ GE279.out) | exact HB.out)) hb)
              clear BK266
              clear BK267
              clear BK279
              clear HB
              have BK266 := n0_
              have BK267 := n1_
              have BK279 := n2_
              have HB := n3_
              clear n0_ n1_ n2_ n3_
              (try clear hb)
              (try clear hb2)
              (try clear hk)
              (try clear hi)
              refine hK.out _ _ ⟨(yaa_ BK279.out 0).trans rfl, (yaa_ BK279.out 1).trans rfl, (yaa_ BK267.out 0).trans rfl, (yaa_ BK267.out 1).trans rfl, ((HB.out.cell (World.block_lt_of_cell? w _ hw280_0)).trans hw280_0), ((HB.out.cell (World.block_lt_of_cell? w _ hw280_1)).trans hw280_1)⟩ (fun hHeld => ?_)
              clear hK K
              refine norm_ (a' := ?_) ?_ ?_
              rotate_left
              ·show Act.put _ (some 62) _ = _
               simp only [Act.put, sA_, sZ_, sS_, i64_w, i32_w]
               rfl
              refine pure_ (i := 7) (N := some 63) (v := ?_) (a' := ?_) #[true, true, true, true, true, true, true, true] rfl rfl (any_of HT_.out (by kernel_rfl)) (fun _ _ _ h => h) (Or.inl ⟨by rfl, ?_⟩) ?_ ?_
              rotate_left
              ·intro w'
               go_simp
               with_reducible rfl
              rotate_left
              ·simp only [Act.put, sA_, sZ_, sS_, i64_w, i32_w]
               rfl
              refine done_ (done_of HT_.out (by kernel_rfl)) ?_
              try go_wp2
              have n0_ := Az_.mk (kD_ BK266.out)
              have n1_ := Az_.mk (kD_ BK267.out)
              have n2_ := Az_.mk (kD_ BK279.out)
              have n3_ := Az_.mk (bD_ HB.out)
              clear BK266
              clear BK267
              clear BK279
              clear HB
              have BK266 := n0_
              have BK267 := n1_
              have BK279 := n2_
              have HB := n3_
              clear n0_ n1_ n2_ n3_
              have p282 : 0 ≤ (x51_2 : Int) := of_decide_eq_true (by first | (with_reducible assumption) | assumption)
              have q282 : x51_2 < (l1_1.length : Int) := of_decide_eq_true (by first | (with_reducible assumption) | assumption)
              obtain ⟨ad282, A282_1, c282_1, e282, hx282_0, hx282_1, hl282_1, hi282_1⟩ := at_T30 HR1_1.out x51_2 p282 q282
              have hw282_1 := hx282_1
              have hw282_0 := hx282_0
              obtain rfl : ad280 = ad282 := (by injection e282)
              replace hx282_0 := (HB.out.cell (World.block_lt_of_cell? w _ hx282_0)).trans hx282_0
              replace hx282_1 := (HB.out.cell (World.block_lt_of_cell? w _ hx282_1)).trans hx282_1
              have HR282_1 := Az_.mk hi282_1
              have HC282_1 := Az_.mk hl282_1
              clear hi282_1 hl282_1
              replace p282 := eq_true p282
              replace q282 := eq_true q282
              refine start_ (n := 8) (S := fun w' => w'.cell? ⟨gb279, 0, none⟩ = some (.int .i64 ((rd_T30 l0_1 x51_2).f0)) ∧ w'.cell? ⟨gb279, 1, none⟩ = some (.slice A278_1 ((rd_T30 l0_1 x51_2).f1).length c278_1) ∧ w'.cell? ⟨gb267, 0, none⟩ = some (.int .i64 a1_0) ∧ w'.cell? ⟨gb267, 1, none⟩ = some (.slice (some ad280) l1_1.length c1_1) ∧ w'.cell? (ad280.add ((x51_2).toNat * 2)) = some (.int .i64 ((rd_T30 l1_1 x51_2).f0)) ∧ w'.cell? ⟨(ad280.add ((x51_2).toNat * 2)).block, (ad280.add ((x51_2).toNat * 2)).off + 1, none⟩ = some (.slice A282_1 ((rd_T30 l1_1 x51_2).f1).length c282_1)) (ds := []) #[false, false, false, false, false, false, false, false] (by kernel_rfl) rfl rfl ⟨(yaa_ BK279.out 0).trans rfl, (yaa_ BK279.out 1).trans rfl, (yaa_ BK267.out 0).trans rfl, (yaa_ BK267.out 1).trans rfl, ((HB.out.cell (World.block_lt_of_cell? w _ hw282_0)).trans hw282_0), ((HB.out.cell (World.block_lt_of_cell? w _ hw282_1)).trans hw282_1)⟩ (fun hHeld => ?_); refine with_tabW kbo_Greater.tab15 kbo_Greater.bits15 (fun HT_ HW_ => ?_)
              generalize w56.drew = w57 at BK266 BK267 BK279 HB HR282_1 hx282_0 hx282_1 hHeld ⊢
              refine pure_ (i := 1) (N := some 65) (v := ?_) (a' := ?_) #[false, true, false, false, false, false, false, false] rfl rfl (any_of HT_.out (by kernel_rfl)) (fun _ _ _ h => h) (Or.inl ⟨by rfl, ?_⟩) ?_ ?_
              rotate_left
              ·intro w'
               go_simp
               with_reducible rfl
              rotate_left
              ·simp only [Act.put, sA_, sZ_, sS_, i64_w, i32_w]
               rfl
              refine pure_ (i := 3) (N := some 67) (v := ?_) (a' := ?_) #[false, true, false, true, false, false, false, false] rfl rfl (any_of HT_.out (by kernel_rfl)) (fun _ _ _ h => h) (Or.inl ⟨by rfl, ?_⟩) ?_ ?_
              rotate_left
              ·intro w'
               go_simp
               with_reducible rfl
              rotate_left
              ·simp only [Act.put, sA_, sZ_, sS_, i64_w, i32_w]
               rfl
              refine take_ (i := 0) (N := some 64) (v := ?_) (a' := ?_) #[true, true, false, true, false, false, false, false] rfl rfl (take_ofW HT_.out HW_.out (by kernel_rfl)) (fun _ _ _ h => h) (Or.inl ⟨by rfl, ?_⟩) hHeld ?_ ?_
              rotate_left
              ·rintro w' ⟨s0, s1, s2, s3, s4, s5⟩
               go_simp
               with_reducible rfl
              rotate_left
              ·simp only [Act.put, sA_, sZ_, sS_, i64_w, i32_w]
               rfl
              refine take_ (i := 2) (N := some 66) (v := ?_) (a' := ?_) #[true, true, true, true, false, false, false, false] rfl rfl (take_ofW HT_.out HW_.out (by kernel_rfl)) (fun _ _ _ h => h) (Or.inl ⟨by rfl, ?_⟩) hHeld ?_ ?_
              rotate_left
              ·rintro w' ⟨s0, s1, s2, s3, s4, s5⟩
               go_simp
               with_reducible rfl
              rotate_left
              ·simp only [Act.put, sA_, sZ_, sS_, i64_w, i32_w]
               rfl
              refine pure_ (i := 4) (N := some 68) (v := ?_) (a' := ?_) #[true, true, true, true, true, false, false, false] rfl rfl (any_of HT_.out (by kernel_rfl)) (fun _ _ _ h => h) (Or.inl ⟨by rfl, ?_⟩) ?_ ?_
              rotate_left
              ·intro w'
               go_simp
               with_reducible rfl
              rotate_left
              ·simp only [Act.put, sA_, sZ_, sS_, i64_w, i32_w]
               rfl
              refine take_ (i := 5) (N := some 69) (v := ?_) (a' := ?_) #[true, true, true, true, true, true, false, false] rfl rfl (take_ofW HT_.out HW_.out (by kernel_rfl)) (fun _ _ _ h => h) (Or.inl ⟨by rfl, ?_⟩) hHeld ?_ ?_
              rotate_left
              ·rintro w' ⟨s0, s1, s2, s3, s4, s5⟩
               go_simp
               with_reducible rfl
              rotate_left
              ·simp only [Act.put, sA_, sZ_, sS_, i64_w, i32_w]
               rfl
              refine one_ (i := 6) (N := some 70) #[true, true, true, true, true, true, true, false] rfl rfl (one_of HT_.out (by kernel_rfl)) (by decide) (fun K hK => ?_)
              refine goes_ Try.func41 (by kernel_rfl) rfl #[.agg #[.int .i64 ((rd_T30 l0_1 x51_2).f0), .slice A278_1 ((rd_T30 l0_1 x51_2).f1).length c278_1], .agg #[.int .i64 ((rd_T30 l1_1 x51_2).f0), .slice A282_1 ((rd_T30 l1_1 x51_2).f1).length c282_1]] (by rfl) rfl rfl (by (try simp only [List.map_toArray, List.map_cons, List.map_nil]); first | done | rfl | (simp only [List.length_drop, List.length_take]; rfl)) ?_
              with_reducible refine (ih k2 (by have := HJ8.out; have := HK2.out; omega) ((rd_T30 l0_1 x51_2).f0) _ _ ((rd_T30 l0_1 x51_2).f1) ((rd_T30 l1_1 x51_2).f0) _ _ ((rd_T30 l1_1 x51_2).f1) t283 _ ?side1 ?side2 ?side3 ?side4 A49.out).mono ?_
              (case side1 => repeat (first | exact (Kd.C_below HR278_1.out HB.out) | (with_reducible refine Kd.C_alloc ?_ _) | (with_reducible refine Kd.C_drewN ?_ _) | (with_reducible refine Kd.C_drew ?_)))
              (case side2 => exact HC278_1.out)
              (case side3 => repeat (first | exact (Kd.C_below HR282_1.out HB.out) | (with_reducible refine Kd.C_alloc ?_ _) | (with_reducible refine Kd.C_drewN ?_ _) | (with_reducible refine Kd.C_drew ?_)))
              (case side4 => exact HC282_1.out)
              rintro e w58 ⟨rfl, hb⟩
              refine ⟨_, rfl, ?_⟩
              have n0_ := Az_.mk (kB_ (g := gb266) (o := .cells #[.int .i64 a0_0, .slice (some ad278) l0_1.length c0_1] 30 (0, 0)) (by (with_reducible repeat (first | refine kN_ ?_ _ | refine kD_ ?_ | refine kA_ ?_ _)); exact BK266.out) hb)
              have n1_ := Az_.mk (kB_ (g := gb267) (o := .cells #[.int .i64 a1_0, .slice (some ad280) l1_1.length c1_1] 30 (0, 0)) (by (with_reducible repeat (first | refine kN_ ?_ _ | refine kD_ ?_ | refine kA_ ?_ _)); exact BK267.out) hb)
              have n2_ := Az_.mk (kB_ (g := gb279) (o := .cells #[.int .i64 ((rd_T30 l0_1 x51_2).f0), .slice A278_1 ((rd_T30 l0_1 x51_2).f1).length c278_1] 30 (0, 0)) (by (with_reducible repeat (first | refine kN_ ?_ _ | refine kD_ ?_ | refine kA_ ?_ _)); exact BK279.out) hb)
              have n3_ := Az_.mk (bT_ (by repeat (first | (with_reducible first | exact HB.out | apply bA_ | apply bN_ | apply bD_ | refine bS_ ?_ GE266.out | refine bS_ ?_ GE267.out | refine bS_ ?_ GE279.out) | exact HB.out)) hb)
              clear BK266
              clear BK267
              clear BK279
              clear HB
              have BK266 := n0_
              have BK267 := n1_
              have BK279 := n2_
              have HB := n3_
              clear n0_ n1_ n2_ n3_
              (try clear hb)
              (try clear hb2)
              (try clear hk)
              (try clear hi)
              refine hK.out _ _ ⟨(yaa_ BK279.out 0).trans rfl, (yaa_ BK279.out 1).trans rfl, (yaa_ BK267.out 0).trans rfl, (yaa_ BK267.out 1).trans rfl, ((HB.out.cell (World.block_lt_of_cell? w _ hw282_0)).trans hw282_0), ((HB.out.cell (World.block_lt_of_cell? w _ hw282_1)).trans hw282_1)⟩ (fun hHeld => ?_)
              clear hK K
              refine norm_ (a' := ?_) ?_ ?_
              rotate_left
              ·show Act.put _ (some 70) _ = _
               simp only [Act.put, sA_, sZ_, sS_, i64_w, i32_w]
               rfl
              refine pure_ (i := 7) (N := some 4) (v := ?_) (a' := ?_) #[true, true, true, true, true, true, true, true] rfl rfl (any_of HT_.out (by kernel_rfl)) (fun _ _ _ h => h) (Or.inl ⟨by rfl, ?_⟩) ?_ ?_
              rotate_left
              ·intro w'
               go_simp
               with_reducible rfl
              rotate_left
              ·simp only [Act.put, sA_, sZ_, sS_, i64_w, i32_w]
               rfl
              refine done_ (done_of HT_.out (by kernel_rfl)) ?_
              try go_wp2
              go_ret
              exact ⟨by first | rfl | (simp [yag_, yaf_] <;> rfl) | (simp [*, yag_, yaf_] <;> rfl), by repeat (first | (with_reducible first | exact HB.out | apply bA_ | apply bN_ | apply bD_ | refine bS_ ?_ GE266.out | refine bS_ ?_ GE267.out | refine bS_ ?_ GE279.out) | exact HB.out)⟩
            ·rw [if_neg c39] at H
             exact absurd H (by simp)
           ·rw [if_neg c38] at H
            exact absurd H (by simp)
          ·rw [if_neg c37] at H
           exact absurd H (by simp)
         ·rw [if_neg c36] at H
          have c36b0 : decide (x51_2 < (l0_1.length : Int)) = false := decide_eq_false c36
          clear c36
          obtain rfl := Option.some.inj H
          go_wp2
          go_ret
          exact ⟨by first | rfl | (simp [yag_, yaf_] <;> rfl) | (simp [*, yag_, yaf_] <;> rfl), by repeat (first | (with_reducible first | exact HB.out | apply bA_ | apply bN_ | apply bD_ | refine bS_ ?_ GE266.out | refine bS_ ?_ GE267.out) | exact HB.out)⟩
      ·rw [if_neg c29] at H
       have c29b0 : (t277 == 0) = false := beq_eq_false_iff_ne.mpr c29
       have c29b1 : (t277 != 0) = true := bne_iff_ne.mpr c29
       obtain rfl := Option.some.inj H
       try go_wp2
       have n0_ := Az_.mk (kD_ BK266.out)
       have n1_ := Az_.mk (kD_ BK267.out)
       have n2_ := Az_.mk (bD_ HB.out)
       clear BK266
       clear BK267
       clear HB
       have BK266 := n0_
       have BK267 := n1_
       have HB := n2_
       clear n0_ n1_ n2_
       refine start_ (n := 15) (S := fun w' => w'.cell? ⟨gb266, 0, none⟩ = some (.int .i64 a0_0) ∧ w'.cell? ⟨gb266, 1, none⟩ = some (.slice A0_1 l0_1.length c0_1) ∧ w'.cell? ⟨gb267, 0, none⟩ = some (.int .i64 a1_0) ∧ w'.cell? ⟨gb267, 1, none⟩ = some (.slice A1_1 l1_1.length c1_1)) (ds := []) #[false, false, false, false, false, false, false, false, false, false, false, false, false, false, false] (by kernel_rfl) rfl rfl ⟨(yaa_ BK266.out 0).trans rfl, (yaa_ BK266.out 1).trans rfl, (yaa_ BK267.out 0).trans rfl, (yaa_ BK267.out 1).trans rfl⟩ (fun hHeld => ?_); refine with_tabW kbo_Greater.tab8 kbo_Greater.bits8 (fun HT_ HW_ => ?_)
       generalize wc.drew = w59 at BK266 BK267 HB hHeld ⊢
       refine pure_ (i := 0) (N := some 30) (v := ?_) (a' := ?_) #[true, false, false, false, false, false, false, false, false, false, false, false, false, false, false] rfl rfl (any_of HT_.out (by kernel_rfl)) (fun _ _ _ h => h) (Or.inl ⟨by rfl, ?_⟩) ?_ ?_
       rotate_left
       ·intro w'
        go_simp
        with_reducible rfl
       rotate_left
       ·simp only [Act.put, sA_, sZ_, sS_, i64_w, i32_w]
        rfl
       refine pure_ (i := 2) (N := some 32) (v := ?_) (a' := ?_) #[true, false, true, false, false, false, false, false, false, false, false, false, false, false, false] rfl rfl (any_of HT_.out (by kernel_rfl)) (fun _ _ _ h => h) (Or.inl ⟨by rfl, ?_⟩) ?_ ?_
       rotate_left
       ·intro w'
        go_simp
        with_reducible rfl
       rotate_left
       ·simp only [Act.put, sA_, sZ_, sS_, i64_w, i32_w]
        rfl
       refine pure_ (i := 5) (N := some 35) (v := ?_) (a' := ?_) #[true, false, true, false, false, true, false, false, false, false, false, false, false, false, false] rfl rfl (any_of HT_.out (by kernel_rfl)) (fun _ _ _ h => h) (Or.inl ⟨by rfl, ?_⟩) ?_ ?_
       rotate_left
       ·intro w'
        go_simp
        with_reducible rfl
       rotate_left
       ·simp only [Act.put, sA_, sZ_, sS_, i64_w, i32_w]
        rfl
       refine pure_ (i := 8) (N := some 38) (v := ?_) (a' := ?_) #[true, false, true, false, false, true, false, false, true, false, false, false, false, false, false] rfl rfl (any_of HT_.out (by kernel_rfl)) (fun _ _ _ h => h) (Or.inl ⟨by rfl, ?_⟩) ?_ ?_
       rotate_left
       ·intro w'
        go_simp
        with_reducible rfl
       rotate_left
       ·simp only [Act.put, sA_, sZ_, sS_, i64_w, i32_w]
        rfl
       refine take_ (i := 1) (N := some 31) (v := ?_) (a' := ?_) #[true, true, true, false, false, true, false, false, true, false, false, false, false, false, false] rfl rfl (take_ofW HT_.out HW_.out (by kernel_rfl)) (fun _ _ _ h => h) (Or.inl ⟨by rfl, ?_⟩) hHeld ?_ ?_
       rotate_left
       ·rintro w' ⟨s0, s1, s2, s3⟩
        go_simp
        with_reducible rfl
       rotate_left
       ·simp only [Act.put, sA_, sZ_, sS_, i64_w, i32_w]
        rfl
       refine take_ (i := 3) (N := some 33) (v := ?_) (a' := ?_) #[true, true, true, true, false, true, false, false, true, false, false, false, false, false, false] rfl rfl (take_ofW HT_.out HW_.out (by kernel_rfl)) (fun _ _ _ h => h) (Or.inl ⟨by rfl, ?_⟩) hHeld ?_ ?_
       rotate_left
       ·rintro w' ⟨s0, s1, s2, s3⟩
        go_simp
        with_reducible rfl
       rotate_left
       ·simp only [Act.put, sA_, sZ_, sS_, i64_w, i32_w]
        rfl
       refine take_ (i := 6) (N := some 36) (v := ?_) (a' := ?_) #[true, true, true, true, false, true, true, false, true, false, false, false, false, false, false] rfl rfl (take_ofW HT_.out HW_.out (by kernel_rfl)) (fun _ _ _ h => h) (Or.inl ⟨by rfl, ?_⟩) hHeld ?_ ?_
       rotate_left
       ·rintro w' ⟨s0, s1, s2, s3⟩
        go_simp
        with_reducible rfl
       rotate_left
       ·simp only [Act.put, sA_, sZ_, sS_, i64_w, i32_w]
        rfl
       refine pure_ (i := 7) (N := some 37) (v := ?_) (a' := ?_) #[true, true, true, true, false, true, true, true, true, false, false, false, false, false, false] rfl rfl (any_of HT_.out (by kernel_rfl)) (fun _ _ _ h => h) (Or.inl ⟨by rfl, ?_⟩) ?_ ?_
       rotate_left
       ·intro w'
        go_simp
        with_reducible rfl
       rotate_left
       ·simp only [Act.put, sA_, sZ_, sS_, i64_w, i32_w]
        rfl
       refine take_ (i := 9) (N := some 39) (v := ?_) (a' := ?_) #[true, true, true, true, false, true, true, true, true, true, false, false, false, false, false] rfl rfl (take_ofW HT_.out HW_.out (by kernel_rfl)) (fun _ _ _ h => h) (Or.inl ⟨by rfl, ?_⟩) hHeld ?_ ?_
       rotate_left
       ·rintro w' ⟨s0, s1, s2, s3⟩
        go_simp
        with_reducible rfl
       rotate_left
       ·simp only [Act.put, sA_, sZ_, sS_, i64_w, i32_w]
        rfl
       refine pure_ (i := 10) (N := some 40) (v := ?_) (a' := ?_) #[true, true, true, true, false, true, true, true, true, true, true, false, false, false, false] rfl rfl (any_of HT_.out (by kernel_rfl)) (fun _ _ _ h => h) (Or.inl ⟨by rfl, ?_⟩) ?_ ?_
       rotate_left
       ·intro w'
        go_simp
        with_reducible rfl
       rotate_left
       ·simp only [Act.put, sA_, sZ_, sS_, i64_w, i32_w]
        rfl
       refine one_ (i := 4) (N := some 34) #[true, true, true, true, true, true, true, true, true, true, true, false, false, false, false] rfl rfl (one_of HT_.out (by kernel_rfl)) (by decide) (fun K hK => ?_)
       refine goes_ Try.func76 (by kernel_rfl) rfl #[.int .i64 a0_0, .int .i64 a1_0] (by rfl) rfl rfl (by (try simp only [List.map_toArray, List.map_cons, List.map_nil]); first | done | rfl | (simp only [List.length_drop, List.length_take]; rfl)) ?_
       with_reducible refine (cmp_Compare_int.calls a0_0 a1_0 t272 _ A26.out).mono ?_
       rintro e w' ⟨rfl, ⟨nd, rfl⟩⟩
       refine ⟨_, rfl, ?_⟩
       refine hK.out _ _ ⟨(yaa_ BK266.out 0).trans rfl, (yaa_ BK266.out 1).trans rfl, (yaa_ BK267.out 0).trans rfl, (yaa_ BK267.out 1).trans rfl⟩ (fun hHeld => ?_)
       clear hK K
       refine norm_ (a' := ?_) ?_ ?_
       rotate_left
       ·show Act.put _ (some 34) _ = _
        simp only [Act.put, sA_, sZ_, sS_, i64_w, i32_w]
        rfl
       refine one_ (i := 11) (N := some 41) #[true, true, true, true, true, true, true, true, true, true, true, true, false, false, false] rfl rfl (one_of HT_.out (by kernel_rfl)) (by decide) (fun K hK => ?_)
       refine goes_ Try.func76 (by kernel_rfl) rfl #[.int .i64 (l0_1.length : Int), .int .i64 (l1_1.length : Int)] (by rfl) rfl rfl (by (try simp only [List.map_toArray, List.map_cons, List.map_nil]); first | done | rfl | (simp only [List.length_drop, List.length_take]; rfl)) ?_
       with_reducible refine (cmp_Compare_int.calls (l0_1.length : Int) (l1_1.length : Int) t273 _ A27.out).mono ?_
       rintro e w' ⟨rfl, ⟨nd, rfl⟩⟩
       refine ⟨_, rfl, ?_⟩
       refine hK.out _ _ ⟨(yaa_ BK266.out 0).trans rfl, (yaa_ BK266.out 1).trans rfl, (yaa_ BK267.out 0).trans rfl, (yaa_ BK267.out 1).trans rfl⟩ (fun hHeld => ?_)
       clear hK K
       refine norm_ (a' := ?_) ?_ ?_
       rotate_left
       ·show Act.put _ (some 41) _ = _
        simp only [Act.put, sA_, sZ_, sS_, i64_w, i32_w]
        rfl
       refine one_ (i := 12) (N := some 42) #[true, true, true, true, true, true, true, true, true, true, true, true, true, false, false] rfl rfl (one_of HT_.out (by kernel_rfl)) (by decide) (fun K hK => ?_)
       refine Kd.R_lit_step (Kd.int .i64) _ 3 ?hg (N := 42) ?hd (xs := ([t272, t273] : List Int)) (inner := [.int .i64 t272, .int .i64 t273]) (ok := fun _ => True) (okp := fun _ => True) ?hr ?hp (fun _ hk => hk) trivial (Below.refl _ _) (Nat.le_refl _) (by simp) ?_; (case hd => rfl); (case hg => rfl); (case hr => first | (go_simp; done) | (go_simp; rfl)); (case hp => exact (Reps.one (show Kd.M (Kd.int .i64) _ _ _ t272 [.int .i64 t272] from rfl) (Reps.one (show Kd.M (Kd.int .i64) _ _ _ t273 [.int .i64 t273] from rfl) (Reps.none _ _))))
       intro v275 w60 ho61 hb hg_ hnew_
       clear hg_ hnew_
       (first | rw [← Ny274.out] at ho61 | (simp only [Int.reduceToNat] at ho61; rw [← Ny274.out] at ho61))
       have n0_ := Az_.mk (Kd.R_lower ho61 (bZ_ (by repeat (first | (with_reducible first | exact HB.out | apply bA_ | apply bN_ | apply bD_ | refine bS_ ?_ GE266.out | refine bS_ ?_ GE267.out) | exact HB.out))))
       have n1_ := Az_.mk (kB_ (g := gb266) (o := .cells #[.int .i64 a0_0, .slice A0_1 l0_1.length c0_1] 30 (0, 0)) (by (with_reducible repeat (first | refine kN_ ?_ _ | refine kD_ ?_ | refine kA_ ?_ _)); exact BK266.out) hb)
       have n2_ := Az_.mk (kB_ (g := gb267) (o := .cells #[.int .i64 a1_0, .slice A1_1 l1_1.length c1_1] 30 (0, 0)) (by (with_reducible repeat (first | refine kN_ ?_ _ | refine kD_ ?_ | refine kA_ ?_ _)); exact BK267.out) hb)
       have n3_ := Az_.mk (bT_ (by repeat (first | (with_reducible first | exact HB.out | apply bA_ | apply bN_ | apply bD_ | refine bS_ ?_ GE266.out | refine bS_ ?_ GE267.out) | exact HB.out)) hb)
       clear BK266
       clear BK267
       clear HB
       have HO276 := n0_
       have BK266 := n1_
       have BK267 := n2_
       have HB := n3_
       clear n0_ n1_ n2_ n3_
       clear hb ho61
       obtain ⟨Ao62, co62, eo62⟩ := Kd.R_slice HO276.out
       (first | subst eo62 | (injection eo62 with f1_ f2_ f3_; have f4_ := f1_.symm; have f5_ := f3_.symm; clear f1_ f2_ f3_; subst f4_; subst f5_))
       refine hK.out _ _ ⟨(yaa_ BK266.out 0).trans rfl, (yaa_ BK266.out 1).trans rfl, (yaa_ BK267.out 0).trans rfl, (yaa_ BK267.out 1).trans rfl⟩ (fun hHeld => ?_)
       clear hK K
       refine norm_ (a' := ?_) ?_ ?_
       rotate_left
       ·show Act.put _ (some 42) _ = _
        simp only [Act.put, sA_, sZ_, sS_, i64_w, i32_w]
        rfl
       refine one_ (i := 13) (N := some 43) #[true, true, true, true, true, true, true, true, true, true, true, true, true, true, false] rfl rfl (one_of HT_.out (by kernel_rfl)) (by decide) (fun K hK => ?_)
       refine goes_ Try.func77 (by kernel_rfl) rfl #[.slice Ao62 y274.length co62] (by rfl) rfl rfl (by (try simp only [List.map_toArray, List.map_cons, List.map_nil]); first | done | rfl | (simp only [List.length_drop, List.length_take]; rfl)) ?_
       with_reducible refine (cmp_Or_int.calls kj8 _ _ y274 t277 _ ?side1 ?side2 A28.out).mono ?_
       (case side1 => repeat (first | exact (Kd.R_reads' HO276.out).2.2 | (with_reducible refine Kd.C_alloc ?_ _) | (with_reducible refine Kd.C_drewN ?_ _) | (with_reducible refine Kd.C_drew ?_)))
       (case side2 => exact (Kd.R_reads' HO276.out).2.1)
       rintro e w' ⟨rfl, ⟨nd, rfl⟩⟩
       refine ⟨_, rfl, ?_⟩
       refine hK.out _ _ ⟨(yaa_ BK266.out 0).trans rfl, (yaa_ BK266.out 1).trans rfl, (yaa_ BK267.out 0).trans rfl, (yaa_ BK267.out 1).trans rfl⟩ (fun hHeld => ?_)
       clear hK K
       refine norm_ (a' := ?_) ?_ ?_
       rotate_left
       ·show Act.put _ (some 43) _ = _
        simp only [Act.put, sA_, sZ_, sS_, i64_w, i32_w]
        rfl
       refine pure_ (i := 14) (N := some 6) (v := ?_) (a' := ?_) #[true, true, true, true, true, true, true, true, true, true, true, true, true, true, true] rfl rfl (any_of HT_.out (by kernel_rfl)) (fun _ _ _ h => h) (Or.inl ⟨by rfl, ?_⟩) ?_ ?_
       rotate_left
       ·intro w'
        go_simp
        with_reducible rfl
       rotate_left
       ·simp only [Act.put, sA_, sZ_, sS_, i64_w, i32_w]
        rfl
       refine done_ (done_of HT_.out (by kernel_rfl)) ?_
       try go_wp2
       go_ret
       exact ⟨by first | rfl | (simp [yag_, yaf_] <;> rfl) | (simp [*, yag_, yaf_] <;> rfl), by repeat (first | (with_reducible first | exact HB.out | apply bA_ | apply bN_ | apply bD_ | refine bS_ ?_ GE266.out | refine bS_ ?_ GE267.out) | exact HB.out)⟩
  ·rw [if_neg c8] at H
   have c8b0 : (t271 == 0) = false := beq_eq_false_iff_ne.mpr c8
   have c8b1 : (t271 != 0) = true := bne_iff_ne.mpr c8
   obtain rfl := Option.some.inj H
   go_enter Try.func41, Try.ntmps41
   try go_wp2_with (first | ((with_reducible refine yak_ (N := 2) rfl ?_); refine yaj_ ?hg (N := 2) ?hd (cs := #[.int .i64 a0_0, .slice A0_1 l0_1.length c0_1]) (t := 30) ?hr ?_; (case hd => rfl); (case hg => rfl); (case hr => first | (go_simp; done) | (go_simp; rfl)); intro gb266 hg w63 hbox hb; have n0_ := Az_.mk (bT_ (by repeat (first | (with_reducible first | exact HB.out | apply bA_ | apply bN_ | apply bD_) | exact HB.out)) hb); have n1_ := Az_.mk (hbox); have n2_ := Az_.mk ((by rw [hg]; exact (bZ_ (by repeat (first | (with_reducible first | exact HB.out | apply bA_ | apply bN_ | apply bD_) | exact HB.out))) : w.heap.size ≤ gb266)); have n3_ := Az_.mk ((by rw [hg]; exact (bZ_ (by repeat (first | (with_reducible first | exact HB.out | apply bA_ | apply bN_ | apply bD_) | exact HB.out))) : w.heap.size ≤ gb266)); clear HB; have HB := n0_; have BK266 := n1_; have GW266 := n2_; have GE266 := n3_; clear n0_ n1_ n2_ n3_; clear hb hbox hg) | ((with_reducible refine yak_ (N := 3) rfl ?_); refine yaj_ ?hg (N := 3) ?hd (cs := #[.int .i64 a1_0, .slice A1_1 l1_1.length c1_1]) (t := 30) ?hr ?_; (case hd => rfl); (case hg => rfl); (case hr => first | (go_simp; done) | (go_simp; rfl)); intro gb267 hg w64 hbox hb; have n0_ := Az_.mk (kB_ (g := gb266) (o := .cells #[.int .i64 a0_0, .slice A0_1 l0_1.length c0_1] 30 (0, 0)) (by (with_reducible repeat (first | refine kN_ ?_ _ | refine kD_ ?_ | refine kA_ ?_ _)); exact BK266.out) hb); have n1_ := Az_.mk (bT_ (by repeat (first | (with_reducible first | exact HB.out | apply bA_ | apply bN_ | apply bD_ | refine bS_ ?_ GE266.out) | exact HB.out)) hb); have n2_ := Az_.mk (hbox); have n3_ := Az_.mk ((by rw [hg]; exact (bZ_ (by repeat (first | (with_reducible first | exact HB.out | apply bA_ | apply bN_ | apply bD_ | refine bS_ ?_ GE266.out) | exact HB.out))) : w.heap.size ≤ gb267)); have n4_ := Az_.mk ((by rw [hg]; exact (bZ_ (by repeat (first | (with_reducible first | exact HB.out | apply bA_ | apply bN_ | apply bD_ | refine bS_ ?_ GE266.out) | exact HB.out))) : w.heap.size ≤ gb267)); have n5_ := Az_.mk ((by rw [hg]; exact Nat.ne_of_lt (blk_lt (g := gb266) (o := .cells #[.int .i64 a0_0, .slice A0_1 l0_1.length c0_1] 30 (0, 0)) (by (with_reducible repeat (first | refine kN_ ?_ _ | refine kD_ ?_ | refine kA_ ?_ _)); exact BK266.out)) : gb266 ≠ gb267)); have n6_ := Az_.mk ((by rw [hg]; exact Nat.ne_of_gt (blk_lt (g := gb266) (o := .cells #[.int .i64 a0_0, .slice A0_1 l0_1.length c0_1] 30 (0, 0)) (by (with_reducible repeat (first | refine kN_ ?_ _ | refine kD_ ?_ | refine kA_ ?_ _)); exact BK266.out)) : gb267 ≠ gb266)); clear BK266; clear HB; have BK266 := n0_; have HB := n1_; have BK267 := n2_; have GW267 := n3_; have GE267 := n4_; have NB266_267 := n5_; have NB267_266 := n6_; clear n0_ n1_ n2_ n3_ n4_ n5_ n6_; clear hb hbox hg; have hnb65 := NB266_267.out; have hnc65 := NB267_266.out; have hcz66_0 : w64.cell? ⟨gb266, 0, none⟩ = some (.int .i64 a0_0) := (yaa_ BK266.out 0).trans rfl; have hcz66_1 : w64.cell? ⟨gb266, 1, none⟩ = some (.slice A0_1 l0_1.length c0_1) := (yaa_ BK266.out 1).trans rfl; have hfz66_0 := yab_ BK266.out 0; have hfz66_1 := yab_ BK266.out 1; have hcz67_0 : w64.cell? ⟨gb267, 0, none⟩ = some (.int .i64 a1_0) := (yaa_ BK267.out 0).trans rfl; have hcz67_1 : w64.cell? ⟨gb267, 1, none⟩ = some (.slice A1_1 l1_1.length c1_1) := (yaa_ BK267.out 1).trans rfl; have hfz67_0 := yab_ BK267.out 0; have hfz67_1 := yab_ BK267.out 1) | ((with_reducible refine yah_ (f := 45) rfl ?_); refine goesL_ (some 11) rfl rfl Try.func45 (by kernel_rfl) rfl #[.agg #[.int .i64 a0_0, .slice A0_1 l0_1.length c0_1], .agg #[.int .i64 a1_0, .slice A1_1 l1_1.length c1_1]] rfl (by (try simp only [List.map_toArray, List.map_cons, List.map_nil]); first | done | rfl | (simp only [List.length_drop, List.length_take]; rfl)) ?_; (with_reducible refine (kbo_Covers.calls a0_0 _ _ l0_1 a1_0 _ _ l1_1 true _ ?side1 ?side2 ?side3 ?side4 A3.out).mono ?_); (case side1 => repeat (first | exact (Kd.C_below HR0_1.out HB.out) | (with_reducible refine Kd.C_alloc ?_ _) | (with_reducible refine Kd.C_drewN ?_ _) | (with_reducible refine Kd.C_drew ?_))); (case side2 => exact HC0_1.out); (case side3 => repeat (first | exact (Kd.C_below HR1_1.out HB.out) | (with_reducible refine Kd.C_alloc ?_ _) | (with_reducible refine Kd.C_drewN ?_ _) | (with_reducible refine Kd.C_drew ?_))); (case side4 => exact HC1_1.out); rintro e w68 ⟨rfl, hb⟩; refine ⟨_, rfl, ?_⟩; have n0_ := Az_.mk (kB_ (g := gb266) (o := .cells #[.int .i64 a0_0, .slice A0_1 l0_1.length c0_1] 30 (0, 0)) (by (with_reducible repeat (first | refine kN_ ?_ _ | refine kD_ ?_ | refine kA_ ?_ _)); exact BK266.out) hb); have n1_ := Az_.mk (kB_ (g := gb267) (o := .cells #[.int .i64 a1_0, .slice A1_1 l1_1.length c1_1] 30 (0, 0)) (by (with_reducible repeat (first | refine kN_ ?_ _ | refine kD_ ?_ | refine kA_ ?_ _)); exact BK267.out) hb); have n2_ := Az_.mk (bT_ (by repeat (first | (with_reducible first | exact HB.out | apply bA_ | apply bN_ | apply bD_ | refine bS_ ?_ GE266.out | refine bS_ ?_ GE267.out) | exact HB.out)) hb); clear BK266; clear BK267; clear HB; have BK266 := n0_; have BK267 := n1_; have HB := n2_; clear n0_ n1_ n2_; (try clear hb); (try clear hb2); (try clear hk); (try clear hi)))
   have n0_ := Az_.mk (kD_ BK266.out)
   have n1_ := Az_.mk (kD_ BK267.out)
   have n2_ := Az_.mk (bD_ HB.out)
   clear BK266
   clear BK267
   clear HB
   have BK266 := n0_
   have BK267 := n1_
   have HB := n2_
   clear n0_ n1_ n2_
   refine start_ (n := 6) (S := fun w' => w'.cell? ⟨gb266, 0, none⟩ = some (.int .i64 a0_0) ∧ w'.cell? ⟨gb266, 1, none⟩ = some (.slice A0_1 l0_1.length c0_1) ∧ w'.cell? ⟨gb267, 0, none⟩ = some (.int .i64 a1_0) ∧ w'.cell? ⟨gb267, 1, none⟩ = some (.slice A1_1 l1_1.length c1_1)) (ds := []) #[false, false, false, false, false, false] (by kernel_rfl) rfl rfl ⟨(yaa_ BK266.out 0).trans rfl, (yaa_ BK266.out 1).trans rfl, (yaa_ BK267.out 0).trans rfl, (yaa_ BK267.out 1).trans rfl⟩ (fun hHeld => ?_)
   generalize w68.drew = w69 at BK266 BK267 HB hHeld ⊢
   refine take_ (i := 0) (N := some 13) (v := ?_) (a' := ?_) #[true, false, false, false, false, false] rfl rfl (by kernel_rfl) (fun _ _ _ h => h) (Or.inl ⟨by rfl, ?_⟩) hHeld ?_ ?_
   rotate_left
   ·rintro w' ⟨s0, s1, s2, s3⟩
    go_simp
    with_reducible rfl
   rotate_left
   ·simp only [Act.put, sA_, sZ_, sS_, i64_w, i32_w]
    rfl
   refine take_ (i := 2) (N := some 15) (v := ?_) (a' := ?_) #[true, false, true, false, false, false] rfl rfl (by kernel_rfl) (fun _ _ _ h => h) (Or.inl ⟨by rfl, ?_⟩) hHeld ?_ ?_
   rotate_left
   ·rintro w' ⟨s0, s1, s2, s3⟩
    go_simp
    with_reducible rfl
   rotate_left
   ·simp only [Act.put, sA_, sZ_, sS_, i64_w, i32_w]
    rfl
   refine one_ (i := 1) (N := some 14) #[true, true, true, false, false, false] rfl rfl (by kernel_rfl) (by decide) (fun K hK => ?_)
   refine goes_ Try.func34 (by kernel_rfl) rfl #[.agg #[.int .i64 a0_0, .slice A0_1 l0_1.length c0_1]] (by rfl) rfl rfl (by (try simp only [List.map_toArray, List.map_cons, List.map_nil]); first | done | rfl | (simp only [List.length_drop, List.length_take]; rfl)) ?_
   with_reducible refine (term_Size.calls a0_0 _ _ l0_1 t269 _ ?side1 ?side2 A5.out).mono ?_
   (case side1 => repeat (first | exact (Kd.C_below HR0_1.out HB.out) | (with_reducible refine Kd.C_alloc ?_ _) | (with_reducible refine Kd.C_drewN ?_ _) | (with_reducible refine Kd.C_drew ?_)))
   (case side2 => exact HC0_1.out)
   rintro e w70 ⟨rfl, hb⟩
   refine ⟨_, rfl, ?_⟩
   have n0_ := Az_.mk (kB_ (g := gb266) (o := .cells #[.int .i64 a0_0, .slice A0_1 l0_1.length c0_1] 30 (0, 0)) (by (with_reducible repeat (first | refine kN_ ?_ _ | refine kD_ ?_ | refine kA_ ?_ _)); exact BK266.out) hb)
   have n1_ := Az_.mk (kB_ (g := gb267) (o := .cells #[.int .i64 a1_0, .slice A1_1 l1_1.length c1_1] 30 (0, 0)) (by (with_reducible repeat (first | refine kN_ ?_ _ | refine kD_ ?_ | refine kA_ ?_ _)); exact BK267.out) hb)
   have n2_ := Az_.mk (bT_ (by repeat (first | (with_reducible first | exact HB.out | apply bA_ | apply bN_ | apply bD_ | refine bS_ ?_ GE266.out | refine bS_ ?_ GE267.out) | exact HB.out)) hb)
   clear BK266
   clear BK267
   clear HB
   have BK266 := n0_
   have BK267 := n1_
   have HB := n2_
   clear n0_ n1_ n2_
   (try clear hb)
   (try clear hb2)
   (try clear hk)
   (try clear hi)
   refine hK.out _ _ ⟨(yaa_ BK266.out 0).trans rfl, (yaa_ BK266.out 1).trans rfl, (yaa_ BK267.out 0).trans rfl, (yaa_ BK267.out 1).trans rfl⟩ (fun hHeld => ?_)
   clear hK K
   refine norm_ (a' := ?_) ?_ ?_
   rotate_left
   ·show Act.put _ (some 14) _ = _
    simp only [Act.put, sA_, sZ_, sS_, i64_w, i32_w]
    rfl
   refine one_ (i := 3) (N := some 16) #[true, true, true, true, false, false] rfl rfl (by kernel_rfl) (by decide) (fun K hK => ?_)
   refine goes_ Try.func34 (by kernel_rfl) rfl #[.agg #[.int .i64 a1_0, .slice A1_1 l1_1.length c1_1]] (by rfl) rfl rfl (by (try simp only [List.map_toArray, List.map_cons, List.map_nil]); first | done | rfl | (simp only [List.length_drop, List.length_take]; rfl)) ?_
   with_reducible refine (term_Size.calls a1_0 _ _ l1_1 t270 _ ?side1 ?side2 A6.out).mono ?_
   (case side1 => repeat (first | exact (Kd.C_below HR1_1.out HB.out) | (with_reducible refine Kd.C_alloc ?_ _) | (with_reducible refine Kd.C_drewN ?_ _) | (with_reducible refine Kd.C_drew ?_)))
   (case side2 => exact HC1_1.out)
   rintro e w71 ⟨rfl, hb⟩
   refine ⟨_, rfl, ?_⟩
   have n0_ := Az_.mk (kB_ (g := gb266) (o := .cells #[.int .i64 a0_0, .slice A0_1 l0_1.length c0_1] 30 (0, 0)) (by (with_reducible repeat (first | refine kN_ ?_ _ | refine kD_ ?_ | refine kA_ ?_ _)); exact BK266.out) hb)
   have n1_ := Az_.mk (kB_ (g := gb267) (o := .cells #[.int .i64 a1_0, .slice A1_1 l1_1.length c1_1] 30 (0, 0)) (by (with_reducible repeat (first | refine kN_ ?_ _ | refine kD_ ?_ | refine kA_ ?_ _)); exact BK267.out) hb)
   have n2_ := Az_.mk (bT_ (by repeat (first | (with_reducible first | exact HB.out | apply bA_ | apply bN_ | apply bD_ | refine bS_ ?_ GE266.out | refine bS_ ?_ GE267.out) | exact HB.out)) hb)
   clear BK266
   clear BK267
   clear HB
   have BK266 := n0_
   have BK267 := n1_
   have HB := n2_
   clear n0_ n1_ n2_
   (try clear hb)
   (try clear hb2)
   (try clear hk)
   (try clear hi)
   refine hK.out _ _ ⟨(yaa_ BK266.out 0).trans rfl, (yaa_ BK266.out 1).trans rfl, (yaa_ BK267.out 0).trans rfl, (yaa_ BK267.out 1).trans rfl⟩ (fun hHeld => ?_)
   clear hK K
   refine norm_ (a' := ?_) ?_ ?_
   rotate_left
   ·show Act.put _ (some 16) _ = _
    simp only [Act.put, sA_, sZ_, sS_, i64_w, i32_w]
    rfl
   refine one_ (i := 4) (N := some 17) #[true, true, true, true, true, false] rfl rfl (by kernel_rfl) (by decide) (fun K hK => ?_)
   refine goes_ Try.func76 (by kernel_rfl) rfl #[.int .i64 t269, .int .i64 t270] (by rfl) rfl rfl (by (try simp only [List.map_toArray, List.map_cons, List.map_nil]); first | done | rfl | (simp only [List.length_drop, List.length_take]; rfl)) ?_
   with_reducible refine (cmp_Compare_int.calls t269 t270 t271 _ A7.out).mono ?_
   rintro e w' ⟨rfl, ⟨nd, rfl⟩⟩
   refine ⟨_, rfl, ?_⟩
   refine hK.out _ _ ⟨(yaa_ BK266.out 0).trans rfl, (yaa_ BK266.out 1).trans rfl, (yaa_ BK267.out 0).trans rfl, (yaa_ BK267.out 1).trans rfl⟩ (fun hHeld => ?_)
   clear hK K
   refine norm_ (a' := ?_) ?_ ?_
   rotate_left
   ·show Act.put _ (some 17) _ = _
    simp only [Act.put, sA_, sZ_, sS_, i64_w, i32_w]
    rfl
   refine pure_ (i := 5) (N := some 5) (v := ?_) (a' := ?_) #[true, true, true, true, true, true] rfl rfl (by kernel_rfl) (fun _ _ _ h => h) (Or.inl ⟨by rfl, ?_⟩) ?_ ?_
   rotate_left
   ·intro w'
    go_simp
    with_reducible rfl
   rotate_left
   ·simp only [Act.put, sA_, sZ_, sS_, i64_w, i32_w]
    rfl
   refine done_ (by kernel_rfl) ?_
   try go_wp2
   go_ret
   exact ⟨by first | rfl | (simp [yag_, yaf_] <;> rfl) | (simp [*, yag_, yaf_] <;> rfl), by repeat (first | (with_reducible first | exact HB.out | apply bA_ | apply bN_ | apply bD_ | refine bS_ ?_ GE266.out | refine bS_ ?_ GE267.out) | exact HB.out)⟩
 ·replace c4 := Bool.eq_false_iff.mpr c4
  subst c4
  have H1 : (some false) = some r := by rw [if_neg (show ¬ (false = true) by decide)] at H; exact H
  clear H
  have H := H1
  clear H1
  obtain rfl := Option.some.inj H
  go_enter Try.func41, Try.ntmps41
  go_wp2_with (first | ((with_reducible refine yak_ (N := 2) rfl ?_); refine yaj_ ?hg (N := 2) ?hd (cs := #[.int .i64 a0_0, .slice A0_1 l0_1.length c0_1]) (t := 30) ?hr ?_; (case hd => rfl); (case hg => rfl); (case hr => first | (go_simp; done) | (go_simp; rfl)); intro gb266 hg w72 hbox hb; have n0_ := Az_.mk (bT_ (by repeat (first | (with_reducible first | exact HB.out | apply bA_ | apply bN_ | apply bD_) | exact HB.out)) hb); have n1_ := Az_.mk (hbox); have n2_ := Az_.mk ((by rw [hg]; exact (bZ_ (by repeat (first | (with_reducible first | exact HB.out | apply bA_ | apply bN_ | apply bD_) | exact HB.out))) : w.heap.size ≤ gb266)); have n3_ := Az_.mk ((by rw [hg]; exact (bZ_ (by repeat (first | (with_reducible first | exact HB.out | apply bA_ | apply bN_ | apply bD_) | exact HB.out))) : w.heap.size ≤ gb266)); clear HB; have HB := n0_; have BK266 := n1_; have GW266 := n2_; have GE266 := n3_; clear n0_ n1_ n2_ n3_; clear hb hbox hg) | ((with_reducible refine yak_ (N := 3) rfl ?_); refine yaj_ ?hg (N := 3) ?hd (cs := #[.int .i64 a1_0, .slice A1_1 l1_1.length c1_1]) (t := 30) ?hr ?_; (case hd => rfl); (case hg => rfl); (case hr => first | (go_simp; done) | (go_simp; rfl)); intro gb267 hg w73 hbox hb; have n0_ := Az_.mk (kB_ (g := gb266) (o := .cells #[.int .i64 a0_0, .slice A0_1 l0_1.length c0_1] 30 (0, 0)) (by (with_reducible repeat (first | refine kN_ ?_ _ | refine kD_ ?_ | refine kA_ ?_ _)); exact BK266.out) hb); have n1_ := Az_.mk (bT_ (by repeat (first | (with_reducible first | exact HB.out | apply bA_ | apply bN_ | apply bD_ | refine bS_ ?_ GE266.out) | exact HB.out)) hb); have n2_ := Az_.mk (hbox); have n3_ := Az_.mk ((by rw [hg]; exact (bZ_ (by repeat (first | (with_reducible first | exact HB.out | apply bA_ | apply bN_ | apply bD_ | refine bS_ ?_ GE266.out) | exact HB.out))) : w.heap.size ≤ gb267)); have n4_ := Az_.mk ((by rw [hg]; exact (bZ_ (by repeat (first | (with_reducible first | exact HB.out | apply bA_ | apply bN_ | apply bD_ | refine bS_ ?_ GE266.out) | exact HB.out))) : w.heap.size ≤ gb267)); have n5_ := Az_.mk ((by rw [hg]; exact Nat.ne_of_lt (blk_lt (g := gb266) (o := .cells #[.int .i64 a0_0, .slice A0_1 l0_1.length c0_1] 30 (0, 0)) (by (with_reducible repeat (first | refine kN_ ?_ _ | refine kD_ ?_ | refine kA_ ?_ _)); exact BK266.out)) : gb266 ≠ gb267)); have n6_ := Az_.mk ((by rw [hg]; exact Nat.ne_of_gt (blk_lt (g := gb266) (o := .cells #[.int .i64 a0_0, .slice A0_1 l0_1.length c0_1] 30 (0, 0)) (by (with_reducible repeat (first | refine kN_ ?_ _ | refine kD_ ?_ | refine kA_ ?_ _)); exact BK266.out)) : gb267 ≠ gb266)); clear BK266; clear HB; have BK266 := n0_; have HB := n1_; have BK267 := n2_; have GW267 := n3_; have GE267 := n4_; have NB266_267 := n5_; have NB267_266 := n6_; clear n0_ n1_ n2_ n3_ n4_ n5_ n6_; clear hb hbox hg; have hnb74 := NB266_267.out; have hnc74 := NB267_266.out; have hcz75_0 : w73.cell? ⟨gb266, 0, none⟩ = some (.int .i64 a0_0) := (yaa_ BK266.out 0).trans rfl; have hcz75_1 : w73.cell? ⟨gb266, 1, none⟩ = some (.slice A0_1 l0_1.length c0_1) := (yaa_ BK266.out 1).trans rfl; have hfz75_0 := yab_ BK266.out 0; have hfz75_1 := yab_ BK266.out 1; have hcz76_0 : w73.cell? ⟨gb267, 0, none⟩ = some (.int .i64 a1_0) := (yaa_ BK267.out 0).trans rfl; have hcz76_1 : w73.cell? ⟨gb267, 1, none⟩ = some (.slice A1_1 l1_1.length c1_1) := (yaa_ BK267.out 1).trans rfl; have hfz76_0 := yab_ BK267.out 0; have hfz76_1 := yab_ BK267.out 1) | ((with_reducible refine yah_ (f := 45) rfl ?_); refine goesL_ (some 11) rfl rfl Try.func45 (by kernel_rfl) rfl #[.agg #[.int .i64 a0_0, .slice A0_1 l0_1.length c0_1], .agg #[.int .i64 a1_0, .slice A1_1 l1_1.length c1_1]] rfl (by (try simp only [List.map_toArray, List.map_cons, List.map_nil]); first | done | rfl | (simp only [List.length_drop, List.length_take]; rfl)) ?_; (with_reducible refine (kbo_Covers.calls a0_0 _ _ l0_1 a1_0 _ _ l1_1 false _ ?side1 ?side2 ?side3 ?side4 A3.out).mono ?_); (case side1 => repeat (first | exact (Kd.C_below HR0_1.out HB.out) | (with_reducible refine Kd.C_alloc ?_ _) | (with_reducible refine Kd.C_drewN ?_ _) | (with_reducible refine Kd.C_drew ?_))); (case side2 => exact HC0_1.out); (case side3 => repeat (first | exact (Kd.C_below HR1_1.out HB.out) | (with_reducible refine Kd.C_alloc ?_ _) | (with_reducible refine Kd.C_drewN ?_ _) | (with_reducible refine Kd.C_drew ?_))); (case side4 => exact HC1_1.out); rintro e w77 ⟨rfl, hb⟩; refine ⟨_, rfl, ?_⟩; have n0_ := Az_.mk (kB_ (g := gb266) (o := .cells #[.int .i64 a0_0, .slice A0_1 l0_1.length c0_1] 30 (0, 0)) (by (with_reducible repeat (first | refine kN_ ?_ _ | refine kD_ ?_ | refine kA_ ?_ _)); exact BK266.out) hb); have n1_ := Az_.mk (kB_ (g := gb267) (o := .cells #[.int .i64 a1_0, .slice A1_1 l1_1.length c1_1] 30 (0, 0)) (by (with_reducible repeat (first | refine kN_ ?_ _ | refine kD_ ?_ | refine kA_ ?_ _)); exact BK267.out) hb); have n2_ := Az_.mk (bT_ (by repeat (first | (with_reducible first | exact HB.out | apply bA_ | apply bN_ | apply bD_ | refine bS_ ?_ GE266.out | refine bS_ ?_ GE267.out) | exact HB.out)) hb); clear BK266; clear BK267; clear HB; have BK266 := n0_; have BK267 := n1_; have HB := n2_; clear n0_ n1_ n2_; (try clear hb); (try clear hb2); (try clear hk); (try clear hi)))
  go_ret
  exact ⟨by first | rfl | (simp [yag_, yaf_] <;> rfl) | (simp [*, yag_, yaf_] <;> rfl), by repeat (first | (with_reducible first | exact HB.out | apply bA_ | apply bN_ | apply bD_ | refine bS_ ?_ GE266.out | refine bS_ ?_ GE267.out) | exact HB.out)⟩
end
section
attribute [local go_sem] max2_int min2_int max_two min_two max_three min_three max_four min_four
def kbo_Compare.f (k : Nat) (a0_0 : Int) (l0_1 : List (S30)) (a1_0 : Int) (l1_1 : List (S30)) : Option (Int) := (term_Same.f a0_0 l0_1 a1_0 l1_1).bind fun t286 => (if t286 = true then (some 0) else ((kbo_Greater.f k a0_0 l0_1 a1_0 l1_1).bind fun t287 => (if t287 = true then (some 1) else ((kbo_Greater.f k a1_0 l1_1 a0_0 l0_1).bind fun t288 => (if t288 = true then (some (-1)) else (some 2))))))
set_option maxHeartbeats 8000000 in
set_option maxRecDepth 100000 in
theorem kbo_Compare.calls (k : Nat) (a0_0 : Int) (A0_1 : Option Addr) (c0_1 : Nat) (l0_1 : List (S30)) (a1_0 : Int) (A1_1 : Option Addr) (c1_1 : Nat) (l1_1 : List (S30)) (r : Int) (w : World) (hr0_1 : Kd.C k30 w A0_1 l0_1.length l0_1) (hc0_1 : l0_1.length ≤ c0_1) (hr1_1 : Kd.C k30 w A1_1 l1_1.length l1_1) (hc1_1 : l1_1.length ≤ c1_1) (h : kbo_Compare.f k a0_0 l0_1 a1_0 l1_1 = some r) :
  Calls Try.prog 43 #[.agg #[.int .i64 a0_0, .slice A0_1 l0_1.length c0_1], .agg #[.int .i64 a1_0, .slice A1_1 l1_1.length c1_1]] w fun e w' => e = .returned (.int .i64 r) ∧ Below w.heap.size w w' := by
 have hu30 := Try.underlying30
 have HR0_1 := Az_.mk hr0_1
 have HC0_1 := Az_.mk hc0_1
 clear hr0_1 hc0_1
 have HR1_1 := Az_.mk hr1_1
 have HC1_1 := Az_.mk hc1_1
 clear hr1_1 hc1_1
 have HB := Az_.mk (Below.refl w.heap.size w)
 have H : ((term_Same.f a0_0 l0_1 a1_0 l1_1).bind fun t286 => (if t286 = true then (some 0) else ((kbo_Greater.f k a0_0 l0_1 a1_0 l1_1).bind fun t287 => (if t287 = true then (some 1) else ((kbo_Greater.f k a1_0 l1_1 a0_0 l0_1).bind fun t288 => (if t288 = true then (some (-1)) else (some 2))))))) = some r := h
 clear h
 replace H := Option.bind_eq_some_iff.mp H
 obtain ⟨t286, A30, H⟩ := H
 replace H : (if t286 = true then (some 0) else ((kbo_Greater.f k a0_0 l0_1 a1_0 l1_1).bind fun t287 => (if t287 = true then (some 1) else ((kbo_Greater.f k a1_0 l1_1 a0_0 l0_1).bind fun t288 => (if t288 = true then (some (-1)) else (some 2)))))) = some r := H
 have A3 := Az_.mk A30
 clear A30
 by_cases c4 : t286 = true
 ·subst c4
  have H1 : (some 0) = some r := by rw [if_pos rfl] at H; exact H
  clear H
  have H := H1
  clear H1
  obtain rfl := Option.some.inj H
  go_enter Try.func43, Try.ntmps43
  go_wp2_with (first | ((with_reducible refine yak_ (N := 2) rfl ?_); refine yaj_ ?hg (N := 2) ?hd (cs := #[.int .i64 a0_0, .slice A0_1 l0_1.length c0_1]) (t := 30) ?hr ?_; (case hd => rfl); (case hg => rfl); (case hr => first | (go_simp; done) | (go_simp; rfl)); intro gb284 hg w5 hbox hb; have n0_ := Az_.mk (bT_ (by repeat (first | (with_reducible first | exact HB.out | apply bA_ | apply bN_ | apply bD_) | exact HB.out)) hb); have n1_ := Az_.mk (hbox); have n2_ := Az_.mk ((by rw [hg]; exact (bZ_ (by repeat (first | (with_reducible first | exact HB.out | apply bA_ | apply bN_ | apply bD_) | exact HB.out))) : w.heap.size ≤ gb284)); have n3_ := Az_.mk ((by rw [hg]; exact (bZ_ (by repeat (first | (with_reducible first | exact HB.out | apply bA_ | apply bN_ | apply bD_) | exact HB.out))) : w.heap.size ≤ gb284)); clear HB; have HB := n0_; have BK284 := n1_; have GW284 := n2_; have GE284 := n3_; clear n0_ n1_ n2_ n3_; clear hb hbox hg) | ((with_reducible refine yak_ (N := 3) rfl ?_); refine yaj_ ?hg (N := 3) ?hd (cs := #[.int .i64 a1_0, .slice A1_1 l1_1.length c1_1]) (t := 30) ?hr ?_; (case hd => rfl); (case hg => rfl); (case hr => first | (go_simp; done) | (go_simp; rfl)); intro gb285 hg w6 hbox hb; have n0_ := Az_.mk (kB_ (g := gb284) (o := .cells #[.int .i64 a0_0, .slice A0_1 l0_1.length c0_1] 30 (0, 0)) (by (with_reducible repeat (first | refine kN_ ?_ _ | refine kD_ ?_ | refine kA_ ?_ _)); exact BK284.out) hb); have n1_ := Az_.mk (bT_ (by repeat (first | (with_reducible first | exact HB.out | apply bA_ | apply bN_ | apply bD_ | refine bS_ ?_ GE284.out) | exact HB.out)) hb); have n2_ := Az_.mk (hbox); have n3_ := Az_.mk ((by rw [hg]; exact (bZ_ (by repeat (first | (with_reducible first | exact HB.out | apply bA_ | apply bN_ | apply bD_ | refine bS_ ?_ GE284.out) | exact HB.out))) : w.heap.size ≤ gb285)); have n4_ := Az_.mk ((by rw [hg]; exact (bZ_ (by repeat (first | (with_reducible first | exact HB.out | apply bA_ | apply bN_ | apply bD_ | refine bS_ ?_ GE284.out) | exact HB.out))) : w.heap.size ≤ gb285)); have n5_ := Az_.mk ((by rw [hg]; exact Nat.ne_of_lt (blk_lt (g := gb284) (o := .cells #[.int .i64 a0_0, .slice A0_1 l0_1.length c0_1] 30 (0, 0)) (by (with_reducible repeat (first | refine kN_ ?_ _ | refine kD_ ?_ | refine kA_ ?_ _)); exact BK284.out)) : gb284 ≠ gb285)); have n6_ := Az_.mk ((by rw [hg]; exact Nat.ne_of_gt (blk_lt (g := gb284) (o := .cells #[.int .i64 a0_0, .slice A0_1 l0_1.length c0_1] 30 (0, 0)) (by (with_reducible repeat (first | refine kN_ ?_ _ | refine kD_ ?_ | refine kA_ ?_ _)); exact BK284.out)) : gb285 ≠ gb284)); clear BK284; clear HB; have BK284 := n0_; have HB := n1_; have BK285 := n2_; have GW285 := n3_; have GE285 := n4_; have NB284_285 := n5_; have NB285_284 := n6_; clear n0_ n1_ n2_ n3_ n4_ n5_ n6_; clear hb hbox hg; have hnb7 := NB284_285.out; have hnc7 := NB285_284.out; have hcz8_0 : w6.cell? ⟨gb284, 0, none⟩ = some (.int .i64 a0_0) := (yaa_ BK284.out 0).trans rfl; have hcz8_1 : w6.cell? ⟨gb284, 1, none⟩ = some (.slice A0_1 l0_1.length c0_1) := (yaa_ BK284.out 1).trans rfl; have hfz8_0 := yab_ BK284.out 0; have hfz8_1 := yab_ BK284.out 1; have hcz9_0 : w6.cell? ⟨gb285, 0, none⟩ = some (.int .i64 a1_0) := (yaa_ BK285.out 0).trans rfl; have hcz9_1 : w6.cell? ⟨gb285, 1, none⟩ = some (.slice A1_1 l1_1.length c1_1) := (yaa_ BK285.out 1).trans rfl; have hfz9_0 := yab_ BK285.out 0; have hfz9_1 := yab_ BK285.out 1) | ((with_reducible refine yah_ (f := 37) rfl ?_); refine goesL_ (some 8) rfl rfl Try.func37 (by kernel_rfl) rfl #[.agg #[.int .i64 a0_0, .slice A0_1 l0_1.length c0_1], .agg #[.int .i64 a1_0, .slice A1_1 l1_1.length c1_1]] rfl (by (try simp only [List.map_toArray, List.map_cons, List.map_nil]); first | done | rfl | (simp only [List.length_drop, List.length_take]; rfl)) ?_; (with_reducible refine (term_Same.calls a0_0 _ _ l0_1 a1_0 _ _ l1_1 true _ ?side1 ?side2 ?side3 ?side4 A3.out).mono ?_); (case side1 => repeat (first | exact (Kd.C_below HR0_1.out HB.out) | (with_reducible refine Kd.C_alloc ?_ _) | (with_reducible refine Kd.C_drewN ?_ _) | (with_reducible refine Kd.C_drew ?_))); (case side2 => exact HC0_1.out); (case side3 => repeat (first | exact (Kd.C_below HR1_1.out HB.out) | (with_reducible refine Kd.C_alloc ?_ _) | (with_reducible refine Kd.C_drewN ?_ _) | (with_reducible refine Kd.C_drew ?_))); (case side4 => exact HC1_1.out); rintro e w10 ⟨rfl, hb⟩; refine ⟨_, rfl, ?_⟩; have n0_ := Az_.mk (kB_ (g := gb284) (o := .cells #[.int .i64 a0_0, .slice A0_1 l0_1.length c0_1] 30 (0, 0)) (by (with_reducible repeat (first | refine kN_ ?_ _ | refine kD_ ?_ | refine kA_ ?_ _)); exact BK284.out) hb); have n1_ := Az_.mk (kB_ (g := gb285) (o := .cells #[.int .i64 a1_0, .slice A1_1 l1_1.length c1_1] 30 (0, 0)) (by (with_reducible repeat (first | refine kN_ ?_ _ | refine kD_ ?_ | refine kA_ ?_ _)); exact BK285.out) hb); have n2_ := Az_.mk (bT_ (by repeat (first | (with_reducible first | exact HB.out | apply bA_ | apply bN_ | apply bD_ | refine bS_ ?_ GE284.out | refine bS_ ?_ GE285.out) | exact HB.out)) hb); clear BK284; clear BK285; clear HB; have BK284 := n0_; have BK285 := n1_; have HB := n2_; clear n0_ n1_ n2_; (try clear hb); (try clear hb2); (try clear hk); (try clear hi)))
  go_ret
  exact ⟨by first | rfl | (simp [yag_, yaf_] <;> rfl) | (simp [*, yag_, yaf_] <;> rfl), by repeat (first | (with_reducible first | exact HB.out | apply bA_ | apply bN_ | apply bD_ | refine bS_ ?_ GE284.out | refine bS_ ?_ GE285.out) | exact HB.out)⟩
 ·replace c4 := Bool.eq_false_iff.mpr c4
  subst c4
  have H1 : ((kbo_Greater.f k a0_0 l0_1 a1_0 l1_1).bind fun t287 => (if t287 = true then (some 1) else ((kbo_Greater.f k a1_0 l1_1 a0_0 l0_1).bind fun t288 => (if t288 = true then (some (-1)) else (some 2))))) = some r := by rw [if_neg (show ¬ (false = true) by decide)] at H; exact H
  clear H
  have H := H1
  clear H1
  replace H := Option.bind_eq_some_iff.mp H
  obtain ⟨t287, A110, H⟩ := H
  replace H : (if t287 = true then (some 1) else ((kbo_Greater.f k a1_0 l1_1 a0_0 l0_1).bind fun t288 => (if t288 = true then (some (-1)) else (some 2)))) = some r := H
  have A11 := Az_.mk A110
  clear A110
  by_cases c12 : t287 = true
  ·subst c12
   have H1 : (some 1) = some r := by rw [if_pos rfl] at H; exact H
   clear H
   have H := H1
   clear H1
   obtain rfl := Option.some.inj H
   go_enter Try.func43, Try.ntmps43
   go_wp2_with (first | ((with_reducible refine yak_ (N := 2) rfl ?_); refine yaj_ ?hg (N := 2) ?hd (cs := #[.int .i64 a0_0, .slice A0_1 l0_1.length c0_1]) (t := 30) ?hr ?_; (case hd => rfl); (case hg => rfl); (case hr => first | (go_simp; done) | (go_simp; rfl)); intro gb284 hg w13 hbox hb; have n0_ := Az_.mk (bT_ (by repeat (first | (with_reducible first | exact HB.out | apply bA_ | apply bN_ | apply bD_) | exact HB.out)) hb); have n1_ := Az_.mk (hbox); have n2_ := Az_.mk ((by rw [hg]; exact (bZ_ (by repeat (first | (with_reducible first | exact HB.out | apply bA_ | apply bN_ | apply bD_) | exact HB.out))) : w.heap.size ≤ gb284)); have n3_ := Az_.mk ((by rw [hg]; exact (bZ_ (by repeat (first | (with_reducible first | exact HB.out | apply bA_ | apply bN_ | apply bD_) | exact HB.out))) : w.heap.size ≤ gb284)); clear HB; have HB := n0_; have BK284 := n1_; have GW284 := n2_; have GE284 := n3_; clear n0_ n1_ n2_ n3_; clear hb hbox hg) | ((with_reducible refine yak_ (N := 3) rfl ?_); refine yaj_ ?hg (N := 3) ?hd (cs := #[.int .i64 a1_0, .slice A1_1 l1_1.length c1_1]) (t := 30) ?hr ?_; (case hd => rfl); (case hg => rfl); (case hr => first | (go_simp; done) | (go_simp; rfl)); intro gb285 hg w14 hbox hb; have n0_ := Az_.mk (kB_ (g := gb284) (o := .cells #[.int .i64 a0_0, .slice A0_1 l0_1.length c0_1] 30 (0, 0)) (by (with_reducible repeat (first | refine kN_ ?_ _ | refine kD_ ?_ | refine kA_ ?_ _)); exact BK284.out) hb); have n1_ := Az_.mk (bT_ (by repeat (first | (with_reducible first | exact HB.out | apply bA_ | apply bN_ | apply bD_ | refine bS_ ?_ GE284.out) | exact HB.out)) hb); have n2_ := Az_.mk (hbox); have n3_ := Az_.mk ((by rw [hg]; exact (bZ_ (by repeat (first | (with_reducible first | exact HB.out | apply bA_ | apply bN_ | apply bD_ | refine bS_ ?_ GE284.out) | exact HB.out))) : w.heap.size ≤ gb285)); have n4_ := Az_.mk ((by rw [hg]; exact (bZ_ (by repeat (first | (with_reducible first | exact HB.out | apply bA_ | apply bN_ | apply bD_ | refine bS_ ?_ GE284.out) | exact HB.out))) : w.heap.size ≤ gb285)); have n5_ := Az_.mk ((by rw [hg]; exact Nat.ne_of_lt (blk_lt (g := gb284) (o := .cells #[.int .i64 a0_0, .slice A0_1 l0_1.length c0_1] 30 (0, 0)) (by (with_reducible repeat (first | refine kN_ ?_ _ | refine kD_ ?_ | refine kA_ ?_ _)); exact BK284.out)) : gb284 ≠ gb285)); have n6_ := Az_.mk ((by rw [hg]; exact Nat.ne_of_gt (blk_lt (g := gb284) (o := .cells #[.int .i64 a0_0, .slice A0_1 l0_1.length c0_1] 30 (0, 0)) (by (with_reducible repeat (first | refine kN_ ?_ _ | refine kD_ ?_ | refine kA_ ?_ _)); exact BK284.out)) : gb285 ≠ gb284)); clear BK284; clear HB; have BK284 := n0_; have HB := n1_; have BK285 := n2_; have GW285 := n3_; have GE285 := n4_; have NB284_285 := n5_; have NB285_284 := n6_; clear n0_ n1_ n2_ n3_ n4_ n5_ n6_; clear hb hbox hg; have hnb15 := NB284_285.out; have hnc15 := NB285_284.out; have hcz16_0 : w14.cell? ⟨gb284, 0, none⟩ = some (.int .i64 a0_0) := (yaa_ BK284.out 0).trans rfl; have hcz16_1 : w14.cell? ⟨gb284, 1, none⟩ = some (.slice A0_1 l0_1.length c0_1) := (yaa_ BK284.out 1).trans rfl; have hfz16_0 := yab_ BK284.out 0; have hfz16_1 := yab_ BK284.out 1; have hcz17_0 : w14.cell? ⟨gb285, 0, none⟩ = some (.int .i64 a1_0) := (yaa_ BK285.out 0).trans rfl; have hcz17_1 : w14.cell? ⟨gb285, 1, none⟩ = some (.slice A1_1 l1_1.length c1_1) := (yaa_ BK285.out 1).trans rfl; have hfz17_0 := yab_ BK285.out 0; have hfz17_1 := yab_ BK285.out 1) | ((with_reducible refine yah_ (f := 37) rfl ?_); refine goesL_ (some 8) rfl rfl Try.func37 (by kernel_rfl) rfl #[.agg #[.int .i64 a0_0, .slice A0_1 l0_1.length c0_1], .agg #[.int .i64 a1_0, .slice A1_1 l1_1.length c1_1]] rfl (by (try simp only [List.map_toArray, List.map_cons, List.map_nil]); first | done | rfl | (simp only [List.length_drop, List.length_take]; rfl)) ?_; (with_reducible refine (term_Same.calls a0_0 _ _ l0_1 a1_0 _ _ l1_1 false _ ?side1 ?side2 ?side3 ?side4 A3.out).mono ?_); (case side1 => repeat (first | exact (Kd.C_below HR0_1.out HB.out) | (with_reducible refine Kd.C_alloc ?_ _) | (with_reducible refine Kd.C_drewN ?_ _) | (with_reducible refine Kd.C_drew ?_))); (case side2 => exact HC0_1.out); (case side3 => repeat (first | exact (Kd.C_below HR1_1.out HB.out) | (with_reducible refine Kd.C_alloc ?_ _) | (with_reducible refine Kd.C_drewN ?_ _) | (with_reducible refine Kd.C_drew ?_))); (case side4 => exact HC1_1.out); rintro e w18 ⟨rfl, hb⟩; refine ⟨_, rfl, ?_⟩; have n0_ := Az_.mk (kB_ (g := gb284) (o := .cells #[.int .i64 a0_0, .slice A0_1 l0_1.length c0_1] 30 (0, 0)) (by (with_reducible repeat (first | refine kN_ ?_ _ | refine kD_ ?_ | refine kA_ ?_ _)); exact BK284.out) hb); have n1_ := Az_.mk (kB_ (g := gb285) (o := .cells #[.int .i64 a1_0, .slice A1_1 l1_1.length c1_1] 30 (0, 0)) (by (with_reducible repeat (first | refine kN_ ?_ _ | refine kD_ ?_ | refine kA_ ?_ _)); exact BK285.out) hb); have n2_ := Az_.mk (bT_ (by repeat (first | (with_reducible first | exact HB.out | apply bA_ | apply bN_ | apply bD_ | refine bS_ ?_ GE284.out | refine bS_ ?_ GE285.out) | exact HB.out)) hb); clear BK284; clear BK285; clear HB; have BK284 := n0_; have BK285 := n1_; have HB := n2_; clear n0_ n1_ n2_; (try clear hb); (try clear hb2); (try clear hk); (try clear hi); have hcz19_0 : w18.cell? ⟨gb284, 0, none⟩ = some (.int .i64 a0_0) := (yaa_ BK284.out 0).trans rfl; have hcz19_1 : w18.cell? ⟨gb284, 1, none⟩ = some (.slice A0_1 l0_1.length c0_1) := (yaa_ BK284.out 1).trans rfl; have hfz19_0 := yab_ BK284.out 0; have hfz19_1 := yab_ BK284.out 1; have hcz20_0 : w18.cell? ⟨gb285, 0, none⟩ = some (.int .i64 a1_0) := (yaa_ BK285.out 0).trans rfl; have hcz20_1 : w18.cell? ⟨gb285, 1, none⟩ = some (.slice A1_1 l1_1.length c1_1) := (yaa_ BK285.out 1).trans rfl; have hfz20_0 := yab_ BK285.out 0; have hfz20_1 := yab_ BK285.out 1) | ((with_reducible refine yah_ (f := 41) rfl ?_); refine goesL_ (some 12) rfl rfl Try.func41 (by kernel_rfl) rfl #[.agg #[.int .i64 a0_0, .slice A0_1 l0_1.length c0_1], .agg #[.int .i64 a1_0, .slice A1_1 l1_1.length c1_1]] rfl (by (try simp only [List.map_toArray, List.map_cons, List.map_nil]); first | done | rfl | (simp only [List.length_drop, List.length_take]; rfl)) ?_; (with_reducible refine (kbo_Greater.calls k a0_0 _ _ l0_1 a1_0 _ _ l1_1 true _ ?side1 ?side2 ?side3 ?side4 A11.out).mono ?_); (case side1 => repeat (first | exact (Kd.C_below HR0_1.out HB.out) | (with_reducible refine Kd.C_alloc ?_ _) | (with_reducible refine Kd.C_drewN ?_ _) | (with_reducible refine Kd.C_drew ?_))); (case side2 => exact HC0_1.out); (case side3 => repeat (first | exact (Kd.C_below HR1_1.out HB.out) | (with_reducible refine Kd.C_alloc ?_ _) | (with_reducible refine Kd.C_drewN ?_ _) | (with_reducible refine Kd.C_drew ?_))); (case side4 => exact HC1_1.out); rintro e w21 ⟨rfl, hb⟩; refine ⟨_, rfl, ?_⟩; have n0_ := Az_.mk (kB_ (g := gb284) (o := .cells #[.int .i64 a0_0, .slice A0_1 l0_1.length c0_1] 30 (0, 0)) (by (with_reducible repeat (first | refine kN_ ?_ _ | refine kD_ ?_ | refine kA_ ?_ _)); exact BK284.out) hb); have n1_ := Az_.mk (kB_ (g := gb285) (o := .cells #[.int .i64 a1_0, .slice A1_1 l1_1.length c1_1] 30 (0, 0)) (by (with_reducible repeat (first | refine kN_ ?_ _ | refine kD_ ?_ | refine kA_ ?_ _)); exact BK285.out) hb); have n2_ := Az_.mk (bT_ (by repeat (first | (with_reducible first | exact HB.out | apply bA_ | apply bN_ | apply bD_ | refine bS_ ?_ GE284.out | refine bS_ ?_ GE285.out) | exact HB.out)) hb); clear BK284; clear BK285; clear HB; have BK284 := n0_; have BK285 := n1_; have HB := n2_; clear n0_ n1_ n2_; (try clear hb); (try clear hb2); (try clear hk); (try clear hi)))
   go_ret
   exact ⟨by first | rfl | (simp [yag_, yaf_] <;> rfl) | (simp [*, yag_, yaf_] <;> rfl), by repeat (first | (with_reducible first | exact HB.out | apply bA_ | apply bN_ | apply bD_ | refine bS_ ?_ GE284.out | refine bS_ ?_ GE285.out) | exact HB.out)⟩
  ·replace c12 := Bool.eq_false_iff.mpr c12
   subst c12
   have H1 : ((kbo_Greater.f k a1_0 l1_1 a0_0 l0_1).bind fun t288 => (if t288 = true then (some (-1)) else (some 2))) = some r := by rw [if_neg (show ¬ (false = true) by decide)] at H; exact H
   clear H
   have H := H1
   clear H1
   replace H := Option.bind_eq_some_iff.mp H
   obtain ⟨t288, A220, H⟩ := H
   replace H : (if t288 = true then (some (-1)) else (some 2)) = some r := H
   have A22 := Az_.mk A220
   clear A220
   by_cases c23 : t288 = true
   ·subst c23
    have H1 : (some (-1)) = some r := by rw [if_pos rfl] at H; exact H
    clear H
    have H := H1
    clear H1
    obtain rfl := Option.some.inj H
    go_enter Try.func43, Try.ntmps43
    go_wp2_with (first | ((with_reducible refine yak_ (N := 2) rfl ?_); refine yaj_ ?hg (N := 2) ?hd (cs := #[.int .i64 a0_0, .slice A0_1 l0_1.length c0_1]) (t := 30) ?hr ?_; (case hd => rfl); (case hg => rfl); (case hr => first | (go_simp; done) | (go_simp; rfl)); intro gb284 hg w24 hbox hb; have n0_ := Az_.mk (bT_ (by repeat (first | (with_reducible first | exact HB.out | apply bA_ | apply bN_ | apply bD_) | exact HB.out)) hb); have n1_ := Az_.mk (hbox); have n2_ := Az_.mk ((by rw [hg]; exact (bZ_ (by repeat (first | (with_reducible first | exact HB.out | apply bA_ | apply bN_ | apply bD_) | exact HB.out))) : w.heap.size ≤ gb284)); have n3_ := Az_.mk ((by rw [hg]; exact (bZ_ (by repeat (first | (with_reducible first | exact HB.out | apply bA_ | apply bN_ | apply bD_) | exact HB.out))) : w.heap.size ≤ gb284)); clear HB; have HB := n0_; have BK284 := n1_; have GW284 := n2_; have GE284 := n3_; clear n0_ n1_ n2_ n3_; clear hb hbox hg) | ((with_reducible refine yak_ (N := 3) rfl ?_); refine yaj_ ?hg (N := 3) ?hd (cs := #[.int .i64 a1_0, .slice A1_1 l1_1.length c1_1]) (t := 30) ?hr ?_; (case hd => rfl); (case hg => rfl); (case hr => first | (go_simp; done) | (go_simp; rfl)); intro gb285 hg w25 hbox hb; have n0_ := Az_.mk (kB_ (g := gb284) (o := .cells #[.int .i64 a0_0, .slice A0_1 l0_1.length c0_1] 30 (0, 0)) (by (with_reducible repeat (first | refine kN_ ?_ _ | refine kD_ ?_ | refine kA_ ?_ _)); exact BK284.out) hb); have n1_ := Az_.mk (bT_ (by repeat (first | (with_reducible first | exact HB.out | apply bA_ | apply bN_ | apply bD_ | refine bS_ ?_ GE284.out) | exact HB.out)) hb); have n2_ := Az_.mk (hbox); have n3_ := Az_.mk ((by rw [hg]; exact (bZ_ (by repeat (first | (with_reducible first | exact HB.out | apply bA_ | apply bN_ | apply bD_ | refine bS_ ?_ GE284.out) | exact HB.out))) : w.heap.size ≤ gb285)); have n4_ := Az_.mk ((by rw [hg]; exact (bZ_ (by repeat (first | (with_reducible first | exact HB.out | apply bA_ | apply bN_ | apply bD_ | refine bS_ ?_ GE284.out) | exact HB.out))) : w.heap.size ≤ gb285)); have n5_ := Az_.mk ((by rw [hg]; exact Nat.ne_of_lt (blk_lt (g := gb284) (o := .cells #[.int .i64 a0_0, .slice A0_1 l0_1.length c0_1] 30 (0, 0)) (by (with_reducible repeat (first | refine kN_ ?_ _ | refine kD_ ?_ | refine kA_ ?_ _)); exact BK284.out)) : gb284 ≠ gb285)); have n6_ := Az_.mk ((by rw [hg]; exact Nat.ne_of_gt (blk_lt (g := gb284) (o := .cells #[.int .i64 a0_0, .slice A0_1 l0_1.length c0_1] 30 (0, 0)) (by (with_reducible repeat (first | refine kN_ ?_ _ | refine kD_ ?_ | refine kA_ ?_ _)); exact BK284.out)) : gb285 ≠ gb284)); clear BK284; clear HB; have BK284 := n0_; have HB := n1_; have BK285 := n2_; have GW285 := n3_; have GE285 := n4_; have NB284_285 := n5_; have NB285_284 := n6_; clear n0_ n1_ n2_ n3_ n4_ n5_ n6_; clear hb hbox hg; have hnb26 := NB284_285.out; have hnc26 := NB285_284.out; have hcz27_0 : w25.cell? ⟨gb284, 0, none⟩ = some (.int .i64 a0_0) := (yaa_ BK284.out 0).trans rfl; have hcz27_1 : w25.cell? ⟨gb284, 1, none⟩ = some (.slice A0_1 l0_1.length c0_1) := (yaa_ BK284.out 1).trans rfl; have hfz27_0 := yab_ BK284.out 0; have hfz27_1 := yab_ BK284.out 1; have hcz28_0 : w25.cell? ⟨gb285, 0, none⟩ = some (.int .i64 a1_0) := (yaa_ BK285.out 0).trans rfl; have hcz28_1 : w25.cell? ⟨gb285, 1, none⟩ = some (.slice A1_1 l1_1.length c1_1) := (yaa_ BK285.out 1).trans rfl; have hfz28_0 := yab_ BK285.out 0; have hfz28_1 := yab_ BK285.out 1) | ((with_reducible refine yah_ (f := 37) rfl ?_); refine goesL_ (some 8) rfl rfl Try.func37 (by kernel_rfl) rfl #[.agg #[.int .i64 a0_0, .slice A0_1 l0_1.length c0_1], .agg #[.int .i64 a1_0, .slice A1_1 l1_1.length c1_1]] rfl (by (try simp only [List.map_toArray, List.map_cons, List.map_nil]); first | done | rfl | (simp only [List.length_drop, List.length_take]; rfl)) ?_; (with_reducible refine (term_Same.calls a0_0 _ _ l0_1 a1_0 _ _ l1_1 false _ ?side1 ?side2 ?side3 ?side4 A3.out).mono ?_); (case side1 => repeat (first | exact (Kd.C_below HR0_1.out HB.out) | (with_reducible refine Kd.C_alloc ?_ _) | (with_reducible refine Kd.C_drewN ?_ _) | (with_reducible refine Kd.C_drew ?_))); (case side2 => exact HC0_1.out); (case side3 => repeat (first | exact (Kd.C_below HR1_1.out HB.out) | (with_reducible refine Kd.C_alloc ?_ _) | (with_reducible refine Kd.C_drewN ?_ _) | (with_reducible refine Kd.C_drew ?_))); (case side4 => exact HC1_1.out); rintro e w29 ⟨rfl, hb⟩; refine ⟨_, rfl, ?_⟩; have n0_ := Az_.mk (kB_ (g := gb284) (o := .cells #[.int .i64 a0_0, .slice A0_1 l0_1.length c0_1] 30 (0, 0)) (by (with_reducible repeat (first | refine kN_ ?_ _ | refine kD_ ?_ | refine kA_ ?_ _)); exact BK284.out) hb); have n1_ := Az_.mk (kB_ (g := gb285) (o := .cells #[.int .i64 a1_0, .slice A1_1 l1_1.length c1_1] 30 (0, 0)) (by (with_reducible repeat (first | refine kN_ ?_ _ | refine kD_ ?_ | refine kA_ ?_ _)); exact BK285.out) hb); have n2_ := Az_.mk (bT_ (by repeat (first | (with_reducible first | exact HB.out | apply bA_ | apply bN_ | apply bD_ | refine bS_ ?_ GE284.out | refine bS_ ?_ GE285.out) | exact HB.out)) hb); clear BK284; clear BK285; clear HB; have BK284 := n0_; have BK285 := n1_; have HB := n2_; clear n0_ n1_ n2_; (try clear hb); (try clear hb2); (try clear hk); (try clear hi); have hcz30_0 : w29.cell? ⟨gb284, 0, none⟩ = some (.int .i64 a0_0) := (yaa_ BK284.out 0).trans rfl; have hcz30_1 : w29.cell? ⟨gb284, 1, none⟩ = some (.slice A0_1 l0_1.length c0_1) := (yaa_ BK284.out 1).trans rfl; have hfz30_0 := yab_ BK284.out 0; have hfz30_1 := yab_ BK284.out 1; have hcz31_0 : w29.cell? ⟨gb285, 0, none⟩ = some (.int .i64 a1_0) := (yaa_ BK285.out 0).trans rfl; have hcz31_1 : w29.cell? ⟨gb285, 1, none⟩ = some (.slice A1_1 l1_1.length c1_1) := (yaa_ BK285.out 1).trans rfl; have hfz31_0 := yab_ BK285.out 0; have hfz31_1 := yab_ BK285.out 1) | ((with_reducible refine yah_ (f := 41) rfl ?_); refine goesL_ (some 12) rfl rfl Try.func41 (by kernel_rfl) rfl #[.agg #[.int .i64 a0_0, .slice A0_1 l0_1.length c0_1], .agg #[.int .i64 a1_0, .slice A1_1 l1_1.length c1_1]] rfl (by (try simp only [List.map_toArray, List.map_cons, List.map_nil]); first | done | rfl | (simp only [List.length_drop, List.length_take]; rfl)) ?_; (with_reducible refine (kbo_Greater.calls k a0_0 _ _ l0_1 a1_0 _ _ l1_1 false _ ?side1 ?side2 ?side3 ?side4 A11.out).mono ?_); (case side1 => repeat (first | exact (Kd.C_below HR0_1.out HB.out) | (with_reducible refine Kd.C_alloc ?_ _) | (with_reducible refine Kd.C_drewN ?_ _) | (with_reducible refine Kd.C_drew ?_))); (case side2 => exact HC0_1.out); (case side3 => repeat (first | exact (Kd.C_below HR1_1.out HB.out) | (with_reducible refine Kd.C_alloc ?_ _) | (with_reducible refine Kd.C_drewN ?_ _) | (with_reducible refine Kd.C_drew ?_))); (case side4 => exact HC1_1.out); rintro e w32 ⟨rfl, hb⟩; refine ⟨_, rfl, ?_⟩; have n0_ := Az_.mk (kB_ (g := gb284) (o := .cells #[.int .i64 a0_0, .slice A0_1 l0_1.length c0_1] 30 (0, 0)) (by (with_reducible repeat (first | refine kN_ ?_ _ | refine kD_ ?_ | refine kA_ ?_ _)); exact BK284.out) hb); have n1_ := Az_.mk (kB_ (g := gb285) (o := .cells #[.int .i64 a1_0, .slice A1_1 l1_1.length c1_1] 30 (0, 0)) (by (with_reducible repeat (first | refine kN_ ?_ _ | refine kD_ ?_ | refine kA_ ?_ _)); exact BK285.out) hb); have n2_ := Az_.mk (bT_ (by repeat (first | (with_reducible first | exact HB.out | apply bA_ | apply bN_ | apply bD_ | refine bS_ ?_ GE284.out | refine bS_ ?_ GE285.out) | exact HB.out)) hb); clear BK284; clear BK285; clear HB; have BK284 := n0_; have BK285 := n1_; have HB := n2_; clear n0_ n1_ n2_; (try clear hb); (try clear hb2); (try clear hk); (try clear hi); have hcz33_0 : w32.cell? ⟨gb285, 0, none⟩ = some (.int .i64 a1_0) := (yaa_ BK285.out 0).trans rfl; have hcz33_1 : w32.cell? ⟨gb285, 1, none⟩ = some (.slice A1_1 l1_1.length c1_1) := (yaa_ BK285.out 1).trans rfl; have hfz33_0 := yab_ BK285.out 0; have hfz33_1 := yab_ BK285.out 1; have hcz34_0 : w32.cell? ⟨gb284, 0, none⟩ = some (.int .i64 a0_0) := (yaa_ BK284.out 0).trans rfl; have hcz34_1 : w32.cell? ⟨gb284, 1, none⟩ = some (.slice A0_1 l0_1.length c0_1) := (yaa_ BK284.out 1).trans rfl; have hfz34_0 := yab_ BK284.out 0; have hfz34_1 := yab_ BK284.out 1) | ((with_reducible refine yah_ (f := 41) rfl ?_); refine goesL_ (some 16) rfl rfl Try.func41 (by kernel_rfl) rfl #[.agg #[.int .i64 a1_0, .slice A1_1 l1_1.length c1_1], .agg #[.int .i64 a0_0, .slice A0_1 l0_1.length c0_1]] rfl (by (try simp only [List.map_toArray, List.map_cons, List.map_nil]); first | done | rfl | (simp only [List.length_drop, List.length_take]; rfl)) ?_; (with_reducible refine (kbo_Greater.calls k a1_0 _ _ l1_1 a0_0 _ _ l0_1 true _ ?side1 ?side2 ?side3 ?side4 A22.out).mono ?_); (case side1 => repeat (first | exact (Kd.C_below HR1_1.out HB.out) | (with_reducible refine Kd.C_alloc ?_ _) | (with_reducible refine Kd.C_drewN ?_ _) | (with_reducible refine Kd.C_drew ?_))); (case side2 => exact HC1_1.out); (case side3 => repeat (first | exact (Kd.C_below HR0_1.out HB.out) | (with_reducible refine Kd.C_alloc ?_ _) | (with_reducible refine Kd.C_drewN ?_ _) | (with_reducible refine Kd.C_drew ?_))); (case side4 => exact HC0_1.out); rintro e w35 ⟨rfl, hb⟩; refine ⟨_, rfl, ?_⟩; have n0_ := Az_.mk (kB_ (g := gb284) (o := .cells #[.int .i64 a0_0, .slice A0_1 l0_1.length c0_1] 30 (0, 0)) (by (with_reducible repeat (first | refine kN_ ?_ _ | refine kD_ ?_ | refine kA_ ?_ _)); exact BK284.out) hb); have n1_ := Az_.mk (kB_ (g := gb285) (o := .cells #[.int .i64 a1_0, .slice A1_1 l1_1.length c1_1] 30 (0, 0)) (by (with_reducible repeat (first | refine kN_ ?_ _ | refine kD_ ?_ | refine kA_ ?_ _)); exact BK285.out) hb); have n2_ := Az_.mk (bT_ (by repeat (first | (with_reducible first | exact HB.out | apply bA_ | apply bN_ | apply bD_ | refine bS_ ?_ GE284.out | refine bS_ ?_ GE285.out) | exact HB.out)) hb); clear BK284; clear BK285; clear HB; have BK284 := n0_; have BK285 := n1_; have HB := n2_; clear n0_ n1_ n2_; (try clear hb); (try clear hb2); (try clear hk); (try clear hi)))
    go_ret
    exact ⟨by first | rfl | (simp [yag_, yaf_] <;> rfl) | (simp [*, yag_, yaf_] <;> rfl), by repeat (first | (with_reducible first | exact HB.out | apply bA_ | apply bN_ | apply bD_ | refine bS_ ?_ GE284.out | refine bS_ ?_ GE285.out) | exact HB.out)⟩
   ·replace c23 := Bool.eq_false_iff.mpr c23
    subst c23
    have H1 : (some 2) = some r := by rw [if_neg (show ¬ (false = true) by decide)] at H; exact H
    clear H
    have H := H1
    clear H1
    obtain rfl := Option.some.inj H
    go_enter Try.func43, Try.ntmps43
    go_wp2_with (first | ((with_reducible refine yak_ (N := 2) rfl ?_); refine yaj_ ?hg (N := 2) ?hd (cs := #[.int .i64 a0_0, .slice A0_1 l0_1.length c0_1]) (t := 30) ?hr ?_; (case hd => rfl); (case hg => rfl); (case hr => first | (go_simp; done) | (go_simp; rfl)); intro gb284 hg w36 hbox hb; have n0_ := Az_.mk (bT_ (by repeat (first | (with_reducible first | exact HB.out | apply bA_ | apply bN_ | apply bD_) | exact HB.out)) hb); have n1_ := Az_.mk (hbox); have n2_ := Az_.mk ((by rw [hg]; exact (bZ_ (by repeat (first | (with_reducible first | exact HB.out | apply bA_ | apply bN_ | apply bD_) | exact HB.out))) : w.heap.size ≤ gb284)); have n3_ := Az_.mk ((by rw [hg]; exact (bZ_ (by repeat (first | (with_reducible first | exact HB.out | apply bA_ | apply bN_ | apply bD_) | exact HB.out))) : w.heap.size ≤ gb284)); clear HB; have HB := n0_; have BK284 := n1_; have GW284 := n2_; have GE284 := n3_; clear n0_ n1_ n2_ n3_; clear hb hbox hg) | ((with_reducible refine yak_ (N := 3) rfl ?_); refine yaj_ ?hg (N := 3) ?hd (cs := #[.int .i64 a1_0, .slice A1_1 l1_1.length c1_1]) (t := 30) ?hr ?_; (case hd => rfl); (case hg => rfl); (case hr => first | (go_simp; done) | (go_simp; rfl)); intro gb285 hg w37 hbox hb; have n0_ := Az_.mk (kB_ (g := gb284) (o := .cells #[.int .i64 a0_0, .slice A0_1 l0_1.length c0_1] 30 (0, 0)) (by (with_reducible repeat (first | refine kN_ ?_ _ | refine kD_ ?_ | refine kA_ ?_ _)); exact BK284.out) hb); have n1_ := Az_.mk (bT_ (by repeat (first | (with_reducible first | exact HB.out | apply bA_ | apply bN_ | apply bD_ | refine bS_ ?_ GE284.out) | exact HB.out)) hb); have n2_ := Az_.mk (hbox); have n3_ := Az_.mk ((by rw [hg]; exact (bZ_ (by repeat (first | (with_reducible first | exact HB.out | apply bA_ | apply bN_ | apply bD_ | refine bS_ ?_ GE284.out) | exact HB.out))) : w.heap.size ≤ gb285)); have n4_ := Az_.mk ((by rw [hg]; exact (bZ_ (by repeat (first | (with_reducible first | exact HB.out | apply bA_ | apply bN_ | apply bD_ | refine bS_ ?_ GE284.out) | exact HB.out))) : w.heap.size ≤ gb285)); have n5_ := Az_.mk ((by rw [hg]; exact Nat.ne_of_lt (blk_lt (g := gb284) (o := .cells #[.int .i64 a0_0, .slice A0_1 l0_1.length c0_1] 30 (0, 0)) (by (with_reducible repeat (first | refine kN_ ?_ _ | refine kD_ ?_ | refine kA_ ?_ _)); exact BK284.out)) : gb284 ≠ gb285)); have n6_ := Az_.mk ((by rw [hg]; exact Nat.ne_of_gt (blk_lt (g := gb284) (o := .cells #[.int .i64 a0_0, .slice A0_1 l0_1.length c0_1] 30 (0, 0)) (by (with_reducible repeat (first | refine kN_ ?_ _ | refine kD_ ?_ | refine kA_ ?_ _)); exact BK284.out)) : gb285 ≠ gb284)); clear BK284; clear HB; have BK284 := n0_; have HB := n1_; have BK285 := n2_; have GW285 := n3_; have GE285 := n4_; have NB284_285 := n5_; have NB285_284 := n6_; clear n0_ n1_ n2_ n3_ n4_ n5_ n6_; clear hb hbox hg; have hnb38 := NB284_285.out; have hnc38 := NB285_284.out; have hcz39_0 : w37.cell? ⟨gb284, 0, none⟩ = some (.int .i64 a0_0) := (yaa_ BK284.out 0).trans rfl; have hcz39_1 : w37.cell? ⟨gb284, 1, none⟩ = some (.slice A0_1 l0_1.length c0_1) := (yaa_ BK284.out 1).trans rfl; have hfz39_0 := yab_ BK284.out 0; have hfz39_1 := yab_ BK284.out 1; have hcz40_0 : w37.cell? ⟨gb285, 0, none⟩ = some (.int .i64 a1_0) := (yaa_ BK285.out 0).trans rfl; have hcz40_1 : w37.cell? ⟨gb285, 1, none⟩ = some (.slice A1_1 l1_1.length c1_1) := (yaa_ BK285.out 1).trans rfl; have hfz40_0 := yab_ BK285.out 0; have hfz40_1 := yab_ BK285.out 1) | ((with_reducible refine yah_ (f := 37) rfl ?_); refine goesL_ (some 8) rfl rfl Try.func37 (by kernel_rfl) rfl #[.agg #[.int .i64 a0_0, .slice A0_1 l0_1.length c0_1], .agg #[.int .i64 a1_0, .slice A1_1 l1_1.length c1_1]] rfl (by (try simp only [List.map_toArray, List.map_cons, List.map_nil]); first | done | rfl | (simp only [List.length_drop, List.length_take]; rfl)) ?_; (with_reducible refine (term_Same.calls a0_0 _ _ l0_1 a1_0 _ _ l1_1 false _ ?side1 ?side2 ?side3 ?side4 A3.out).mono ?_); (case side1 => repeat (first | exact (Kd.C_below HR0_1.out HB.out) | (with_reducible refine Kd.C_alloc ?_ _) | (with_reducible refine Kd.C_drewN ?_ _) | (with_reducible refine Kd.C_drew ?_))); (case side2 => exact HC0_1.out); (case side3 => repeat (first | exact (Kd.C_below HR1_1.out HB.out) | (with_reducible refine Kd.C_alloc ?_ _) | (with_reducible refine Kd.C_drewN ?_ _) | (with_reducible refine Kd.C_drew ?_))); (case side4 => exact HC1_1.out); rintro e w41 ⟨rfl, hb⟩; refine ⟨_, rfl, ?_⟩; have n0_ := Az_.mk (kB_ (g := gb284) (o := .cells #[.int .i64 a0_0, .slice A0_1 l0_1.length c0_1] 30 (0, 0)) (by (with_reducible repeat (first | refine kN_ ?_ _ | refine kD_ ?_ | refine kA_ ?_ _)); exact BK284.out) hb); have n1_ := Az_.mk (kB_ (g := gb285) (o := .cells #[.int .i64 a1_0, .slice A1_1 l1_1.length c1_1] 30 (0, 0)) (by (with_reducible repeat (first | refine kN_ ?_ _ | refine kD_ ?_ | refine kA_ ?_ _)); exact BK285.out) hb); have n2_ := Az_.mk (bT_ (by repeat (first | (with_reducible first | exact HB.out | apply bA_ | apply bN_ | apply bD_ | refine bS_ ?_ GE284.out | refine bS_ ?_ GE285.out) | exact HB.out)) hb); clear BK284; clear BK285; clear HB; have BK284 := n0_; have BK285 := n1_; have HB := n2_; clear n0_ n1_ n2_; (try clear hb); (try clear hb2); (try clear hk); (try clear hi); have hcz42_0 : w41.cell? ⟨gb284, 0, none⟩ = some (.int .i64 a0_0) := (yaa_ BK284.out 0).trans rfl; have hcz42_1 : w41.cell? ⟨gb284, 1, none⟩ = some (.slice A0_1 l0_1.length c0_1) := (yaa_ BK284.out 1).trans rfl; have hfz42_0 := yab_ BK284.out 0; have hfz42_1 := yab_ BK284.out 1; have hcz43_0 : w41.cell? ⟨gb285, 0, none⟩ = some (.int .i64 a1_0) := (yaa_ BK285.out 0).trans rfl; have hcz43_1 : w41.cell? ⟨gb285, 1, none⟩ = some (.slice A1_1 l1_1.length c1_1) := (yaa_ BK285.out 1).trans rfl; have hfz43_0 := yab_ BK285.out 0; have hfz43_1 := yab_ BK285.out 1) | ((with_reducible refine yah_ (f := 41) rfl ?_); refine goesL_ (some 12) rfl rfl Try.func41 (by kernel_rfl) rfl #[.agg #[.int .i64 a0_0, .slice A0_1 l0_1.length c0_1], .agg #[.int .i64 a1_0, .slice A1_1 l1_1.length c1_1]] rfl (by (try simp only [List.map_toArray, List.map_cons, List.map_nil]); first | done | rfl | (simp only [List.length_drop, List.length_take]; rfl)) ?_; (with_reducible refine (kbo_Greater.calls k a0_0 _ _ l0_1 a1_0 _ _ l1_1 false _ ?side1 ?side2 ?side3 ?side4 A11.out).mono ?_); (case side1 => repeat (first | exact (Kd.C_below HR0_1.out HB.out) | (with_reducible refine Kd.C_alloc ?_ _) | (with_reducible refine Kd.C_drewN ?_ _) | (with_reducible refine Kd.C_drew ?_))); (case side2 => exact HC0_1.out); (case side3 => repeat (first | exact (Kd.C_below HR1_1.out HB.out) | (with_reducible refine Kd.C_alloc ?_ _) | (with_reducible refine Kd.C_drewN ?_ _) | (with_reducible refine Kd.C_drew ?_))); (case side4 => exact HC1_1.out); rintro e w44 ⟨rfl, hb⟩; refine ⟨_, rfl, ?_⟩; have n0_ := Az_.mk (kB_ (g := gb284) (o := .cells #[.int .i64 a0_0, .slice A0_1 l0_1.length c0_1] 30 (0, 0)) (by (with_reducible repeat (first | refine kN_ ?_ _ | refine kD_ ?_ | refine kA_ ?_ _)); exact BK284.out) hb); have n1_ := Az_.mk (kB_ (g := gb285) (o := .cells #[.int .i64 a1_0, .slice A1_1 l1_1.length c1_1] 30 (0, 0)) (by (with_reducible repeat (first | refine kN_ ?_ _ | refine kD_ ?_ | refine kA_ ?_ _)); exact BK285.out) hb); have n2_ := Az_.mk (bT_ (by repeat (first | (with_reducible first | exact HB.out | apply bA_ | apply bN_ | apply bD_ | refine bS_ ?_ GE284.out | refine bS_ ?_ GE285.out) | exact HB.out)) hb); clear BK284; clear BK285; clear HB; have BK284 := n0_; have BK285 := n1_; have HB := n2_; clear n0_ n1_ n2_; (try clear hb); (try clear hb2); (try clear hk); (try clear hi); have hcz45_0 : w44.cell? ⟨gb285, 0, none⟩ = some (.int .i64 a1_0) := (yaa_ BK285.out 0).trans rfl; have hcz45_1 : w44.cell? ⟨gb285, 1, none⟩ = some (.slice A1_1 l1_1.length c1_1) := (yaa_ BK285.out 1).trans rfl; have hfz45_0 := yab_ BK285.out 0; have hfz45_1 := yab_ BK285.out 1; have hcz46_0 : w44.cell? ⟨gb284, 0, none⟩ = some (.int .i64 a0_0) := (yaa_ BK284.out 0).trans rfl; have hcz46_1 : w44.cell? ⟨gb284, 1, none⟩ = some (.slice A0_1 l0_1.length c0_1) := (yaa_ BK284.out 1).trans rfl; have hfz46_0 := yab_ BK284.out 0; have hfz46_1 := yab_ BK284.out 1) | ((with_reducible refine yah_ (f := 41) rfl ?_); refine goesL_ (some 16) rfl rfl Try.func41 (by kernel_rfl) rfl #[.agg #[.int .i64 a1_0, .slice A1_1 l1_1.length c1_1], .agg #[.int .i64 a0_0, .slice A0_1 l0_1.length c0_1]] rfl (by (try simp only [List.map_toArray, List.map_cons, List.map_nil]); first | done | rfl | (simp only [List.length_drop, List.length_take]; rfl)) ?_; (with_reducible refine (kbo_Greater.calls k a1_0 _ _ l1_1 a0_0 _ _ l0_1 false _ ?side1 ?side2 ?side3 ?side4 A22.out).mono ?_); (case side1 => repeat (first | exact (Kd.C_below HR1_1.out HB.out) | (with_reducible refine Kd.C_alloc ?_ _) | (with_reducible refine Kd.C_drewN ?_ _) | (with_reducible refine Kd.C_drew ?_))); (case side2 => exact HC1_1.out); (case side3 => repeat (first | exact (Kd.C_below HR0_1.out HB.out) | (with_reducible refine Kd.C_alloc ?_ _) | (with_reducible refine Kd.C_drewN ?_ _) | (with_reducible refine Kd.C_drew ?_))); (case side4 => exact HC0_1.out); rintro e w47 ⟨rfl, hb⟩; refine ⟨_, rfl, ?_⟩; have n0_ := Az_.mk (kB_ (g := gb284) (o := .cells #[.int .i64 a0_0, .slice A0_1 l0_1.length c0_1] 30 (0, 0)) (by (with_reducible repeat (first | refine kN_ ?_ _ | refine kD_ ?_ | refine kA_ ?_ _)); exact BK284.out) hb); have n1_ := Az_.mk (kB_ (g := gb285) (o := .cells #[.int .i64 a1_0, .slice A1_1 l1_1.length c1_1] 30 (0, 0)) (by (with_reducible repeat (first | refine kN_ ?_ _ | refine kD_ ?_ | refine kA_ ?_ _)); exact BK285.out) hb); have n2_ := Az_.mk (bT_ (by repeat (first | (with_reducible first | exact HB.out | apply bA_ | apply bN_ | apply bD_ | refine bS_ ?_ GE284.out | refine bS_ ?_ GE285.out) | exact HB.out)) hb); clear BK284; clear BK285; clear HB; have BK284 := n0_; have BK285 := n1_; have HB := n2_; clear n0_ n1_ n2_; (try clear hb); (try clear hb2); (try clear hk); (try clear hi)))
    go_ret
    exact ⟨by first | rfl | (simp [yag_, yaf_] <;> rfl) | (simp [*, yag_, yaf_] <;> rfl), by repeat (first | (with_reducible first | exact HB.out | apply bA_ | apply bN_ | apply bD_ | refine bS_ ?_ GE284.out | refine bS_ ?_ GE285.out) | exact HB.out)⟩
end
section
theorem rdi_at (l : List Int) (k : Nat) (h : k < l.length) : rd l (k : Int) = l[k] := by
 unfold rd
 simp [List.getD, List.getElem?_eq_getElem h]
theorem varsN_len (l : List S30) (o : List Int) : (l.foldl varN o).length ≤ o.length + l.length := by
 induction l generalizing o with
 | nil => simp
 | cons x l ih =>
  rw [List.foldl_cons, List.length_cons]
  have := ih (varN o x)
  have h2 : (varN o x).length ≤ o.length + 1 := by
   unfold varN
   split
   ·split
    ·omega
    ·simp
   ·omega
  omega
theorem RVars_loop (q : List S30) (hq : q.length ≤ 1000000) : ∀ n i, q.length - i = n → i ≤ q.length → ∀ o : List Int, o.length ≤ i → Ev (fun k => soritesref06_Vars.l0 k q o (i : Int)) ((q.drop i).foldl varN o) := by
 intro n
 induction n with
 | zero =>
  intro i hi hle o ho
  refine Ev.step (f := fun _ => some o) (fun k => by rw [soritesref06_Vars.l0, if_neg (by omega)]) ?_
  rw [List.drop_of_length_le (by omega)]; exact Ev.now _
 | succ n ihn =>
  intro i hi hle o ho
  have hlt : i < q.length := by omega
  rw [List.drop_eq_getElem_cons hlt, List.foldl_cons]
  by_cases hneg : q[i].f0 < 0
  ·
   obtain ⟨v, hv⟩ : ∃ v, v = wrap64 (-1 - q[i].f0) := ⟨_, rfl⟩
   have inner : ∀ m j, o.length - j = m → j ≤ o.length → ∀ b : Bool, b = decide (v ∈ o.take j) → Ev (fun k => soritesref06_Vars.l1 k q o (i : Int) v b (j : Int)) ((q.drop (i + 1)).foldl varN (varN o q[i])) := by
    intro m
    induction m with
    | zero =>
     intro j hj hjle b hb
     rw [List.take_of_length_le (by omega)] at hb
     have hvn : varN o q[i] = if b = true then o else o ++ [v] := by unfold varN; rw [if_pos hneg, ← hv, hb]
     cases b with
     | true =>
      refine Ev.step (f := fun k => soritesref06_Vars.l0 k q o ((i + 1 : Nat) : Int)) (fun k => by rw [soritesref06_Vars.l1, if_neg (by omega), if_pos rfl, wsucc i q.length hlt (by omega)]) ?_
      rw [hvn, if_pos rfl]
      exact ihn (i + 1) (by omega) (by omega) o (by omega)
     | false =>
      refine Ev.step (f := fun k => soritesref06_Vars.l0 k q (o ++ [v]) ((i + 1 : Nat) : Int)) (fun k => by rw [soritesref06_Vars.l1, if_neg (by omega), if_neg (by decide), if_pos (by omega), wsucc i q.length hlt (by omega)]) ?_
      rw [hvn, if_neg (by decide)]
      exact ihn (i + 1) (by omega) (by omega) _ (by simp; omega)
    | succ m ihm =>
     intro j hj hjle b hb
     have hjl : j < o.length := by omega
     have htk : o.take (j + 1) = o.take j ++ [o[j]] := List.take_succ_eq_append_getElem hjl
     cases b with
     | true =>
      refine Ev.step (f := fun k => soritesref06_Vars.l1 k q o (i : Int) v true ((j + 1 : Nat) : Int)) (fun k => by rw [soritesref06_Vars.l1, if_pos (by omega), if_pos rfl, wsucc j o.length hjl (by omega)]) ?_
      refine ihm (j + 1) (by omega) (by omega) true ?_
      have hmem : v ∈ o.take j := of_decide_eq_true hb.symm
      exact (decide_eq_true (by rw [htk]; exact List.mem_append_left _ hmem)).symm
     | false =>
      refine Ev.step (f := fun k => soritesref06_Vars.l1 k q o (i : Int) v (o[j] == v) ((j + 1 : Nat) : Int)) (fun k => by rw [soritesref06_Vars.l1, if_pos (by omega), if_neg (by decide), if_pos (by omega), rdi_at o j hjl, wsucc j o.length hjl (by omega)]) ?_
      refine ihm (j + 1) (by omega) (by omega) _ ?_
      have hmem : ¬ v ∈ o.take j := of_decide_eq_false hb.symm
      rw [htk, Bool.eq_iff_iff]
      simp only [beq_iff_eq, decide_eq_true_eq, List.mem_append, List.mem_singleton]
      exact ⟨fun e => .inr e.symm, fun h => h.elim (fun h => absurd h hmem) (fun e => e.symm)⟩
   refine Ev.step (f := fun k => soritesref06_Vars.l1 k q o (i : Int) v false 0) (fun k => by rw [soritesref06_Vars.l0, if_pos (by omega), if_pos (by omega), rd24_at q i hlt, if_neg (by omega), hv]) ?_
   exact inner o.length 0 (by omega) (by omega) false (by simp)
  ·refine Ev.step (f := fun k => soritesref06_Vars.l0 k q o ((i + 1 : Nat) : Int)) (fun k => by rw [soritesref06_Vars.l0, if_pos (by omega), if_pos (by omega), rd24_at q i hlt, if_pos (by omega), wsucc i q.length hlt (by omega)]) ?_
   have hvn : varN o q[i] = o := by unfold varN; rw [if_neg hneg]
   rw [hvn]
   exact ihn (i + 1) (by omega) (by omega) o (by omega)
theorem RVars_spec (t : S30) (h : fit t) : Ev (fun k => soritesref06_Vars.f k t.f0 t.f1) (varsN (nodes t)) := by
 unfold soritesref06_Vars.f
 refine Ev.bind (RFlat_spec t h) ?_
 have := RVars_loop (nodes t) h.1 _ 0 rfl (by omega) [] (by simp)
 simpa [varsN] using this
theorem Rcount_spec (t : S30) (h : fit t) (v : Int) (hv : -1000000 ≤ v ∧ v ≤ 1000000) : Ev (fun k => soritesref10_count.f k t.f0 t.f1 v) (countN (-1 - v) (nodes t) : Int) := by
 unfold soritesref10_count.f
 refine Ev.bind (RFlat_spec t h) ?_
 have hlen := h.1
 generalize nodes t = q at hlen
 have key : ∀ n i, q.length - i = n → i ≤ q.length → Ev (fun k => soritesref10_count.l0 k v q (countN (-1 - v) (q.take i) : Int) (i : Int)) (countN (-1 - v) q : Int) := by
  intro n
  induction n with
  | zero =>
   intro i hi hle
   refine Ev.step (f := fun _ => some (countN (-1 - v) (q.take i) : Int)) (fun k => by rw [soritesref10_count.l0, if_neg (by omega)]) ?_
   rw [List.take_of_length_le (by omega)]; exact Ev.now _
  | succ n ihn =>
   intro i hi hle
   have hlt : i < q.length := by omega
   have h2 := ihn (i + 1) (by omega) (by omega)
   have hb := countN_le (-1 - v) (q.take i)
   rw [List.length_take] at hb
   have htk : countN (-1 - v) (q.take (i + 1)) = countN (-1 - v) (q.take i) + (if q[i].f0 = -1 - v then 1 else 0) := by
    rw [List.take_succ_eq_append_getElem hlt, countN_append]
    congr 1
    unfold countN
    by_cases he : q[i].f0 = -1 - v
    ·simp [he]
    ·simp [he]
   rw [htk] at h2
   by_cases he : q[i].f0 = -1 - v
   ·rw [if_pos he] at h2
    refine Ev.step (f := fun k => soritesref10_count.l0 k v q ((countN (-1 - v) (q.take i) + 1 : Nat) : Int) ((i + 1 : Nat) : Int)) (fun k => ?_) h2
    rw [soritesref10_count.l0, if_pos (by omega), if_pos (by omega), rd24_at q i hlt, w64 (-1 - v) (by omega), if_pos he, wsucc i q.length hlt (by omega), wsucc _ 1000000 (by omega) (by omega)]
   ·rw [if_neg he, Nat.add_zero] at h2
    refine Ev.step (f := fun k => soritesref10_count.l0 k v q ((countN (-1 - v) (q.take i) : Nat) : Int) ((i + 1 : Nat) : Int)) (fun k => ?_) h2
    rw [soritesref10_count.l0, if_pos (by omega), if_pos (by omega), rd24_at q i hlt, w64 (-1 - v) (by omega), if_neg he, wsucc i q.length hlt (by omega)]
 have := key q.length 0 rfl (by omega)
 simpa [countN] using this
theorem mem_varsN {l : List S30} {v : Int} : v ∈ varsN l ↔ ∃ x ∈ l, x.f0 < 0 ∧ v = wrap64 (-1 - x.f0) := by
 unfold varsN
 rw [mem_foldl]
 simp
theorem RCovers_spec (a b : S30) (ha : fit a) (hb : fit b) : Ev (fun k => soritesref10_Covers.f k a.f0 a.f1 b.f0 b.f1) (covT a b) := by
 unfold soritesref10_Covers.f
 refine Ev.bind (RVars_spec b hb) ?_
 have hvl : (varsN (nodes b)).length ≤ 1000000 := by
  have := varsN_len (nodes b) []
  have := hb.1
  simp only [List.length_nil] at *
  unfold varsN
  omega
 have hvr : ∀ v ∈ varsN (nodes b), 0 ≤ v ∧ v ≤ 1000000 := by
  intro v hv
  obtain ⟨x, hx, hneg, rfl⟩ := mem_varsN.1 hv
  have := hb.2 x hx
  rw [w64 _ (by omega)]
  omega
 have hc : covT a b = (varsN (nodes b)).all fun v => decide (countN (-1 - v) (nodes b) ≤ countN (-1 - v) (nodes a)) := by
  rw [Bool.eq_iff_iff]
  unfold covT
  rw [List.all_eq_true, List.all_eq_true]
  constructor
  ·intro h v hv
   obtain ⟨x, hx, hneg, rfl⟩ := mem_varsN.1 hv
   have h1 := hb.2 x hx
   have h2 := h x hx
   rw [w64 _ (by omega), show -1 - (-1 - x.f0) = x.f0 by omega]
   rw [Bool.or_eq_true, decide_eq_true_eq] at h2
   exact h2.resolve_left (by omega)
  ·intro h x hx
   rw [Bool.or_eq_true, decide_eq_true_eq]
   by_cases hneg : x.f0 < 0
   ·right
    have h1 := hb.2 x hx
    have h2 := h (wrap64 (-1 - x.f0)) (mem_varsN.2 ⟨x, hx, hneg, rfl⟩)
    rw [w64 _ (by omega), show -1 - (-1 - x.f0) = x.f0 by omega] at h2
    exact h2
   ·left; omega
 rw [hc]
 generalize varsN (nodes b) = q at hvl hvr
 have key : ∀ n i, q.length - i = n → i ≤ q.length → Ev (fun k => soritesref10_Covers.l0 k q (i : Int) a.f0 a.f1 b.f0 b.f1) ((q.drop i).all fun v => decide (countN (-1 - v) (nodes b) ≤ countN (-1 - v) (nodes a))) := by
  intro n
  induction n with
  | zero =>
   intro i hi hle
   refine Ev.step (f := fun _ => some true) (fun k => by rw [soritesref10_Covers.l0, if_neg (by omega)]) ?_
   rw [List.drop_of_length_le (by omega)]; exact Ev.now _
  | succ n ihn =>
   intro i hi hle
   have hlt : i < q.length := by omega
   have hr := hvr q[i] (List.getElem_mem hlt)
   refine Ev.step (f := fun k => (soritesref10_count.f k b.f0 b.f1 q[i]).bind fun t => (soritesref10_count.f k a.f0 a.f1 q[i]).bind fun u => if t > u then some false else soritesref10_Covers.l0 k q ((i + 1 : Nat) : Int) a.f0 a.f1 b.f0 b.f1) (fun k => by rw [soritesref10_Covers.l0, if_pos (by omega), if_pos (by omega), rdi_at q i hlt, wsucc i q.length hlt (by omega)]) ?_
   refine Ev.bind (Rcount_spec b hb q[i] (by omega)) (Ev.bind (Rcount_spec a ha q[i] (by omega)) ?_)
   rw [List.drop_eq_getElem_cons hlt, List.all_cons]
   by_cases hgt : (countN (-1 - q[i]) (nodes b) : Int) > countN (-1 - q[i]) (nodes a)
   ·simp only [if_pos hgt]
    rw [decide_eq_false (by omega)]
    exact Ev.now _
   ·simp only [if_neg hgt]
    rw [decide_eq_true (by omega), Bool.true_and]
    exact ihn (i + 1) (by omega) (by omega)
 have := key q.length 0 rfl (by omega)
 simpa using this
mutual
def gtT : S30 → S30 → Bool
 | ⟨f, l⟩, ⟨g, m⟩ => covT ⟨f, l⟩ ⟨g, m⟩ && (if (nodes ⟨f, l⟩).length = (nodes ⟨g, m⟩).length then (if f < 0 ∨ g < 0 then false else if f = g then (if l.length = m.length then gtTs l m else decide (m.length < l.length)) else decide (g < f)) else decide ((nodes ⟨g, m⟩).length < (nodes ⟨f, l⟩).length))
def gtTs : List S30 → List S30 → Bool
 | [], _ => false
 | _ :: _, [] => false
 | x :: l, y :: m => if cmpT x y = 0 then gtTs l m else gtT x y
end
theorem gtTs_drop (l m : List S30) (k : Nat) (hl : k < l.length) (hm : k < m.length) : gtTs (l.drop k) (m.drop k) = if cmpT l[k] m[k] = 0 then gtTs (l.drop (k + 1)) (m.drop (k + 1)) else gtT l[k] m[k] := by
 rw [List.drop_eq_getElem_cons hl, List.drop_eq_getElem_cons hm, gtTs]
def kcmp (a b : S30) : Int := if cmpT a b = 0 then 0 else if gtT a b = true then 1 else if gtT b a = true then -1 else 2
theorem orI2_f (a b : Int) : Ev (fun k => cmp_Or_int.f k [a, b]) (if a = 0 then b else a) := by
 refine ⟨3, fun k hk => ?_⟩
 obtain ⟨n, rfl⟩ : ∃ n, k = n + 3 := ⟨k - 3, by omega⟩
 simp only [cmp_Or_int.f, cmp_Or_int.l0, rd, List.length_cons, List.length_nil, wrap64]
 by_cases ha : a = 0
 ·by_cases hb : b = 0
  ·simp [ha, hb]
  ·simp [ha, hb]
 ·simp [ha]
theorem Size_fit {t : S30} (h : fit t) : term_Size.f t.f0 t.f1 = some ((nodes t).length : Int) := Size_is (by have := h.1; omega)
theorem fitB_of {t : S30} (h : fit t) : fitB t = true := (fitB_iff t).2 h
theorem Cov_of {a b : S30} (ha : fit a) (hb : fit b) : kbo_Covers.f a.f0 a.f1 b.f0 b.f1 = some (covT a b) := by
 unfold kbo_Covers.f
 rw [S30.eta, S30.eta, fitB_of ha, fitB_of hb]
 rfl
theorem KGreater_spec : ∀ a b : S30, fit a → fit b → Ev (fun k => kbo_Greater.f k a.f0 a.f1 b.f0 b.f1) (gtT a b) := by
 refine S30.ind ?_
 intro f l ih b ha hb
 obtain ⟨g, m⟩ := b
 have hsa := Size_fit ha
 have hsb := Size_fit hb
 have hcv := Cov_of ha hb
 simp only [] at hsa hsb hcv
 rw [gtT]
 by_cases hc : covT ⟨f, l⟩ ⟨g, m⟩ = true
 ·rw [hc, Bool.true_and]
  rw [hc] at hcv
  by_cases hn : (nodes ⟨f, l⟩).length = (nodes ⟨g, m⟩).length
  ·rw [if_pos hn]
   have hstep : ∀ k, kbo_Greater.f (k + 1) f l g m = kbo_Greater.j0 k (decide (f < 0 ∨ g < 0)) f l g m := fun k => by
    rw [kbo_Greater.f, hcv]
    simp only [Option.bind_some, if_true, hsa, hsb, cmpI_f]
    rw [hn, cmpI_self, if_pos rfl]
    by_cases hf : f < 0
    ·rw [if_pos hf, decide_eq_true (.inl hf)]
    ·rw [if_neg hf]
     by_cases hg : g < 0
     ·rw [decide_eq_true hg, decide_eq_true (.inr hg)]
     ·rw [decide_eq_false hg, decide_eq_false (by omega)]
   refine Ev.step (f := fun k => kbo_Greater.j0 k (decide (f < 0 ∨ g < 0)) f l g m) hstep ?_
   by_cases hv : f < 0 ∨ g < 0
   ·rw [if_pos hv, decide_eq_true hv]
    exact Ev.step (f := fun _ => some false) (fun k => by rw [kbo_Greater.j0, if_pos rfl]) (Ev.now _)
   ·rw [if_neg hv, decide_eq_false hv]
    refine Ev.step (f := fun k => (cmp_Or_int.f k [cmpI f g, cmpI l.length m.length]).bind fun t => if t = 0 then kbo_Greater.l0 k l (l.length : Int) 0 g m else some (decide (t > 0))) (fun k => by rw [kbo_Greater.j0, if_neg (by decide)]; simp only [cmpI_f, Option.bind_some]) (Ev.bind (orI2_f _ _) ?_)
    by_cases hfg : f = g
    ·subst hfg
     rw [if_pos rfl, cmpI_self, if_pos rfl]
     have hf : ¬ f < 0 := fun h => hv (.inl h)
     obtain ⟨hll, hsub⟩ := fit_sub hf ha
     obtain ⟨hml, hsubm⟩ := fit_sub hf hb
     by_cases hlm : l.length = m.length
     ·rw [if_pos hlm, hlm, cmpI_self]
      simp only [if_true]
      have key : ∀ n i, l.length - i = n → i ≤ l.length → Ev (fun k => kbo_Greater.l0 k l (m.length : Int) (i : Int) f m) (gtTs (l.drop i) (m.drop i)) := by
       intro n
       induction n with
       | zero =>
        intro i hi hle
        refine Ev.step (f := fun _ => some false) (fun k => by rw [kbo_Greater.l0, if_neg (by omega)]) ?_
        rw [List.drop_of_length_le (by omega), gtTs]; exact Ev.now _
       | succ n ihn =>
        intro i hi hle
        have hlt : i < l.length := by omega
        have hltm : i < m.length := by omega
        have hmem := List.getElem_mem hlt
        refine Ev.step (f := fun k => if (cmpT l[i] m[i] == 0) = true then kbo_Greater.l0 k l (m.length : Int) ((i + 1 : Nat) : Int) f m else (kbo_Greater.f k l[i].f0 l[i].f1 m[i].f0 m[i].f1).bind fun t => some t) (fun k => ?_) ?_
        ·rw [kbo_Greater.l0, if_pos (by omega), if_pos (by omega), if_pos (by omega), if_pos (by omega), rdC_at l i hlt, rdC_at m i hltm, wsucc i l.length hlt (by omega), Same_of]
         rfl
        ·rw [gtTs_drop l m i hlt hltm]
         by_cases h0 : cmpT l[i] m[i] = 0
         ·simp only [h0, beq_self_eq_true, if_true]
          exact ihn (i + 1) (by omega) (by omega)
         ·rw [if_neg h0]
          have : (cmpT l[i] m[i] == 0) = false := by simpa using h0
          simp only [this, Bool.false_eq_true, if_false]
          exact Ev.bind (ih l[i] hmem m[i] (hsub _ hmem) (hsubm _ (List.getElem_mem hltm))) (Ev.now _)
      have := key l.length 0 rfl (by omega)
      simpa using this
     ·rw [if_neg hlm]
      have h1 : cmpI (l.length : Int) m.length ≠ 0 := cmpI_ne (by omega)
      simp only [if_neg h1]
      have : decide (cmpI (l.length : Int) m.length > 0) = decide (m.length < l.length) := by
       rw [decide_eq_decide]
       unfold cmpI
       (repeat' split) <;> omega
      rw [this]; exact Ev.now _
    ·rw [if_neg hfg]
     have h1 := cmpI_ne hfg
     simp only [if_neg h1]
     have : decide (cmpI f g > 0) = decide (g < f) := by
      rw [decide_eq_decide]
      unfold cmpI
      (repeat' split) <;> omega
     rw [this]; exact Ev.now _
  ·rw [if_neg hn]
   refine Ev.step (f := fun _ => some (decide ((nodes ⟨g, m⟩).length < (nodes ⟨f, l⟩).length))) (fun k => ?_) (Ev.now _)
   rw [kbo_Greater.f, hcv]
   simp only [Option.bind_some, if_true, hsa, hsb, cmpI_f]
   have h1 : cmpI ((nodes ⟨f, l⟩).length : Int) (nodes ⟨g, m⟩).length ≠ 0 := cmpI_ne (by omega)
   rw [if_neg h1]
   congr 1
   rw [decide_eq_decide]
   unfold cmpI
   (repeat' split) <;> omega
 ·have hcf : covT ⟨f, l⟩ ⟨g, m⟩ = false := by simpa using hc
  rw [hcf, Bool.false_and]
  rw [hcf] at hcv
  refine Ev.step (f := fun _ => some false) (fun k => ?_) (Ev.now _)
  rw [kbo_Greater.f, hcv]
  rfl
theorem cmp_len : ∀ a b : S30, cmpT a b = 0 → (nodes a).length = (nodes b).length := by
 refine S30.ind ?_
 intro f l ih b h
 obtain ⟨g, m⟩ := b
 have hfg : f = g := by
  rcases Decidable.em (f = g) with e | e
  ·exact e
  ·exfalso
   have h1 := cmpI_ne e
   have h2 := cmpI_ne (fun e' => e e'.symm)
   simp only [cmpT] at h
   split at h
   ·split at h <;> contradiction
   ·unfold orI at h; rw [if_neg h1] at h; contradiction
 subst hfg
 by_cases hf : f < 0
 ·simp [nodes, hf]
 ·have hlm : l.length = m.length := by
   rcases Decidable.em (l.length = m.length) with e | e
   ·exact e
   ·exfalso
    have h1 : cmpI (l.length : Int) m.length ≠ 0 := cmpI_ne (by omega)
    simp [cmpT, hf, cmpI_self, orI, h1] at h
  have hc : cmpTs l m = 0 := by simpa [cmpT, hf, cmpI_self, hlm, orI] using h
  have key : ∀ (l m : List S30), (∀ x ∈ l, ∀ y, cmpT x y = 0 → (nodes x).length = (nodes y).length) → l.length = m.length → cmpTs l m = 0 → (nodess l).length = (nodess m).length := by
   intro l
   induction l with
   | nil => intro m _ hl _; cases m with
    | nil => rfl
    | cons => simp at hl
   | cons x l ihl =>
    intro m h hl hc
    cases m with
    | nil => simp at hl
    | cons y m =>
     rw [cmpTs] at hc
     split at hc
     ·rename_i h0
      rw [nodess, nodess, List.length_append, List.length_append, h x (by simp) y h0, ihl m (fun x hx => h x (by simp [hx])) (by simpa using hl) hc]
     ·rename_i h0; contradiction
  have := key l m (fun x hx y => ih x hx y) hlm hc
  simp [nodes, hf, this]
theorem gt_len {a b : S30} (h : gtT a b = true) : (nodes b).length ≤ (nodes a).length := by
 obtain ⟨f, l⟩ := a
 obtain ⟨g, m⟩ := b
 rw [gtT, Bool.and_eq_true] at h
 have h2 := h.2
 split at h2
 ·omega
 ·have := of_decide_eq_true h2
  omega
theorem gtTs_same : ∀ l m : List S30, cmpTs l m = 0 → gtTs l m = false
 | [], _, _ => by rw [gtTs]
 | _ :: _, [], _ => by rw [gtTs]
 | x :: l, y :: m, h => by
  rw [cmpTs] at h
  split at h
  ·rename_i h0
   rw [gtTs, if_pos h0]
   exact gtTs_same l m h
  ·rename_i h0; contradiction
theorem cmp_zero {f g : Int} {l m : List S30} (h : cmpT ⟨f, l⟩ ⟨g, m⟩ = 0) : f = g ∧ (¬ f < 0 → l.length = m.length ∧ cmpTs l m = 0) := by
 have hfg : f = g := by
  rcases Decidable.em (f = g) with e | e
  ·exact e
  ·exfalso
   have h1 := cmpI_ne e
   have h2 := cmpI_ne (fun e' => e e'.symm)
   simp only [cmpT] at h
   split at h
   ·split at h <;> contradiction
   ·unfold orI at h; rw [if_neg h1] at h; contradiction
 subst hfg
 refine ⟨rfl, fun hf => ?_⟩
 have hlm : l.length = m.length := by
  rcases Decidable.em (l.length = m.length) with e | e
  ·exact e
  ·exfalso
   have h1 : cmpI (l.length : Int) m.length ≠ 0 := cmpI_ne (by omega)
   simp [cmpT, hf, cmpI_self, orI, h1] at h
 exact ⟨hlm, by simpa [cmpT, hf, cmpI_self, hlm, orI] using h⟩
theorem gt_same {a b : S30} (h : cmpT a b = 0) : gtT a b = false := by
 have hl := cmp_len a b h
 obtain ⟨f, l⟩ := a
 obtain ⟨g, m⟩ := b
 obtain ⟨rfl, h2⟩ := cmp_zero h
 rw [gtT, if_pos hl]
 by_cases hf : f < 0
 ·rw [if_pos (.inl hf), Bool.and_false]
 ·obtain ⟨h3, h4⟩ := h2 hf
  rw [if_neg (by omega), if_pos rfl, if_pos h3, gtTs_same l m h4, Bool.and_false]
theorem RGreater_spec : ∀ a b : S30, fit a → fit b → Ev (fun k => soritesref10_Greater.f k a.f0 a.f1 b.f0 b.f1) (gtT a b) := by
 refine S30.ind ?_
 intro f l ih b ha hb
 obtain ⟨g, m⟩ := b
 refine Ev.step (f := fun k => (soritesref06_Same.f k f l g m).bind fun t => if t = true then soritesref10_Greater.j0 k true f l g m else (soritesref10_Covers.f k f l g m).bind fun u => soritesref10_Greater.j0 k (!u) f l g m) (fun k => by rw [soritesref10_Greater.f]) ?_
 refine Ev.bind (RSame_spec ⟨f, l⟩ ⟨g, m⟩ ha) ?_
 by_cases hs : cmpT ⟨f, l⟩ ⟨g, m⟩ = 0
 ·rw [gt_same hs, hs]
  simp only [beq_self_eq_true, if_true]
  exact Ev.step (f := fun _ => some false) (fun k => by rw [soritesref10_Greater.j0, if_pos rfl]) (Ev.now _)
 ·have hs' : (cmpT ⟨f, l⟩ ⟨g, m⟩ == 0) = false := by simpa using hs
  simp only [hs', Bool.false_eq_true, if_false]
  refine Ev.bind (RCovers_spec ⟨f, l⟩ ⟨g, m⟩ ha hb) ?_
  rw [gtT]
  by_cases hc : covT ⟨f, l⟩ ⟨g, m⟩ = true
  ·rw [hc, Bool.true_and]
   simp only [Bool.not_true]
   refine Ev.step (f := fun k => (soritesref06_Flat.f k f l).bind fun t => (soritesref06_Flat.f k g m).bind fun u => if (t.length : Int) = (u.length : Int) then (if f < 0 then soritesref10_Greater.j1 k (t.length : Int) (u.length : Int) true f l g m else soritesref10_Greater.j1 k (t.length : Int) (u.length : Int) (decide (g < 0)) f l g m) else soritesref10_Greater.j1 k (t.length : Int) (u.length : Int) true f l g m) (fun k => by rw [soritesref10_Greater.j0, if_neg (by decide)]) ?_
   refine Ev.bind (RFlat_spec ⟨f, l⟩ ha) (Ev.bind (RFlat_spec ⟨g, m⟩ hb) ?_)
   have hstop : ∀ b : Bool, b = decide ((nodes ⟨g, m⟩).length < (nodes ⟨f, l⟩).length) → Ev (fun k => soritesref10_Greater.j1 k ((nodes ⟨f, l⟩).length : Int) ((nodes ⟨g, m⟩).length : Int) true f l g m) b := fun b hb => by
    refine Ev.step (f := fun _ => some (decide (((nodes ⟨f, l⟩).length : Int) > ((nodes ⟨g, m⟩).length : Int)))) (fun k => by rw [soritesref10_Greater.j1, if_pos rfl]) ?_
    rw [hb, show decide (((nodes ⟨f, l⟩).length : Int) > ((nodes ⟨g, m⟩).length : Int)) = decide ((nodes ⟨g, m⟩).length < (nodes ⟨f, l⟩).length) by rw [decide_eq_decide]; omega]
    exact Ev.now _
   by_cases hn : (nodes ⟨f, l⟩).length = (nodes ⟨g, m⟩).length
   ·rw [if_pos hn]
    simp only [if_pos (show ((nodes ⟨f, l⟩).length : Int) = ((nodes ⟨g, m⟩).length : Int) by omega)]
    have hz : false = decide ((nodes ⟨g, m⟩).length < (nodes ⟨f, l⟩).length) := (decide_eq_false (by omega)).symm
    by_cases hf : f < 0
    ·simp only [if_pos hf]
     rw [if_pos (.inl hf)]
     exact hstop false hz
    ·simp only [if_neg hf]
     by_cases hg : g < 0
     ·rw [if_pos (.inr hg), decide_eq_true hg]
      exact hstop false hz
     ·rw [if_neg (by omega), decide_eq_false hg]
      by_cases hfg : f = g
      ·subst hfg
       rw [if_pos rfl]
       obtain ⟨hll, hsub⟩ := fit_sub hf ha
       obtain ⟨hml, hsubm⟩ := fit_sub hf hb
       by_cases hlm : l.length = m.length
       ·rw [if_pos hlm]
        refine Ev.step (f := fun k => soritesref10_Greater.l0 k 0 f l f m) (fun k => by rw [soritesref10_Greater.j1, if_neg (by decide), if_pos rfl, if_pos (by omega)]) ?_
        have hcs : cmpTs l m ≠ 0 := fun h0 => hs (by simp [cmpT, hf, cmpI_self, hlm, orI, h0])
        have key : ∀ n i, l.length - i = n → i ≤ l.length → cmpTs (l.drop i) (m.drop i) ≠ 0 → Ev (fun k => soritesref10_Greater.l0 k (i : Int) f l f m) (gtTs (l.drop i) (m.drop i)) := by
         intro n
         induction n with
         | zero =>
          intro i hi hle h0
          exfalso
          apply h0
          rw [List.drop_of_length_le (by omega), List.drop_of_length_le (by omega), cmpTs]
         | succ n ihn =>
          intro i hi hle hne
          have hlt : i < l.length := by omega
          have hltm : i < m.length := by omega
          have hmem := List.getElem_mem hlt
          refine Ev.step (f := fun k => (soritesref06_Same.f k l[i].f0 l[i].f1 m[i].f0 m[i].f1).bind fun t => if t = true then soritesref10_Greater.l0 k ((i + 1 : Nat) : Int) f l f m else (soritesref10_Greater.f k l[i].f0 l[i].f1 m[i].f0 m[i].f1).bind fun t => some t) (fun k => ?_) (Ev.bind (RSame_spec l[i] m[i] (hsub _ hmem)) ?_)
          ·rw [soritesref10_Greater.l0, if_pos (by omega), if_pos (by omega), if_pos (by omega), rd24_at l i hlt, rd24_at m i hltm, wsucc i l.length hlt (by omega)]
          ·rw [gtTs_drop l m i hlt hltm]
           rw [cmpTs_drop l m i hlt hltm] at hne
           by_cases h0 : cmpT l[i] m[i] = 0
           ·simp only [h0, beq_self_eq_true, if_true]
            rw [if_pos h0] at hne
            exact ihn (i + 1) (by omega) (by omega) hne
           ·rw [if_neg h0]
            have : (cmpT l[i] m[i] == 0) = false := by simpa using h0
            simp only [this, Bool.false_eq_true, if_false]
            exact Ev.bind (ih l[i] hmem m[i] (hsub _ hmem) (hsubm _ (List.getElem_mem hltm))) (Ev.now _)
        have := key l.length 0 rfl (by omega) (by simpa using hcs)
        simpa using this
       ·rw [if_neg hlm]
        refine Ev.step (f := fun _ => some (decide ((l.length : Int) > (m.length : Int)))) (fun k => by rw [soritesref10_Greater.j1, if_neg (by decide), if_pos rfl, if_neg (by omega)]) ?_
        rw [show decide ((l.length : Int) > (m.length : Int)) = decide (m.length < l.length) by rw [decide_eq_decide]; omega]
        exact Ev.now _
      ·rw [if_neg hfg]
       exact Ev.step (f := fun _ => some (decide (f > g))) (fun k => by rw [soritesref10_Greater.j1, if_neg (by decide), if_neg hfg]) (Ev.now _)
   ·rw [if_neg hn]
    simp only [if_neg (show ¬ ((nodes ⟨f, l⟩).length : Int) = ((nodes ⟨g, m⟩).length : Int) by omega)]
    exact hstop _ rfl
  ·have hcf : covT ⟨f, l⟩ ⟨g, m⟩ = false := by simpa using hc
   rw [hcf, Bool.false_and]
   simp only [Bool.not_false]
   exact Ev.step (f := fun _ => some false) (fun k => by rw [soritesref10_Greater.j0, if_pos rfl]) (Ev.now _)
theorem KCompare_spec (a b : S30) (ha : fit a) (hb : fit b) : Ev (fun k => kbo_Compare.f k a.f0 a.f1 b.f0 b.f1) (kcmp a b) := by
 unfold kbo_Compare.f kcmp
 simp only [Same_of, Option.bind_some]
 by_cases h0 : cmpT a b = 0
 ·simp only [h0, beq_self_eq_true, if_true]; exact Ev.now _
 ·have : (cmpT a b == 0) = false := by simpa using h0
  simp only [this, Bool.false_eq_true, if_false, if_neg h0]
  refine Ev.bind (KGreater_spec a b ha hb) ?_
  by_cases h1 : gtT a b = true
  ·simp only [h1, if_true]; exact Ev.now _
  ·simp only [if_neg h1]
   refine Ev.bind (KGreater_spec b a hb ha) ?_
   by_cases h2 : gtT b a = true
   ·simp only [h2, if_true]; exact Ev.now _
   ·simp only [if_neg h2]; exact Ev.now _
theorem fit_of_ok : ∀ t : S30, ok t → (nodes t).length ≤ 1000000 → fit t := by
 have key : ∀ t : S30, ok t → SmallN t := by
  refine S30.ind ?_
  intro f l ih h
  obtain ⟨h1, h2, h3, h4⟩ := h
  have hl : ∀ y ∈ nodess l, -1000000 ≤ y.f0 ∧ y.f0 ≤ 1000000 := by
   have := oks_mem h4
   clear h1 h2 h3 h4
   induction l with
   | nil => intro y hy; cases hy
   | cons x l ihl =>
    intro y hy
    rw [nodess, List.mem_append] at hy
    rcases hy with hy | hy
    ·exact ih x (by simp) (this x (by simp)) y hy
    ·exact ihl (fun x hx => ih x (by simp [hx])) (fun x hx => this x (by simp [hx])) y hy
  intro y hy
  rw [nodes] at hy
  rcases List.mem_cons.1 hy with rfl | hy
  ·exact ⟨by show -1000000 ≤ f; omega, by show f ≤ 1000000; omega⟩
  ·split at hy
   ·cases hy
   ·exact hl y hy
 intro t h hn
 exact ⟨hn, key t h⟩
end
section
theorem Elem.read {w0 W : World} {x : S30} {v : Value} (h : Elem w0 x v) (hb : Below w0.heap.size w0 W) : ∃ A c, v = .slice A x.f1.length c ∧ x.f1.length ≤ c ∧ k30.C W A x.f1.length x.f1 := by
 obtain ⟨A, c, h1, h2, h3⟩ := h
 exact ⟨A, c, h1, h2, Kd.C_below h3 hb⟩
def sameT (x y : S30) : Bool := cmpT x y == 0
set_option maxHeartbeats 4000000 in
set_option maxRecDepth 100000 in
theorem same1_calls (gx : Nat) (x y : S30) (X B : Option Addr) (c e : Nat) (w : World) (hx : w.heap[gx]? = some (.cells #[.int .i64 x.f0, .slice X x.f1.length c] 30 (0, 0))) (hX : k30.C w X x.f1.length x.f1) (hc : x.f1.length ≤ c) (hB : k30.C w B y.f1.length y.f1) (he : y.f1.length ≤ e) :
  Calls Try.prog 94 #[.agg #[.int .i64 y.f0, .slice B y.f1.length e], .pointer (some ⟨gx, 0, none⟩)] w fun r w' => r = .returned (.bool (sameT x y)) ∧ Below w.heap.size w w' := by
 have hba := bA_ (Below.refl w.heap.size w) (.cells #[.int .i64 y.f0, .slice B y.f1.length e] 30)
 have q0 : (w.alloc (.cells #[.int .i64 y.f0, .slice B y.f1.length e] 30)).cell? ⟨gx, 0, none⟩ = some (.int .i64 x.f0) := (yaa_ (kB_ hx hba) 0).trans rfl
 have q1 : (w.alloc (.cells #[.int .i64 y.f0, .slice B y.f1.length e] 30)).cell? ⟨gx, 1, none⟩ = some (.slice X x.f1.length c) := (yaa_ (kB_ hx hba) 1).trans rfl
 have hcl := Az_.mk (term_Same.calls _ _ _ x.f1 _ _ _ y.f1 _ _ (Kd.C_below hX hba) hc (Kd.C_below hB hba) he (Same_of x y))
 clear hx hX hB
 go_enter Try.func94, Try.ntmps94
 go_wp2_with (go_at_call 37; refine hcl.out.mono ?_; rintro r w2 ⟨rfl, hb⟩; have hb2 := Az_.mk hb; clear hb)
 go_ret
 exact ⟨rfl, (bA_ (Below.refl _ _) _).trans (hb2.out.mono (by simp))⟩
set_option maxHeartbeats 4000000 in
set_option maxRecDepth 100000 in
theorem great1_calls (k gy : Nat) (x y : S30) (B Y : Option Addr) (c e : Nat) (r : Bool) (w : World) (hy : w.heap[gy]? = some (.cells #[.int .i64 y.f0, .slice Y y.f1.length c] 30 (0, 0))) (hY : k30.C w Y y.f1.length y.f1) (hc : y.f1.length ≤ c) (hB : k30.C w B x.f1.length x.f1) (he : x.f1.length ≤ e) (hk : kbo_Greater.f k x.f0 x.f1 y.f0 y.f1 = some r) :
  Calls Try.prog 98 #[.agg #[.int .i64 x.f0, .slice B x.f1.length e], .pointer (some ⟨gy, 0, none⟩)] w fun z w' => z = .returned (.bool r) ∧ Below w.heap.size w w' := by
 have hba := bA_ (Below.refl w.heap.size w) (.cells #[.int .i64 x.f0, .slice B x.f1.length e] 30)
 have q0 : (w.alloc (.cells #[.int .i64 x.f0, .slice B x.f1.length e] 30)).cell? ⟨gy, 0, none⟩ = some (.int .i64 y.f0) := (yaa_ (kB_ hy hba) 0).trans rfl
 have q1 : (w.alloc (.cells #[.int .i64 x.f0, .slice B x.f1.length e] 30)).cell? ⟨gy, 1, none⟩ = some (.slice Y y.f1.length c) := (yaa_ (kB_ hy hba) 1).trans rfl
 have hcl := Az_.mk (kbo_Greater.calls k _ _ _ x.f1 _ _ _ y.f1 r _ (Kd.C_below hB hba) he (Kd.C_below hY hba) hc hk)
 clear hy hY hB hk
 go_enter Try.func98, Try.ntmps98
 go_wp2_with (go_at_call 41; refine hcl.out.mono ?_; rintro r w2 ⟨rfl, hb⟩; have hb2 := Az_.mk hb; clear hb)
 go_ret
 exact ⟨rfl, (bA_ (Below.refl _ _) _).trans (hb2.out.mono (by simp))⟩
theorem eg94 : ∀ args w1, (callFunc 94 args).run Try.prog w1 = .ok (.enter 94 args) w1 := enters_of Try.func94 (by kernel_rfl) rfl
theorem eg98 : ∀ args w1, (callFunc 98 args).run Try.prog w1 = .ok (.enter 98 args) w1 := enters_of Try.func98 (by kernel_rfl) rfl
theorem eg92 : ∀ args w1, (callFunc 92 args).run Try.prog w1 = .ok (.enter 92 args) w1 := enters_of Try.func92 (by kernel_rfl) rfl
theorem eg97 : ∀ args w1, (callFunc 97 args).run Try.prog w1 = .ok (.enter 97 args) w1 := enters_of Try.func97 (by kernel_rfl) rfl
def BInv (w0 : World) (gb hb : Nat) (bs : List S30) (W : World) : Prop := ∃ A c, W.heap[gb]? = some (.cells #[.slice A bs.length c] 28 (0, 0)) ∧ bs.length ≤ c ∧ c ≤ 9223372036854775807 ∧ (bs ≠ [] → A = some ⟨hb, 0, none⟩ ∧ RowIs w0 W hb bs) ∧ Below w0.heap.size w0 W
theorem eraseP_idx {α : Type} (q : α → Bool) : ∀ (l : List α) (k : Nat) (hk : k < l.length), q l[k] = true → (∀ j (hj : j < k), q (l[j]'(by omega)) = false) → l.eraseP q = l.eraseIdx k
 | x :: l, 0, _, h, _ => by simp at h; simp [List.eraseP_cons, h]
 | x :: l, k + 1, hk, h, hp => by
  have h0 := hp 0 (by omega)
  simp at h0
  simp at h
  rw [List.eraseP_cons, h0]
  simp only [Bool.false_eq_true, if_false, List.eraseIdx_cons_succ, cond_false]
  rw [eraseP_idx q l k (by simpa using hk) h (fun j hj => by have := hp (j + 1) (by omega); simpa using this)]
theorem eraseP_none {α : Type} (q : α → Bool) (l : List α) (h : l.any q = false) : l.eraseP q = l := by
 rw [List.eraseP_of_forall_not]
 intro x hx
 rw [List.any_eq_false] at h
 exact h x hx
theorem RowIs.one {w0 : World} {l : List S30} {cells : Array Value} (h3 : ∀ j x, l[j]? = some x → CellsAt w0 cells j x) : ∀ t v, t < l.length * 2 → cells[t]? = some v → v.oneCell' = true := by
 intro t v ht hv
 have hj : t / 2 < l.length := by omega
 obtain ⟨u, ⟨B, e, rfl, _, _⟩, g2, g3⟩ := h3 (t / 2) _ (List.getElem?_eq_getElem hj)
 have h4 : t = t / 2 * 2 ∨ t = t / 2 * 2 + 1 := by omega
 rcases h4 with h4 | h4
 ·rw [h4, g2] at hv; injection hv with hv; subst hv; rfl
 ·rw [h4, g3] at hv; injection hv with hv; subst hv; rfl
theorem RowIs.del {w0 W' : World} {g k : Nat} {l : List S30} {cells cells' : Array Value} (hk : k < l.length) (h3 : ∀ j x, l[j]? = some x → CellsAt w0 cells j x) (h1 : W'.heap[g]? = some (.cells cells' 30 (0, 0))) (h2 : l.length * 2 ≤ cells.size) (hs : cells'.size = cells.size)
  (hc : ∀ t, t < (k + (l.length - (k + 1))) * 2 → cells'[t]? = if t < k * 2 then cells[t]? else cells[t + (k + 1 - k) * 2]?) : RowIs w0 W' g (l.eraseIdx k) := by
 refine ⟨cells', h1, by rw [hs, List.length_eraseIdx]; split <;> omega, fun j x hj => ?_⟩
 have hjl := (List.getElem?_eq_some_iff.1 hj).1
 rw [List.length_eraseIdx, if_pos hk] at hjl
 rw [List.getElem?_eraseIdx] at hj
 split at hj
 ·rename_i h
  obtain ⟨u, g1, g2, g3⟩ := h3 j x hj
  exact ⟨u, g1, by rw [hc _ (by omega), if_pos (by omega)]; exact g2, by rw [hc _ (by omega), if_pos (by omega)]; exact g3⟩
 ·rename_i h
  obtain ⟨u, g1, g2, g3⟩ := h3 (j + 1) x hj
  exact ⟨u, g1, by rw [hc _ (by omega), if_neg (by omega), show j * 2 + (k + 1 - k) * 2 = (j + 1) * 2 by omega]; exact g2, by rw [hc _ (by omega), if_neg (by omega), show j * 2 + 1 + (k + 1 - k) * 2 = (j + 1) * 2 + 1 by omega]; exact g3⟩
set_option maxHeartbeats 8000000 in
set_option maxRecDepth 100000 in
theorem multi1_calls (w0 : World) (gb hb : Nat) (bs : List S30) (x : S30) (X : Option Addr) (c : Nat) (w : World) (hgh : bs ≠ [] → gb ≠ hb) (hgb0 : w0.heap.size ≤ gb) (hhb0 : w0.heap.size ≤ hb) (hi : BInv w0 gb hb bs w) (hx : Elem w0 x (.slice X x.f1.length c)) :
  Calls Try.prog 92 #[.agg #[.int .i64 x.f0, .slice X x.f1.length c], .pointer (some ⟨gb, 0, none⟩)] w fun r w' => r = .returned (.bool (bs.any (sameT x))) ∧ BInv w0 gb hb (bs.eraseP (sameT x)) w' ∧ FarB (fun k => k = gb ∨ k = hb) w w' := by
 obtain ⟨A, cb, hbx, hbc, hcm, hrow, hb0⟩ := hi
 obtain ⟨w1, hw1⟩ : ∃ w1, w1 = w.alloc (.cells #[.int .i64 x.f0, .slice X x.f1.length c] 30) := ⟨_, rfl⟩
 have hba : Below w.heap.size w w1 := by rw [hw1]; exact bA_ (Below.refl _ _) _
 have hs1 : w1.heap.size = w.heap.size + 1 := by rw [hw1, World.size_alloc]
 have hxb : w1.heap[w.heap.size]? = some (.cells #[.int .i64 x.f0, .slice X x.f1.length c] 30 (0, 0)) := by rw [hw1]; exact heap_alloc_new _ _
 have hbx1 := kB_ hbx hba
 have hb1 : Below w0.heap.size w0 w1 := hb0.trans (hba.mono hb0.size)
 have hIF := IndexFunc_inv bs.length (by omega) A cb hbc 94 #[.pointer (some ⟨w.heap.size, 0, none⟩)] (fun _ W => Below w1.heap.size w1 W) (fun j => if h : j < bs.length then sameT x bs[j] else false) w1 eg94 (fun j hj W hW => by
  have hne : bs ≠ [] := fun e => by rw [e] at hj; exact absurd hj (Nat.not_lt_zero _)
  obtain ⟨rfl, hr⟩ := hrow hne
  have hr2 : RowIs w0 W hb bs := (hr.far (FarB.of_below (S := fun _ => False) hba) (fun h => h)).far (FarB.of_below (S := fun _ => False) hW) (fun h => h)
  obtain ⟨B, e, he, hat⟩ := hr2.el j hj
  obtain ⟨B', e', heq, hle, hC⟩ := he.read (hb1.trans (hW.mono hb1.size))
  injection heq with h1 h2 h3
  subst h1 h3
  obtain ⟨X', c', heq, hlx, hCX⟩ := hx.read (hb1.trans (hW.mono hb1.size))
  injection heq with h1 h2 h3
  subst h1 h3
  refine ⟨bs[j].f0, B, bs[j].f1.length, e, hat, ?_⟩
  rw [dif_pos hj]
  exact (same1_calls w.heap.size x bs[j] X B c e W (kB_ hxb hW) hCX hlx hC hle).mono (fun r w' h => ⟨h.1, hW.trans (h.2.mono hW.size)⟩)) (Below.refl _ _)
 have k0 : w1.cell? ⟨gb, 0, none⟩ = some (.slice A bs.length cb) := (yaa_ hbx1 0).trans rfl
 cases hany : bs.any (sameT x) with
 | false =>
  rw [eraseP_none _ _ hany]
  have hIF2 := Az_.mk (hIF.mono (fun r w' h => (h.elim (fun ⟨k, hk, hp, _⟩ => by
   rw [dif_pos hk] at hp
   rw [List.any_eq_false] at hany
   exact absurd hp (hany _ (List.getElem_mem hk))) (fun h => h.2) : r = .returned (.int .i64 (-1)) ∧ Below w1.heap.size w1 w')))
  have FIN : Az_ (∀ w2, Below w1.heap.size w1 w2 → BInv w0 gb hb bs w2 ∧ FarB (fun k => k = gb ∨ k = hb) w w2) := ⟨fun w2 h => by
   have hb2 := hba.trans (h.mono hba.size)
   exact ⟨⟨A, cb, kB_ hbx1 h, hbc, hcm, fun hne => ⟨(hrow hne).1, (hrow hne).2.far (FarB.of_below (S := fun _ => False) hb2) (fun h => h)⟩, hb1.trans (h.mono hb1.size)⟩, FarB.of_below hb2⟩⟩
  have HW := Az_.mk hw1
  rw [hw1] at k0
  clear hIF hany hrow hbx hbx1 hxb hx hba hb0 hb1 hs1 hw1 hgh
  go_enter Try.func92, Try.ntmps92
  go_wp2_with (go_at_call 93; rw [← HW.out]; refine hIF2.out.mono ?_; rintro r w2 ⟨rfl, hi⟩; have HI := Az_.mk hi; clear hi)
  go_ret
  exact ⟨rfl, FIN.out _ HI.out⟩
 | true =>
  have hne : bs ≠ [] := fun e => by rw [e] at hany; cases hany
  obtain ⟨rfl, hr⟩ := hrow hne
  replace hgh := hgh hne
  have hIF2 := Az_.mk (hIF.mono (fun r w' h => (h.elim (fun ⟨k, hk, hp, hpre, h1, h2⟩ => ⟨k, hk, by rw [dif_pos hk] at hp; exact hp, fun j hj => by have := hpre j hj; rwa [dif_pos (by omega)] at this, h1, h2⟩) (fun h => by
   obtain ⟨y, hy, hxy⟩ := List.any_eq_true.1 hany
   obtain ⟨j, hj, rfl⟩ := List.getElem_of_mem hy
   have := h.1 j hj
   rw [dif_pos hj, hxy] at this
   cases this) : ∃ (k : Nat) (hk : k < bs.length), sameT x bs[k] = true ∧ (∀ j (hj : j < k), sameT x (bs[j]'(by omega)) = false) ∧ r = .returned (.int .i64 (k : Int)) ∧ Below w1.heap.size w1 w')))
  have FIN : Az_ (∀ (w2 w3 : World) (k : Nat) (cells cells' : Array Value) (hk : k < bs.length), sameT x bs[k] = true → (∀ j (hj : j < k), sameT x (bs[j]'(by omega)) = false) → Below w1.heap.size w1 w2 → (∀ j x, bs[j]? = some x → CellsAt w0 cells j x) → bs.length * 2 ≤ cells.size → SB hb w2 w3 → w3.heap[hb]? = some (.cells cells' 30 (0, 0)) → cells'.size = cells.size →
    (∀ t, t < (k + (bs.length - (k + 1))) * 2 → cells'[t]? = if t < k * 2 then cells[t]? else cells[t + (k + 1 - k) * 2]?) →
    BInv w0 gb hb (bs.eraseP (sameT x)) (w3.setCell ⟨gb, 0, none⟩ (.slice (some ⟨hb, 0, none⟩) (k + (bs.length - (k + 1))) cb)) ∧ FarB (fun k => k = gb ∨ k = hb) w (w3.setCell ⟨gb, 0, none⟩ (.slice (some ⟨hb, 0, none⟩) (k + (bs.length - (k + 1))) cb))) := ⟨by
   intro w2 w3 k cells cells' hk hp hpre hb2 h3 h2 hsb hc1 hc2 hc3
   rw [eraseP_idx _ bs k hk hp hpre]
   have hlen : (bs.eraseIdx k).length = k + (bs.length - (k + 1)) := by rw [List.length_eraseIdx, if_pos hk]; omega
   have hf : FarB (fun k => k = gb ∨ k = hb) w (w3.setCell ⟨gb, 0, none⟩ (.slice (some ⟨hb, 0, none⟩) (k + (bs.length - (k + 1))) cb)) := FarB.setCell (((FarB.of_below hba).trans (FarB.of_below hb2)).trans (FarB.of_SB hsb (.inr rfl))) (.inl rfl) _ _
   have hr' := RowIs.del hk h3 hc1 h2 hc2 hc3
   have hbx3 : w3.heap[gb]? = some (.cells #[.slice (some ⟨hb, 0, none⟩) bs.length cb] 28 (0, 0)) := (hsb.far gb hgh (blk_lt (kB_ hbx1 hb2))).trans (kB_ hbx1 hb2)
   refine ⟨⟨some ⟨hb, 0, none⟩, cb, ?_, by rw [hlen]; omega, hcm, fun _ => ⟨rfl, ?_⟩, ?_⟩, hf⟩
   ·rw [hlen]; exact (blk_set hbx3 0 _).trans rfl
   ·obtain ⟨cl, g1, g2⟩ := hr'
    exact ⟨cl, (Below.heap_setCell _ _ _ hb (fun e => hgh e.symm)).trans g1, g2⟩
   ·exact hb0.trans (hf.toBelow hb0.size (fun k hk => by rcases hk with rfl | rfl; exact hgb0; exact hhb0))⟩
  have HR := Az_.mk hr
  have HG := Az_.mk hgh
  have HBX := Az_.mk hbx1
  have HBA := Az_.mk hba
  have HW := Az_.mk hw1
  rw [hw1] at k0
  clear hIF hany hrow hbx hbx1 hxb hx hba hb0 hb1 hs1 hw1 hr hne hgh
  go_enter Try.func92, Try.ntmps92
  go_wp2_with (first | (go_at_call 95; refine (Delete_T hb cb k (k + 1) bs.length cells w2 m1 (by omega) (by omega) hbc hcm m2 (RowIs.one m3)).mono ?_; rintro r w3 ⟨rfl, hsb, _, cells', g1, g2, g3⟩; have hbx3 : w3.heap[gb]? = some (.cells #[.slice (some ⟨hb, 0, none⟩) bs.length cb] 28 (0, 0)) := (hsb.far gb HG.out (blk_lt (kB_ HBX.out HI.out))).trans (kB_ HBX.out HI.out); have f0 : w3.cell? ⟨gb, 0, none⟩ = some (.slice (some ⟨hb, 0, none⟩) bs.length cb) := (yaa_ hbx3 0).trans rfl; have z0 := yab_ hbx3 0; have HD := Az_.mk (FIN.out w2 w3 k cells cells' hk HK.out.1 HK.out.2 HI.out m3 m2 hsb g1 g2 g3); clear hsb g1 g2 g3 hbx3 m1 m2 m3) | (go_at_call 93; rw [← HW.out]; refine hIF2.out.mono ?_; rintro r w2 ⟨k, hk, hp, hpre, rfl, hi⟩; have HI := Az_.mk hi; have HK : Az_ (sameT x bs[k] = true ∧ (∀ j (hj : j < k), sameT x (bs[j]'(by omega)) = false)) := ⟨⟨hp, hpre⟩⟩; have hd : decide ((k : Int) < 0) = false := decide_eq_false (by omega); have e0 : w2.cell? ⟨gb, 0, none⟩ = some (.slice (some ⟨hb, 0, none⟩) bs.length cb) := (yaa_ (kB_ HBX.out hi) 0).trans rfl; obtain ⟨cells, m1, m2, m3⟩ := (HR.out.far (FarB.of_below (S := fun _ => False) HBA.out) (fun h => h)).far (FarB.of_below (S := fun _ => False) hi) (fun h => h); clear hi hp hpre))
  go_ret
  exact ⟨rfl, HD.out⟩
set_option maxHeartbeats 8000000 in
set_option maxRecDepth 100000 in
theorem multi2_calls (w0 : World) (ga ha : Nat) (la : List S30) (y : S30) (Y : Option Addr) (c : Nat) (w : World) (hi : BInv w0 ga ha la w) (hy : Elem w0 y (.slice Y y.f1.length c)) (hfa : ∀ x ∈ la, fit x) (hfy : fit y) :
  Calls Try.prog 97 #[.agg #[.int .i64 y.f0, .slice Y y.f1.length c], .pointer (some ⟨ga, 0, none⟩)] w fun r w' => r = .returned (.bool (!(la.any (fun x => gtT x y)))) ∧ Below w.heap.size w w' := by
 obtain ⟨A, cb, hbx, hbc, hcm, hrow, hb0⟩ := hi
 obtain ⟨w1, hw1⟩ : ∃ w1, w1 = w.alloc (.cells #[.int .i64 y.f0, .slice Y y.f1.length c] 30) := ⟨_, rfl⟩
 have hba : Below w.heap.size w w1 := by rw [hw1]; exact bA_ (Below.refl _ _) _
 have hyb : w1.heap[w.heap.size]? = some (.cells #[.int .i64 y.f0, .slice Y y.f1.length c] 30 (0, 0)) := by rw [hw1]; exact heap_alloc_new _ _
 have hbx1 := kB_ hbx hba
 have hb1 : Below w0.heap.size w0 w1 := hb0.trans (hba.mono hb0.size)
 have hCF := ContainsFunc_inv la.length (by omega) A cb hbc 98 #[.pointer (some ⟨w.heap.size, 0, none⟩)] (fun _ W => Below w1.heap.size w1 W) (fun j => if h : j < la.length then gtT la[j] y else false) (la.any (fun x => gtT x y)) w1 eg98 (fun j hj W hW => by
  have hne : la ≠ [] := fun e => by rw [e] at hj; exact absurd hj (Nat.not_lt_zero _)
  obtain ⟨rfl, hr⟩ := hrow hne
  have hr2 : RowIs w0 W ha la := (hr.far (FarB.of_below (S := fun _ => False) hba) (fun h => h)).far (FarB.of_below (S := fun _ => False) hW) (fun h => h)
  obtain ⟨B, e, he, hat⟩ := hr2.el j hj
  obtain ⟨B', e', heq, hle, hC⟩ := he.read (hb1.trans (hW.mono hb1.size))
  injection heq with h1 h2 h3
  subst h1 h3
  obtain ⟨Y', c', heq, hly, hCY⟩ := hy.read (hb1.trans (hW.mono hb1.size))
  injection heq with h1 h2 h3
  subst h1 h3
  refine ⟨la[j].f0, B, la[j].f1.length, e, hat, ?_⟩
  rw [dif_pos hj]
  obtain ⟨k, ek⟩ := (KGreater_spec la[j] y (hfa _ (List.getElem_mem hj)) hfy).rounds
  exact (great1_calls k w.heap.size la[j] y B Y c e _ W (kB_ hyb hW) hCY hly hC hle ek).mono (fun r w' h => ⟨h.1, hW.trans (h.2.mono hW.size)⟩)) (Below.refl _ _) (by
   rw [List.any_eq_true]
   constructor
   ·rintro ⟨x, hx, hg⟩
    obtain ⟨j, hj, rfl⟩ := List.getElem_of_mem hx
    exact ⟨j, hj, by rw [dif_pos hj]; exact hg⟩
   ·rintro ⟨j, hj, hg⟩
    rw [dif_pos hj] at hg
    exact ⟨la[j], List.getElem_mem hj, hg⟩)
 have k0 : w1.cell? ⟨ga, 0, none⟩ = some (.slice A la.length cb) := (yaa_ hbx1 0).trans rfl
 have HCF := Az_.mk hCF
 have HW := Az_.mk hw1
 have HBA := Az_.mk hba
 rw [hw1] at k0
 obtain ⟨b, hb⟩ : ∃ b, b = la.any (fun x => gtT x y) := ⟨_, rfl⟩
 rw [← hb] at HCF ⊢
 clear hCF hrow hbx hbx1 hyb hy hba hb0 hb1 hw1 hb
 go_enter Try.func97, Try.ntmps97
 go_wp2_with (go_at_call 96; rw [← HW.out]; refine HCF.out.mono ?_; rintro r w2 ⟨rfl, j, _, hi⟩; have HI := Az_.mk hi; clear hi)
 go_ret
 exact ⟨rfl, HBA.out.trans (HI.out.mono HBA.out.size)⟩
end
section
set_option maxHeartbeats 4000000 in
set_option maxRecDepth 100000 in
theorem orient1_calls (k : Nat) (a b : S30) (A B : Option Addr) (c e : Nat) (r : Int) (w : World) (hA : k30.C w A a.f1.length a.f1) (hc : a.f1.length ≤ c) (hB : k30.C w B b.f1.length b.f1) (he : b.f1.length ≤ e) (hk : kbo_Compare.f k a.f0 a.f1 b.f0 b.f1 = some r) :
  Calls Try.prog 100 #[.agg #[.int .i64 a.f0, .slice A a.f1.length c, .int .i64 b.f0, .slice B b.f1.length e]] w fun x w' => x = .returned (.bool (decide (r < 1))) ∧ Below w.heap.size w w' := by
 have hba := bA_ (Below.refl w.heap.size w) (.cells #[.int .i64 a.f0, .slice A a.f1.length c, .int .i64 b.f0, .slice B b.f1.length e] 89)
 have hcl := Az_.mk (kbo_Compare.calls k _ _ _ a.f1 _ _ _ b.f1 r _ (Kd.C_below hA hba) hc (Kd.C_below hB hba) he hk)
 clear hA hB hk
 go_enter Try.func100, Try.ntmps100
 go_wp2_with (go_at_call 43; refine hcl.out.mono ?_; rintro r w2 ⟨rfl, hb⟩; have hb2 := Az_.mk hb; clear hb)
 go_ret
 exact ⟨rfl, (bA_ (Below.refl _ _) _).trans (hb2.out.mono (by simp))⟩
set_option maxHeartbeats 4000000 in
set_option maxRecDepth 100000 in
theorem IndexFunc_P (g cap : Nat) (hcap : 2 ≤ cap) (x0 x1 x2 x3 y0 y1 y2 y3 : Value) (p0 p1 : Bool) (w : World) (hb : w.heap[g]? = some (.cells #[x0, x1, x2, x3, y0, y1, y2, y3] 89 (0, 0)))
  (hx : ∀ W, Below w.heap.size w W → Calls Try.prog 100 #[.agg #[x0, x1, x2, x3]] W fun r w' => r = .returned (.bool p0) ∧ Below W.heap.size W w')
  (hy : ∀ W, Below w.heap.size w W → Calls Try.prog 100 #[.agg #[y0, y1, y2, y3]] W fun r w' => r = .returned (.bool p1) ∧ Below W.heap.size W w') :
  Calls Try.prog 108 #[.slice (some ⟨g, 0, none⟩) 2 cap, .func (.func 100) #[] #[]] w fun r w' => r = .returned (.int .i64 (if p0 = true then 0 else if p1 = true then 1 else -1)) ∧ Below w.heap.size w w' := by
 have HX := Az_.mk hx
 have HY := Az_.mk hy
 have HBK := Az_.mk hb
 clear hx hy hb
 go_enter Try.func108, Try.ntmps108
 go_wp2
 go_loopw [8] (fun i wr => ∃ k : Nat, k ≤ 2 ∧ i = .int .i64 k ∧ Az_ ((1 ≤ k → p0 = false) ∧ (2 ≤ k → p1 = false)) ∧ Az_ (Below w.heap.size w wr)) (fun i wr => 2 - (intOf i).toNat)
 case atStart => exact ⟨0, Nat.zero_le _, rfl, ⟨⟨fun h => absurd h (by decide), fun h => absurd h (by decide)⟩⟩, ⟨Below.refl _ _⟩⟩
 case round =>
  obtain ⟨k, hk, rfl, hp, hbw⟩ := hrel
  have hblk := kB_ HBK.out hbw.out
  rcases (show k = 0 ∨ k = 1 ∨ k = 2 by omega) with rfl | rfl | rfl
  ·have c0 : wr.cell? ⟨g, 0, none⟩ = some x0 := (yaa_ hblk 0).trans rfl
   have c1 : wr.cell? ⟨g, 1, none⟩ = some x1 := (yaa_ hblk 1).trans rfl
   have c2 : wr.cell? ⟨g, 2, none⟩ = some x2 := (yaa_ hblk 2).trans rfl
   have c3 : wr.cell? ⟨g, 3, none⟩ = some x3 := (yaa_ hblk 3).trans rfl
   have hcl := Az_.mk (HX.out wr hbw.out)
   clear hblk
   cases p0 with
   | true =>
    go_wp2_with (go_at_call 100; refine hcl.out.mono ?_; rintro r w3 ⟨rfl, hb3⟩; have hb4 := Az_.mk (hbw.out.trans (hb3.mono hbw.out.size)); clear hb3)
    go_ret
    exact ⟨rfl, hb4.out⟩
   | false =>
    go_wp2_with (go_at_call 100; refine hcl.out.mono ?_; rintro r w3 ⟨rfl, hb3⟩; have hb4 := Az_.mk (hbw.out.trans (hb3.mono hbw.out.size)); clear hb3)
    go_roundw
    case rel => exact ⟨1, by decide, by go_num, ⟨⟨fun _ => trivial, fun h => absurd h (by decide)⟩⟩, hb4⟩
    case measure => simp [intOf]
  ·have c0 : wr.cell? ⟨g, 4, none⟩ = some y0 := (yaa_ hblk 4).trans rfl
   have c1 : wr.cell? ⟨g, 5, none⟩ = some y1 := (yaa_ hblk 5).trans rfl
   have c2 : wr.cell? ⟨g, 6, none⟩ = some y2 := (yaa_ hblk 6).trans rfl
   have c3 : wr.cell? ⟨g, 7, none⟩ = some y3 := (yaa_ hblk 7).trans rfl
   have hcl := Az_.mk (HY.out wr hbw.out)
   have h0 := hp.out.1 (Nat.le_refl _)
   subst h0
   clear hblk
   cases p1 with
   | true =>
    go_wp2_with (go_at_call 100; refine hcl.out.mono ?_; rintro r w3 ⟨rfl, hb3⟩; have hb4 := Az_.mk (hbw.out.trans (hb3.mono hbw.out.size)); clear hb3)
    go_ret
    exact ⟨rfl, hb4.out⟩
   | false =>
    go_wp2_with (go_at_call 100; refine hcl.out.mono ?_; rintro r w3 ⟨rfl, hb3⟩; have hb4 := Az_.mk (hbw.out.trans (hb3.mono hbw.out.size)); clear hb3)
    go_roundw
    case rel => exact ⟨2, by decide, by go_num, ⟨⟨fun _ => trivial, fun _ => trivial⟩⟩, hb4⟩
    case measure => simp [intOf]
  ·have h0 := hp.out.1 (by decide)
   have h1 := hp.out.2 (Nat.le_refl _)
   subst h0 h1
   clear hblk
   go_wp2
   go_ret
   exact ⟨rfl, hbw.out⟩
end
section
theorem clear_P (w : World) (g o n c : Nat) (cs : Array Value) (hg : w.heap[g]? = some (.cells cs 89 (0, 0))) (ho : o + n * 4 ≤ cs.size) :
  ∃ zs : List Value, zs.length = n * 4 ∧ (∀ v ∈ zs, v.oneCell' = true) ∧ ∀ ty, (Builtin.clear_ #[85] ty #[.slice (some ⟨g, o, none⟩) n c]).run Try.prog w = .ok (.tuple #[]) (w.setCells g o zs) := by
 have hzv := Try.zeroValue89
 refine ⟨(Builtin.zeroCells #[.int .i64 0, .slice none 0 0, .int .i64 0, .slice none 0 0] n).toList, by simp [Builtin.zeroCells], fun v hv => ?_, ?_⟩
 ·simp [Builtin.zeroCells] at hv
  obtain ⟨i, hi, rfl⟩ := hv
  have : i % 4 = 0 ∨ i % 4 = 1 ∨ i % 4 = 2 ∨ i % 4 = 3 := by omega
  rcases this with h | h | h | h <;> simp [h] <;> rfl
 ·intro ty
  have hst := run_storeCells_cells (P := Try.prog) g o (Builtin.zeroCells #[.int .i64 0, .slice none 0 0, .int .i64 0, .slice none 0 0] n).toList 0 w (fun j hj => ?_) (fun j hj => ?_) (fun v hv => ?_)
  ·simp only [Nat.add_zero] at hst
   cases n with
   | zero =>
    simp [Builtin.clear_, run_underlying Try.underlying85, Builtin.zeroCells, World.setCells]
   | succ m =>
    simp [Builtin.clear_, run_underlying Try.underlying85, hzv]
    rw [show (Value.agg #[.int .i64 0, .slice none 0 0, .int .i64 0, .slice none 0 0]).cells = #[.int .i64 0, .slice none 0 0, .int .i64 0, .slice none 0 0] from rfl, hst]
    rfl
  ·rw [Nat.add_zero, yaa_ hg]
   simp [Builtin.zeroCells] at hj
   simp
   omega
  ·exact yab_ hg _
  ·simp [Builtin.zeroCells] at hv
   obtain ⟨i, hi, rfl⟩ := hv
   have : i % 4 = 0 ∨ i % 4 = 1 ∨ i % 4 = 2 ∨ i % 4 = 3 := by omega
   rcases this with h | h | h | h <;> simp [h] <;> rfl
def left2 (p0 p1 : Bool) (x y : List Value) : List Value := (if p0 = true then [] else x) ++ (if p1 = true then [] else y)
def left2n (p0 p1 : Bool) : Nat := (if p0 = true then 0 else 1) + (if p1 = true then 0 else 1)
set_option maxHeartbeats 8000000 in
set_option maxRecDepth 100000 in
theorem DeleteFunc_P (g cap : Nat) (hcap : 2 ≤ cap) (hm : cap ≤ 9223372036854775807) (a b u v : Int) (A B U V : Option Addr) (an ac bn bc un uc vn vc : Nat) (p0 p1 : Bool) (w : World)
  (hb : w.heap[g]? = some (.cells #[.int .i64 a, .slice A an ac, .int .i64 b, .slice B bn bc, .int .i64 u, .slice U un uc, .int .i64 v, .slice V vn vc] 89 (0, 0)))
  (hx : ∀ W, Below w.heap.size w W → Calls Try.prog 100 #[.agg #[.int .i64 a, .slice A an ac, .int .i64 b, .slice B bn bc]] W fun r w' => r = .returned (.bool p0) ∧ Below W.heap.size W w')
  (hy : ∀ W, Below w.heap.size w W → Calls Try.prog 100 #[.agg #[.int .i64 u, .slice U un uc, .int .i64 v, .slice V vn vc]] W fun r w' => r = .returned (.bool p1) ∧ Below W.heap.size W w') :
  Calls Try.prog 99 #[.slice (some ⟨g, 0, none⟩) 2 cap, .func (.func 100) #[] #[]] w fun r w' => ∃ cs, r = .returned (.slice (some ⟨g, 0, none⟩) (left2n p0 p1) cap) ∧ SB g w w' ∧ w'.heap[g]? = some (.cells cs 89 (0, 0)) ∧ cs.size = 8 ∧
   ∀ t, t < left2n p0 p1 * 4 → cs[t]? = (left2 p0 p1 [.int .i64 a, .slice A an ac, .int .i64 b, .slice B bn bc] [.int .i64 u, .slice U un uc, .int .i64 v, .slice V vn vc])[t]? := by
 have hgl : g < w.heap.size := by
  rcases Nat.lt_or_ge g w.heap.size with h | h
  ·exact h
  ·rw [Array.getElem?_eq_none h] at hb; cases hb
 have HI := Az_.mk (IndexFunc_P g cap hcap _ _ _ _ _ _ _ _ p0 p1 w hb hx hy)
 have HY := Az_.mk hy
 have HBK := Az_.mk hb
 have HGL := Az_.mk hgl
 have sb : ∀ W, Below w.heap.size w W → SB g w W := fun W h => ⟨h.mono (Nat.le_of_lt hgl), fun k _ hl => h.block k hl⟩
 have HSB := Az_.mk sb
 clear hb hx hy hgl sb
 cases p0 with
 | false =>
  cases p1 with
  | false =>
   go_enter Try.func99, Try.ntmps99
   go_wp2_with (go_at_call 108; refine HI.out.mono ?_; rintro r w2 ⟨rfl, hi⟩; have HW := Az_.mk hi; clear hi)
   go_ret
   exact ⟨_, rfl, HSB.out _ HW.out, kB_ HBK.out HW.out, rfl, fun t ht => by
    have : t = 0 ∨ t = 1 ∨ t = 2 ∨ t = 3 ∨ t = 4 ∨ t = 5 ∨ t = 6 ∨ t = 7 := by simp [left2n] at ht; omega
    rcases this with rfl | rfl | rfl | rfl | rfl | rfl | rfl | rfl <;> rfl⟩
  | true =>
   go_enter Try.func99, Try.ntmps99
   go_wp2_with (go_at_call 108; refine HI.out.mono ?_; rintro r w2 ⟨rfl, hi⟩; have HW := Az_.mk hi; clear hi)
   go_loopw [5, 6] (fun i j wr => i = .int .i64 1 ∧ j = .int .i64 2 ∧ Az_ (Below w.heap.size w wr)) (fun i j wr => 0)
   case atStart => exact ⟨rfl, by go_num, HW⟩
   case round =>
    obtain ⟨rfl, rfl, hbw⟩ := hrel
    have h1 := kB_ HBK.out hbw.out
    obtain ⟨zs, hz1, hz2, hz3⟩ := clear_P wr g 4 1 (cap - 1) _ h1 (show 4 + 1 * 4 ≤ 8 by decide)
    obtain ⟨c2, hd1, hd2, hd3⟩ := blk_setCells zs 4 wr _ h1 (by rw [hz1]; exact (show 4 + 1 * 4 ≤ 8 by decide))
    have FIN := Az_.mk (And.intro (SB.setCells zs 4 wr (HSB.out _ hbw.out)) (And.intro hd1 (And.intro hd2 hd3)))
    clear h1 hz1 hz2 hd1 hd2 hd3
    go_wp2
    go_ret
    exact ⟨c2, rfl, FIN.out.1, FIN.out.2.1, FIN.out.2.2.1, fun t ht => by
     have ht4 : t < 4 := by simpa [left2n] using ht
     rw [FIN.out.2.2.2, if_neg (by omega)]
     have : t = 0 ∨ t = 1 ∨ t = 2 ∨ t = 3 := by omega
     rcases this with rfl | rfl | rfl | rfl <;> rfl⟩
 | true =>
  cases p1 with
  | true =>
   go_enter Try.func99, Try.ntmps99
   go_wp2_with (go_at_call 108; refine HI.out.mono ?_; rintro r w2 ⟨rfl, hi⟩; have HW := Az_.mk hi; clear hi)
   go_loopw [5, 6] (fun i j wr => i = .int .i64 0 ∧ (j = .int .i64 1 ∨ j = .int .i64 2) ∧ Az_ (Below w.heap.size w wr)) (fun i j wr => 2 - (intOf j).toNat)
   case atStart => exact ⟨rfl, .inl (by go_num), HW⟩
   case round =>
    obtain ⟨rfl, rfl | rfl, hbw⟩ := hrel
    ·have h1 := kB_ HBK.out hbw.out
     have c0 : wr.cell? ⟨g, 4, none⟩ = some (.int .i64 u) := (yaa_ h1 4).trans rfl
     have c1 : wr.cell? ⟨g, 5, none⟩ = some (.slice U un uc) := (yaa_ h1 5).trans rfl
     have c2 : wr.cell? ⟨g, 6, none⟩ = some (.int .i64 v) := (yaa_ h1 6).trans rfl
     have c3 : wr.cell? ⟨g, 7, none⟩ = some (.slice V vn vc) := (yaa_ h1 7).trans rfl
     have hba := bA_ hbw.out (.cells #[.int .i64 u, .slice U un uc, .int .i64 v, .slice V vn vc] 89)
     have hcl := Az_.mk (HY.out _ hba)
     have HA := Az_.mk hba
     clear h1 hba
     go_wp2_with (go_at_call 100; refine hcl.out.mono ?_; rintro r w3 ⟨rfl, hb3⟩; have hb4 := Az_.mk (HA.out.trans (hb3.mono HA.out.size)); clear hb3)
     go_roundw
     case rel => exact ⟨rfl, .inr (by go_num), hb4⟩
     case measure => simp [intOf]
    ·have h1 := kB_ HBK.out hbw.out
     obtain ⟨zs, hz1, hz2, hz3⟩ := clear_P wr g 0 2 cap _ h1 (show 0 + 2 * 4 ≤ 8 by decide)
     obtain ⟨c2, hd1, hd2, hd3⟩ := blk_setCells zs 0 wr _ h1 (by rw [hz1]; exact (show 0 + 2 * 4 ≤ 8 by decide))
     have FIN := Az_.mk (And.intro (SB.setCells zs 0 wr (HSB.out _ hbw.out)) (And.intro hd1 hd2))
     clear h1 hz1 hz2 hd1 hd2 hd3
     go_wp2
     go_ret
     exact ⟨c2, rfl, FIN.out.1, FIN.out.2.1, FIN.out.2.2, fun t ht => absurd ht (by simp [left2n])⟩
  | false =>
   go_enter Try.func99, Try.ntmps99
   go_wp2_with (go_at_call 108; refine HI.out.mono ?_; rintro r w2 ⟨rfl, hi⟩; have HW := Az_.mk hi; clear hi)
   go_loopw [5, 6] (fun i j wr => (i = .int .i64 0 ∧ j = .int .i64 1 ∧ Az_ (Below w.heap.size w wr)) ∨ (i = .int .i64 1 ∧ j = .int .i64 2 ∧ Az_ (SB g w wr ∧ ∃ cs, wr.heap[g]? = some (.cells cs 89 (0, 0)) ∧ cs.size = 8 ∧ ∀ t, t < 4 → cs[t]? = ([.int .i64 u, .slice U un uc, .int .i64 v, .slice V vn vc] : List Value)[t]?))) (fun i j wr => 2 - (intOf j).toNat)
   case atStart => exact .inl ⟨rfl, by go_num, HW⟩
   case round =>
    obtain ⟨rfl, rfl, hbw⟩ | ⟨rfl, rfl, hbw⟩ := hrel
    ·have h1 := kB_ HBK.out hbw.out
     have c0 : wr.cell? ⟨g, 4, none⟩ = some (.int .i64 u) := (yaa_ h1 4).trans rfl
     have c1 : wr.cell? ⟨g, 5, none⟩ = some (.slice U un uc) := (yaa_ h1 5).trans rfl
     have c2 : wr.cell? ⟨g, 6, none⟩ = some (.int .i64 v) := (yaa_ h1 6).trans rfl
     have c3 : wr.cell? ⟨g, 7, none⟩ = some (.slice V vn vc) := (yaa_ h1 7).trans rfl
     have hba := bA_ hbw.out (.cells #[.int .i64 u, .slice U un uc, .int .i64 v, .slice V vn vc] 89)
     have hcl := Az_.mk (HY.out _ hba)
     have HA := Az_.mk hba
     have hbox := Az_.mk (heap_alloc_new wr (.cells #[.int .i64 u, .slice U un uc, .int .i64 v, .slice V vn vc] 89))
     clear h1 hba
     go_wp2_with (go_at_call 100; refine hcl.out.mono ?_; rintro r w3 ⟨rfl, hb3⟩; have hb4 := Az_.mk (HA.out.trans (hb3.mono HA.out.size)); have hx := kB_ hbox.out hb3; have y0 : w3.cell? ⟨wr.heap.size, 0, none⟩ = some (.int .i64 u) := (yaa_ hx 0).trans rfl; have y1 : w3.cell? ⟨wr.heap.size, 1, none⟩ = some (.slice U un uc) := (yaa_ hx 1).trans rfl; have y2 : w3.cell? ⟨wr.heap.size, 2, none⟩ = some (.int .i64 v) := (yaa_ hx 2).trans rfl; have y3 : w3.cell? ⟨wr.heap.size, 3, none⟩ = some (.slice V vn vc) := (yaa_ hx 3).trans rfl; have m0 := kB_ HBK.out hb4.out; have m1 := blk_set m0 0 (.int .i64 u); have m2 := blk_set m1 1 (.slice U un uc); have m3 := blk_set m2 2 (.int .i64 v); have m4 := Az_.mk (blk_set m3 3 (.slice V vn vc)); have r0 : w3.cell? ⟨g, 0, none⟩ = some (.int .i64 a) := (yaa_ m0 0).trans rfl; have r1 := (yaa_ m1 1).trans rfl; have r2 := (yaa_ m2 2).trans rfl; have r3 := (yaa_ m3 3).trans rfl; have r1' : w3.cell? ⟨g, 1, none⟩ = some (.slice A an ac) := (yaa_ m0 1).trans rfl; have r2' : w3.cell? ⟨g, 2, none⟩ = some (.int .i64 b) := (yaa_ m0 2).trans rfl; have r3' : w3.cell? ⟨g, 3, none⟩ = some (.slice B bn bc) := (yaa_ m0 3).trans rfl; have z0 := yab_ m0 0; have z1 := yab_ m1 1; have z2 := yab_ m2 2; have z3 := yab_ m3 3; have z1' := yab_ m0 1; have z2' := yab_ m0 2; have z3' := yab_ m0 3; clear hb3 hx m0 m1 m2 m3)
     go_roundw
     case rel =>
      exact .inr ⟨by go_num, by go_num, ⟨((((HSB.out _ hb4.out).setCell 0 _).setCell 1 _).setCell 2 _).setCell 3 _, _, m4.out, rfl, fun t ht => by
       have : t = 0 ∨ t = 1 ∨ t = 2 ∨ t = 3 := by omega
       rcases this with rfl | rfl | rfl | rfl <;> rfl⟩⟩
     case measure => simp [intOf]
    ·obtain ⟨cs, h1, h2, h3⟩ := hbw.out.2
     obtain ⟨zs, hz1, hz2, hz3⟩ := clear_P wr g 4 1 (cap - 1) _ h1 (by omega)
     obtain ⟨c2, hd1, hd2, hd3⟩ := blk_setCells zs 4 wr _ h1 (by rw [hz1]; omega)
     have FIN := Az_.mk (And.intro (SB.setCells zs 4 wr hbw.out.1) (And.intro hd1 (And.intro (hd2.trans h2) (And.intro hd3 h3))))
     clear h1 h2 h3 hz1 hz2 hd1 hd2 hd3
     go_wp2
     go_ret
     exact ⟨c2, rfl, FIN.out.1, FIN.out.2.1, FIN.out.2.2.1, fun t ht => by
      have ht4 : t < 4 := by simpa [left2n] using ht
      rw [FIN.out.2.2.2.1, if_neg (by omega), FIN.out.2.2.2.2 t ht4]
      rfl⟩
end
section
set_option maxHeartbeats 8000000 in
set_option maxRecDepth 100000 in
theorem Orient_P (k : Nat) (s : Bool) (a b : S30) (A B : Option Addr) (c e : Nat) (r1 r2 : Int) (w : World) (hA : k30.C w A a.f1.length a.f1) (hc : a.f1.length ≤ c) (hB : k30.C w B b.f1.length b.f1) (he : b.f1.length ≤ e) (h1 : kbo_Compare.f k a.f0 a.f1 b.f0 b.f1 = some r1) (h2 : kbo_Compare.f k b.f0 b.f1 a.f0 a.f1 = some r2) :
  Calls Try.prog 68 #[.agg #[.bool s, .int .i64 a.f0, .slice A a.f1.length c, .int .i64 b.f0, .slice B b.f1.length e]] w fun x w' => ∃ g cs, x = .returned (.slice (some ⟨g, 0, none⟩) (left2n (decide (r1 < 1)) (decide (r2 < 1))) 2) ∧ w.heap.size ≤ g ∧ Below w.heap.size w w' ∧ w'.heap[g]? = some (.cells cs 89 (0, 0)) ∧ cs.size = 8 ∧
   ∀ t, t < left2n (decide (r1 < 1)) (decide (r2 < 1)) * 4 → cs[t]? = (left2 (decide (r1 < 1)) (decide (r2 < 1)) [.int .i64 a.f0, .slice A a.f1.length c, .int .i64 b.f0, .slice B b.f1.length e] [.int .i64 b.f0, .slice B b.f1.length e, .int .i64 a.f0, .slice A a.f1.length c])[t]? := by
 have hbx := bA_ (Below.refl w.heap.size w) (.cells #[.bool s, .int .i64 a.f0, .slice A a.f1.length c, .int .i64 b.f0, .slice B b.f1.length e] 78)
 have hby := bA_ hbx (.cells #[.int .i64 a.f0, .slice A a.f1.length c, .int .i64 b.f0, .slice B b.f1.length e, .int .i64 b.f0, .slice B b.f1.length e, .int .i64 a.f0, .slice A a.f1.length c] 89)
 have hblk := heap_alloc_new (w.alloc (.cells #[.bool s, .int .i64 a.f0, .slice A a.f1.length c, .int .i64 b.f0, .slice B b.f1.length e] 78)) (.cells #[.int .i64 a.f0, .slice A a.f1.length c, .int .i64 b.f0, .slice B b.f1.length e, .int .i64 b.f0, .slice B b.f1.length e, .int .i64 a.f0, .slice A a.f1.length c] 89)
 rw [show (w.alloc (.cells #[.bool s, .int .i64 a.f0, .slice A a.f1.length c, .int .i64 b.f0, .slice B b.f1.length e] 78)).heap.size = w.heap.size + 1 by simp] at hblk
 have HD := Az_.mk (DeleteFunc_P _ 2 (Nat.le_refl 2) (by decide) _ _ _ _ _ _ _ _ _ _ _ _ _ _ _ _ (decide (r1 < 1)) (decide (r2 < 1)) _ hblk
  (fun W hW => (orient1_calls k a b A B c e r1 W (Kd.C_below hA (hby.trans (hW.mono hby.size))) hc (Kd.C_below hB (hby.trans (hW.mono hby.size))) he h1))
  (fun W hW => (orient1_calls k b a B A e c r2 W (Kd.C_below hB (hby.trans (hW.mono hby.size))) he (Kd.C_below hA (hby.trans (hW.mono hby.size))) hc h2)))
 have HY := Az_.mk hby
 clear hA hB h1 h2 hblk hbx hby
 go_enter Try.func68, Try.ntmps68
 go_wp2_with (go_at_call 99; refine HD.out.mono ?_; rintro x w3 ⟨cs, rfl, h⟩; have H := Az_.mk h; clear h)
 go_ret
 exact ⟨_, cs, rfl, Nat.le_succ _, HY.out.trans (H.out.1.below.mono (Nat.le_succ _)), H.out.2⟩
end
section
def Told.keeps (F : World → World → Prop) (p : Told) : Prop := ∀ u (w w' : World), p u w → F w w' → p u w'
abbrev BoxI := (Nat → Value) → (Nat → Bool) → World → Prop
section
variable {P : Program} {ops : Array Oper} {Q : Exit → Act → World → Prop}
def DetStepJ (P : Program) (ops : Array Oper) (Q : Exit → Act → World → Prop) (base : Array Value) (ds : List Deferred) (w0 : World) (F : World → World → Prop) (J : BoxI) (rs : List Told) (i : Nat) (o : Oper) (p : Told) : Prop :=
 ∀ (v : Nat → Value) (d : Nat → Bool) (T : Array Value) (w : World), Below w0.heap.size w0 w → J v d w → d i = false →
  (∀ j t p, j < i → (o.after.any fun e => Region.binds .any e && decide (e.on = j)) = true → dstOf ops j = some t → rs[i - 1 - j]? = some p → p (T.getD t undef) w) →
  (∀ j, (o.after.any fun e => Region.binds .any e && decide (e.on = j)) = true → d j = true ∧ ∀ t, dstOf ops j = some t → T.getD t undef = v j) →
  (∀ t, ((List.range ops.size).all fun j => decide (dstOf ops j ≠ some t)) = true → T.getD t undef = base.getD t undef) →
  ∀ K : Act → World → Prop, (∀ u w2, F w w2 → Below w0.heap.size w0 w2 → p u w2 → J (upd v i u) (upd d i true) w2 → K ({ tmps := T, defers := ds : Act }.put o.dst u) w2) →
   if Region.wanted o (yielded ops T) = true then Oper.wp P o { tmps := T, defers := ds } w K Q else K ({ tmps := T, defers := ds : Act }.put o.dst undef) w
def DetJ (P : Program) (ops : Array Oper) (Q : Exit → Act → World → Prop) (base : Array Value) (ds : List Deferred) (w0 : World) (F : World → World → Prop) (J : BoxI) (m i : Nat) (rs : List Told) : Prop :=
 rs.length = i → ∃ full : List Told, full.length = m ∧ full.take i = rs.reverse ∧
  (∀ j, i ≤ j → j < m → ∀ o p, ops[j]? = some o → full[j]? = some p → p.keeps F ∧ DetStepJ P ops Q base ds w0 F J (full.take j).reverse j o p) ∧
  ∀ v w', Below w0.heap.size w0 w' → (∀ (j : Nat) (p : Told), full[j]? = some p → p (v j) w') → (∀ d, (∀ i, i < m → d i = true) → J v d w' → Q .normal { tmps := layAll ops v base, defers := ds } w')
theorem DetJ.cons {base : Array Value} {ds : List Deferred} {w0 : World} {F : World → World → Prop} {J : BoxI} {m i : Nat} {rs : List Told} {o : Oper} (p : Told) (ho : ops[i]? = some o) (him : i < m) (hg : p.keeps F)
  (h : DetStepJ P ops Q base ds w0 F J rs i o p) (hs : DetJ P ops Q base ds w0 F J m (i + 1) (p :: rs)) : DetJ P ops Q base ds w0 F J m i rs := fun hl => by
 obtain ⟨full, h1, h2, h3, h4⟩ := hs (by rw [List.length_cons, hl])
 rw [List.reverse_cons] at h2
 have htk : full.take i = rs.reverse := by
  have h5 : full.take i = (full.take (i + 1)).take i := by rw [List.take_take, Nat.min_eq_left (by omega)]
  rw [h5, h2, List.take_append_of_le_length (by rw [List.length_reverse]; omega), List.take_of_length_le (by rw [List.length_reverse]; omega)]
 refine ⟨full, h1, htk, fun j hj hjm o' p' ho' hp' => ?_, h4⟩
 rcases Nat.lt_or_ge i j with hlt | hge
 ·exact h3 j hlt hjm o' p' ho' hp'
 ·have hji : j = i := by omega
  subst hji
  rw [ho] at ho'
  injection ho' with ho'
  subst ho'
  have h5 : full[j]? = some p := by
   have h6 : (full.take (j + 1))[j]? = (rs.reverse ++ [p])[j]? := by rw [h2]
   rw [List.getElem?_take_of_lt (by omega), List.getElem?_append_right (by rw [List.length_reverse]; omega)] at h6
   rw [h6]
   simp [hl]
  rw [h5] at hp'
  injection hp' with hp'
  subst hp'
  rw [htk, List.reverse_reverse]
  exact ⟨hg, h⟩
theorem region_detJ {id : Nat} {a : Act} {w : World} (F : World → World → Prop) (J : BoxI) (m : Nat) (hF : F w w.drew) (hJ : ∀ v, J v (fun _ => false) w.drew) (hm : P.follows .mixedOrders = true) (hr : regionOk ops a.tmps.size = true) (hms : ops.size = m) (h : DetJ P ops Q a.tmps a.defers w F J m 0 []) : (Code.region id ops true).wp P Q a w := by
 obtain ⟨full, h1, _, h3, h4⟩ := h rfl
 refine region_vals hm hr (fun v d w' => DetI w full v d w' ∧ J v d w') (fun v => ⟨⟨bN_ (Below.refl _ _) 1, fun j hj => by cases hj⟩, hJ v⟩) (fun i => ?_)
  (fun v d w' hall hI => h4 v w' hI.1.1 (fun j p hp => hI.1.2 j (hall j (by have := (List.getElem?_eq_some_iff.1 hp).1; omega)) p hp) d (fun i hi => hall i (by omega)) hI.2)
 intro o ho v d T w' hH hI hd hdep K hK
 have him : i < m := by have := (Array.getElem?_eq_some_iff.1 ho).1; omega
 have hp : full[i]? = some full[i] := List.getElem?_eq_getElem (by omega)
 obtain ⟨hg, hs⟩ := h3 i (Nat.zero_le _) him o _ ho hp
 have hlen : (full.take i).reverse.length = i := by rw [List.length_reverse, List.length_take]; omega
 have hd2 : ∀ j, (o.after.any fun e => Region.binds .any e && decide (e.on = j)) = true → d j = true := by
  intro j hj
  rw [Array.any_eq_true'] at hj
  obtain ⟨e, he, h5⟩ := hj
  rw [Bool.and_eq_true, decide_eq_true_eq] at h5
  rw [← h5.2]
  exact hdep e he h5.1
 refine hs v d T w' hI.1.1 hI.2 hd (fun j t p hji hj hjt hjp => ?_) (fun j hj => ⟨hd2 j hj, fun t ht => hH.done j t (hd2 j hj) ht⟩) (fun t ht => hH.base t (fun j _ e => ?_)) K (fun u w2 hF2 hb2 hu hJ2 => hK u w2 ⟨⟨hb2, fun j hj p hjp => ?_⟩, hJ2⟩)
 ·have hdj := hd2 j hj
  rw [hH.done j t hdj hjt]
  have h6 := rev_at hlen hji hjp
  rw [List.reverse_reverse, List.getElem?_take_of_lt hji] at h6
  exact hI.1.2 j hdj p h6
 ·rw [List.all_eq_true] at ht
  rcases Nat.lt_or_ge j ops.size with hlt | hge
  ·exact of_decide_eq_true (ht j (List.mem_range.2 hlt)) e
  ·unfold dstOf at e
   rw [Array.getElem?_eq_none hge] at e
   cases e
 ·by_cases hji : j = i
  ·subst hji
   rw [hp] at hjp
   injection hjp with hjp
   subst hjp
   rw [upd_same]
   exact hu
  ·rw [yae_ _ _ hji] at hj ⊢
   have hjm : j < m := by have := (List.getElem?_eq_some_iff.1 hjp).1; omega
   exact (h3 j (Nat.zero_le _) hjm _ p (Array.getElem?_eq_getElem (by omega)) hjp).1 _ _ _ (hI.1.2 j hj p hjp) hF2
theorem DetJ.told {base : Array Value} {ds : List Deferred} {w0 : World} {F : World → World → Prop} {J : BoxI} {m i : Nat} {rs : List Told} {o : Oper} (hF : ∀ w w', Below w.heap.size w w' → F w w') (S : List Nat)
  (hJ : ∀ i, i ∉ S → ∀ v d (w w' : World) u, J v d w → d i = false → Below w.heap.size w w' → J (upd v i u) (upd d i true) w') (p : Told) (ho : ops[i]? = some o) (him : i < m) (hS : i ∉ S) (hg : p.keeps F)
  (h : ∀ (T : Array Value) (w : World), Below w0.heap.size w0 w →
   (∀ j t p, j < i → (o.after.any fun e => Region.binds .any e && decide (e.on = j)) = true → dstOf ops j = some t → rs[i - 1 - j]? = some p → p (T.getD t undef) w) →
   (∀ t, ((List.range ops.size).all fun j => decide (dstOf ops j ≠ some t)) = true → T.getD t undef = base.getD t undef) →
   ∀ K : Act → World → Prop, (∀ u w2, Below w.heap.size w w2 → p u w2 → K ({ tmps := T, defers := ds : Act }.put o.dst u) w2) →
    if Region.wanted o (yielded ops T) = true then Oper.wp P o { tmps := T, defers := ds } w K Q else K ({ tmps := T, defers := ds : Act }.put o.dst undef) w)
  (hs : DetJ P ops Q base ds w0 F J m (i + 1) (p :: rs)) : DetJ P ops Q base ds w0 F J m i rs :=
 DetJ.cons p ho him hg (fun v d T w hb hj hd h1 h2 hB K hK => h T w hb h1 hB K (fun u w2 hb2 hu => hK u w2 (hF _ _ hb2) (hb.trans (hb2.mono hb.size)) hu (hJ i hS v d w w2 u hj hd hb2))) hs
theorem DetJ.is {base : Array Value} {ds : List Deferred} {w0 : World} {F : World → World → Prop} {J : BoxI} {m i : Nat} {rs : List Told} {o : Oper} {u : Value} (hF : ∀ w w', Below w.heap.size w w' → F w w') (S : List Nat)
  (hJ : ∀ i, i ∉ S → ∀ v d (w w' : World) u, J v d w → d i = false → Below w.heap.size w w' → J (upd v i u) (upd d i true) w') (ho : ops[i]? = some o) (him : i < m) (hS : i ∉ S)
  (h : ∀ (T : Array Value) (w : World), Below w0.heap.size w0 w →
   (∀ j t p, j < i → (o.after.any fun e => Region.binds .any e && decide (e.on = j)) = true → dstOf ops j = some t → rs[i - 1 - j]? = some p → p (T.getD t undef) w) →
   (∀ t, ((List.range ops.size).all fun j => decide (dstOf ops j ≠ some t)) = true → T.getD t undef = base.getD t undef) →
   ∀ K : Act → World → Prop, (∀ w2, Below w.heap.size w w2 → K ({ tmps := T, defers := ds : Act }.put o.dst u) w2) →
    if Region.wanted o (yielded ops T) = true then Oper.wp P o { tmps := T, defers := ds } w K Q else K ({ tmps := T, defers := ds : Act }.put o.dst undef) w)
  (hs : DetJ P ops Q base ds w0 F J m (i + 1) (Told.is u :: rs)) : DetJ P ops Q base ds w0 F J m i rs :=
 DetJ.told hF S hJ (Told.is u) ho him hS (fun _ _ _ h _ => h) (fun T w hb h1 hB K hK => h T w hb h1 hB K (fun w2 h2 => hK u w2 h2 rfl)) hs
theorem DetJ.done {base : Array Value} {ds : List Deferred} {w0 : World} {F : World → World → Prop} {J : BoxI} {m i : Nat} {rs : List Told} (l : List (Option Tmp)) (hd : (List.range m).map (dstOf ops) = l) (hms : ops.size = m) (hi : i = m)
  (h : ∀ v d w', Below w0.heap.size w0 w' → (∀ (j : Nat) (p : Told), j < m → rs[m - 1 - j]? = some p → p (v j) w') → (∀ i, i < m → d i = true) → J v d w' → Q .normal { tmps := layL l 0 v base, defers := ds } w') : DetJ P ops Q base ds w0 F J m i rs := fun hl => by
 subst hi
 refine ⟨rs.reverse, by rw [List.length_reverse]; exact hl, List.take_of_length_le (by rw [List.length_reverse]; omega), fun j hj hjm => by omega, fun v w' hb hv d hall hJ => ?_⟩
 have e : layAll ops v base = layL l 0 v base := by
  rw [← layFirst_layL hd]
  unfold layAll layFirst
  rw [hms]
  try rfl
 rw [e]
 exact h v d w' hb (fun j p hj h1 => hv j p (rev_at hl hj h1)) hall hJ
end
structure Bx where
 ia : Nat
 is : Nat
 ix : Nat
def Boxes (N : Nat) (z : Array Value) (t : TypeId) (l : List Bx) : BoxI := fun v d w =>
 (∀ b ∈ l, d b.ia = true → ∃ g, v b.ia = .pointer (some ⟨g, 0, none⟩) ∧ N ≤ g ∧ g < w.heap.size ∧ w.heap[g]? = some (.cells (if d b.is = true then cellsOf (v b.ix) else z) t (0, 0))) ∧
 (∀ b ∈ l, d b.is = true → d b.ia = true ∧ d b.ix = true) ∧
 (∀ b ∈ l, ∀ b' ∈ l, b.ia ≠ b'.ia → d b.ia = true → d b'.ia = true → v b.ia ≠ v b'.ia)
def Boxes.ids (l : List Bx) : List Nat := l.flatMap fun b => [b.ia, b.is]
theorem Boxes.start (N : Nat) (z : Array Value) (t : TypeId) (l : List Bx) (v : Nat → Value) (w : World) : Boxes N z t l v (fun _ => false) w := ⟨fun _ _ h => (by cases h), fun _ _ h => (by cases h), fun _ _ _ _ _ h => (by cases h)⟩
theorem Boxes.other {N : Nat} {z : Array Value} {t : TypeId} {l : List Bx} (i : Nat) (hi : i ∉ Boxes.ids l) (v : Nat → Value) (d : Nat → Bool) (w w' : World) (u : Value) (h : Boxes N z t l v d w) (hd : d i = false) (hb : Below w.heap.size w w') : Boxes N z t l (upd v i u) (upd d i true) w' := by
 obtain ⟨h1, h2, h3⟩ := h
 have ha : ∀ b ∈ l, b.ia ≠ i := fun b hbl e => hi (List.mem_flatMap.2 ⟨b, hbl, by simp [e]⟩)
 have hs : ∀ b ∈ l, b.is ≠ i := fun b hbl e => hi (List.mem_flatMap.2 ⟨b, hbl, by simp [e]⟩)
 refine ⟨fun b hbl hda => ?_, fun b hbl hds => ?_, fun b hbl b' hbl' hne hda hda' => ?_⟩
 ·rw [yae_ _ _ (ha b hbl)] at hda ⊢
  rw [yae_ _ _ (hs b hbl)]
  obtain ⟨g, e1, e2, e3, e4⟩ := h1 b hbl hda
  refine ⟨g, e1, e2, Nat.lt_of_lt_of_le e3 hb.size, ?_⟩
  have e5 := kB_ e4 hb
  by_cases hx : d b.is = true
  ·have hxx := (h2 b hbl hx).2
   have hxi : b.ix ≠ i := fun e => by rw [e, hd] at hxx; cases hxx
   rw [yae_ _ _ hxi]
   exact e5
  ·rw [if_neg hx] at e5 ⊢
   exact e5
 ·rw [yae_ _ _ (hs b hbl)] at hds
  rw [yae_ _ _ (ha b hbl)]
  have := h2 b hbl hds
  refine ⟨this.1, ?_⟩
  by_cases hxi : b.ix = i
  ·rw [hxi, upd_same]
  ·rw [yae_ _ _ hxi]; exact this.2
 ·rw [yae_ _ _ (ha b hbl)] at hda ⊢
  rw [yae_ _ _ (ha b' hbl')] at hda' ⊢
  exact h3 b hbl b' hbl' hne hda hda'
theorem Boxes.alloc {N : Nat} {z : Array Value} {t : TypeId} {l : List Bx} (i : Nat) (hs : ∀ b ∈ l, b.is ≠ i) (hx : ∀ b ∈ l, b.ix ≠ i) (v : Nat → Value) (d : Nat → Bool) (w : World) (h : Boxes N z t l v d w) (hd : d i = false) (hN : N ≤ w.heap.size) :
  Boxes N z t l (upd v i (.pointer (some ⟨w.heap.size, 0, none⟩))) (upd d i true) (w.alloc (.cells z t (0, 0))) := by
 obtain ⟨h1, h2, h3⟩ := h
 have hb : Below w.heap.size w (w.alloc (.cells z t (0, 0))) := bA_ (Below.refl _ _) _
 have old : ∀ b ∈ l, b.ia ≠ i → d b.ia = true → v b.ia ≠ .pointer (some ⟨w.heap.size, 0, none⟩) := fun b hbl _ hda e => by
  obtain ⟨g, e1, _, e3, _⟩ := h1 b hbl hda
  rw [e1] at e
  injection e with e
  injection e with e
  injection e with e
  omega
 refine ⟨fun b hbl hda => ?_, fun b hbl hds => ?_, fun b hbl b' hbl' hne hda hda' => ?_⟩
 ·rw [yae_ _ _ (hs b hbl), yae_ _ _ (hx b hbl)]
  by_cases hi : b.ia = i
  ·rw [hi, upd_same]
   refine ⟨_, rfl, hN, by have := blk_lt (heap_alloc_new w (.cells z t (0, 0))); exact this, ?_⟩
   have hn : ¬ d b.is = true := fun hc => by have := (h2 b hbl hc).1; rw [hi, hd] at this; cases this
   rw [if_neg hn]
   exact heap_alloc_new _ _
  ·rw [yae_ _ _ hi] at hda ⊢
   obtain ⟨g, e1, e2, e3, e4⟩ := h1 b hbl hda
   exact ⟨g, e1, e2, Nat.lt_of_lt_of_le e3 hb.size, kB_ e4 hb⟩
 ·rw [yae_ _ _ (hs b hbl)] at hds
  rw [yae_ _ _ (hx b hbl)]
  have := h2 b hbl hds
  refine ⟨?_, this.2⟩
  by_cases hi : b.ia = i
  ·rw [hi, upd_same]
  ·rw [yae_ _ _ hi]; exact this.1
 ·by_cases hi : b.ia = i
  ·have hi' : b'.ia ≠ i := fun e => hne (hi.trans e.symm)
   rw [yae_ _ _ hi'] at hda'
   rw [hi, upd_same, yae_ _ _ hi']
   exact fun e => old b' hbl' hi' hda' e.symm
  ·rw [yae_ _ _ hi] at hda
   rw [yae_ _ _ hi]
   by_cases hi' : b'.ia = i
   ·rw [hi', upd_same]
    exact old b hbl hi hda
   ·rw [yae_ _ _ hi'] at hda' ⊢
    exact h3 b hbl b' hbl' hne hda hda'
theorem Boxes.fill {N : Nat} {z : Array Value} {t : TypeId} {l : List Bx} (b : Bx) (hbl : b ∈ l) (hs : ∀ b' ∈ l, b'.is = b.is → b' = b) (ha : ∀ b' ∈ l, b'.ia ≠ b.is) (hx : ∀ b' ∈ l, b'.ix ≠ b.is) (hne : ∀ b' ∈ l, b' ≠ b → b'.ia ≠ b.ia) (v : Nat → Value) (d : Nat → Bool) (w w' : World) (u : Value) (g : Nat) (h : Boxes N z t l v d w)
  (hda : d b.ia = true) (hdx : d b.ix = true) (hva : v b.ia = .pointer (some ⟨g, 0, none⟩)) (hw : w'.heap[g]? = some (.cells (cellsOf (v b.ix)) t (0, 0))) (hother : ∀ k, k ≠ g → w'.heap[k]? = w.heap[k]?) (hsz : w'.heap.size = w.heap.size) :
  Boxes N z t l (upd v b.is u) (upd d b.is true) w' := by
 obtain ⟨h1, h2, h3⟩ := h
 refine ⟨fun c hcl hdc => ?_, fun c hcl hds => ?_, fun c hcl c' hcl' hne' hdc hdc' => ?_⟩
 ·rw [yae_ _ _ (ha c hcl)] at hdc ⊢
  rw [yae_ _ _ (hx c hcl)]
  obtain ⟨g', e1, e2, e3, e4⟩ := h1 c hcl hdc
  by_cases hcb : c = b
  ·subst hcb
   rw [upd_same, if_pos rfl]
   rw [e1] at hva
   injection hva with hva
   injection hva with hva
   injection hva with hva
   subst hva
   exact ⟨g', e1, e2, by omega, hw⟩
  ·have hgg : g' ≠ g := fun e => h3 c hcl b hbl (hne c hcl hcb) hdc hda (by rw [e1, hva, e])
   rw [yae_ _ _ (fun e => hcb (hs c hcl e))]
   exact ⟨g', e1, e2, by omega, (hother g' hgg).trans e4⟩
 ·rw [yae_ _ _ (ha c hcl), yae_ _ _ (hx c hcl)]
  by_cases hcb : c = b
  ·subst hcb
   exact ⟨hda, hdx⟩
  ·rw [yae_ _ _ (fun e => hcb (hs c hcl e))] at hds
   exact h2 c hcl hds
 ·rw [yae_ _ _ (ha c hcl)] at hdc ⊢
  rw [yae_ _ _ (ha c' hcl')] at hdc' ⊢
  exact h3 c hcl c' hcl' hne' hdc hdc'
theorem setCell_size (w : World) (a : Addr) (x : Value) : (w.setCell a x).heap.size = w.heap.size := by simp [World.setCell]
end
end Go.Proofs.Ytpfddihcikiofaa.P
