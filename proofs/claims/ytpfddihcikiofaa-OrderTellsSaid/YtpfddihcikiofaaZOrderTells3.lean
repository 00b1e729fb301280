/- The law OrderTells holds of every input. Part 3 of 6: GCmp, GLaw06, GCovers, PxSoritesref06Same, PxSoritesref06Flat, PxSoritesref06Vars, PxSoriteslaw06To, GSpec, PxSoritesref10Count, PxSoritesref10Covers, PxSoritesref10Greater, PxSoritesref10Compare. -/
import Derived.Test.YtpfddihcikiofaaZOrderTells2
import Derived.Maps.OwnOps
import Derived.Maps.RangeWalk
import Derived.Test.YtpfddihcikiofaaZOrderTells1
namespace Go.Proofs.Ytpfddihcikiofaa.P
open Go.RowKit Go.Proofs.YtpfddihcikiofaaW.PrintWords Go.Proofs.YtpfddihcikiofaaW.PrintLast Go.Proofs.YtpfddihcikiofaaW.PrintMore
set_option linter.unusedVariables false
set_option linter.unusedSimpArgs false
section
theorem cmpI_neg (a b : Int) : cmpI b a = - cmpI a b := by unfold cmpI; (repeat' split) <;> omega
theorem cmpI_self (a : Int) : cmpI a a = 0 := by unfold cmpI; (repeat' split) <;> omega
theorem orI_neg (a b c : Int) : orI (-a) (-b) (-c) = - orI a b c := by unfold orI; (repeat' split) <;> omega
theorem cmp_anti : ∀ x y : S30, cmpT y x = - cmpT x y := by
 refine S30.ind ?_
 intro f l ih y
 obtain ⟨g, m⟩ := y
 have hl : ∀ (l : List S30), (∀ x ∈ l, ∀ y, cmpT y x = - cmpT x y) → ∀ m, cmpTs m l = - cmpTs l m := by
  intro l
  induction l with
  | nil => intro _ m; cases m <;> simp [cmpTs]
  | cons x l ihl =>
   intro h m
   cases m with
   | nil => simp [cmpTs]
   | cons y m =>
    have h1 := h x (by simp) y
    have h2 := ihl (fun x hx => h x (by simp [hx])) m
    simp only [cmpTs, h1, h2]
    by_cases h0 : cmpT x y = 0
    ·simp [h0]
    ·rw [if_neg (by omega), if_neg h0]
 simp only [cmpT]
 by_cases h1 : f < 0 ∨ g < 0
 ·rw [if_pos h1, if_pos h1.symm]
  by_cases h2 : f < 0 ∧ g < 0
  ·rw [if_pos h2, if_pos h2.symm]; exact cmpI_neg g f
  ·rw [if_neg h2, if_neg (fun h => h2 h.symm)]; exact cmpI_neg f g
 ·rw [if_neg h1, if_neg (fun h => h1 h.symm), hl l ih m, cmpI_neg f g, cmpI_neg (l.length : Int) m.length, orI_neg]
theorem cmp_self : ∀ x : S30, cmpT x x = 0 := by
 intro x
 have := cmp_anti x x
 omega
def T3 (p q r : Int) : Prop := p ≤ 0 → q ≤ 0 → r ≤ 0 ∧ (r = 0 ↔ p = 0 ∧ q = 0)
theorem T3.cmpI (a b c : Int) : T3 (cmpI a b) (cmpI b c) (cmpI a c) := by unfold T3 P.cmpI; (repeat' split) <;> omega
theorem orI_spec (a b c : Int) : (a ≠ 0 ∧ orI a b c = a) ∨ (a = 0 ∧ b ≠ 0 ∧ orI a b c = b) ∨ (a = 0 ∧ b = 0 ∧ orI a b c = c) := by unfold orI; (repeat' split) <;> omega
theorem T3.or {p q r p' q' r' p2 q2 r2 : Int} (h : T3 p q r) (h' : T3 p' q' r') (h2 : T3 p2 q2 r2) : T3 (orI p p' p2) (orI q q' q2) (orI r r' r2) := by
 have e1 := orI_spec p p' p2
 have e2 := orI_spec q q' q2
 have e3 := orI_spec r r' r2
 generalize orI p p' p2 = P at e1 ⊢
 generalize orI q q' q2 = Q at e2 ⊢
 generalize orI r r' r2 = R at e3 ⊢
 unfold T3 at *
 rcases e1 with e1 | e1 | e1 <;> rcases e2 with e2 | e2 | e2 <;> rcases e3 with e3 | e3 | e3 <;> intro h3 h4 <;> omega
theorem pick_spec (a b : Int) : (a = 0 ∧ (if a = 0 then b else a) = b) ∨ (a ≠ 0 ∧ (if a = 0 then b else a) = a) := by split <;> omega
theorem T3.pick {p q r p' q' r' : Int} (h : T3 p q r) (h' : T3 p' q' r') : T3 (if p = 0 then p' else p) (if q = 0 then q' else q) (if r = 0 then r' else r) := by
 have e1 := pick_spec p p'
 have e2 := pick_spec q q'
 have e3 := pick_spec r r'
 generalize (if p = 0 then p' else p) = P at e1 ⊢
 generalize (if q = 0 then q' else q) = Q at e2 ⊢
 generalize (if r = 0 then r' else r) = R at e3 ⊢
 unfold T3 at *
 rcases e1 with e1 | e1 <;> rcases e2 with e2 | e2 <;> rcases e3 with e3 | e3 <;> intro h3 h4 <;> omega
theorem cmp_trans : ∀ x y z : S30, T3 (cmpT x y) (cmpT y z) (cmpT x z) := by
 refine S30.ind ?_
 intro f l ih y z
 obtain ⟨g, m⟩ := y
 obtain ⟨h, n⟩ := z
 have hl : ∀ (l : List S30), (∀ x ∈ l, ∀ y z, T3 (cmpT x y) (cmpT y z) (cmpT x z)) → ∀ m n, T3 (cmpTs l m) (cmpTs m n) (cmpTs l n) := by
  intro l
  induction l with
  | nil =>
   intro _ m n
   cases m <;> cases n <;> simp [cmpTs, T3]
  | cons x l ihl =>
   intro h m n
   cases m with
   | nil => cases n <;> simp [cmpTs, T3]
   | cons y m =>
    cases n with
    | nil => simp [cmpTs, T3]
    | cons z n =>
     have h1 := h x (by simp) y z
     have h2 := ihl (fun x hx => h x (by simp [hx])) m n
     simp only [cmpTs]
     exact T3.pick h1 h2
 simp only [cmpT]
 by_cases hf : f < 0 <;> by_cases hg : g < 0 <;> by_cases hh : h < 0 <;> simp only [hf, hg, hh, true_or, or_true, true_and, and_true, false_or, or_false, and_false, false_and, and_self, or_self, if_true, if_false]
 ·unfold T3 cmpI; (repeat' split) <;> omega
 ·unfold T3 cmpI; (repeat' split) <;> omega
 ·unfold T3 cmpI; (repeat' split) <;> omega
 ·have e1 := orI_spec (cmpI g h) (cmpI m.length n.length) (cmpTs m n); generalize orI (cmpI g h) (cmpI m.length n.length) (cmpTs m n) = X at e1 ⊢; unfold T3 cmpI at *; (repeat' split) <;> omega
 ·unfold T3 cmpI; (repeat' split) <;> omega
 ·unfold T3 cmpI; (repeat' split) <;> omega
 ·have e1 := orI_spec (cmpI f g) (cmpI l.length m.length) (cmpTs l m); generalize orI (cmpI f g) (cmpI l.length m.length) (cmpTs l m) = X at e1 ⊢; unfold T3 cmpI at *; (repeat' split) <;> omega
 ·exact T3.or (T3.cmpI f g h) (T3.cmpI _ _ _) (hl l ih m n)
mutual
def cloneT : S30 → S30
 | ⟨f, l⟩ => ⟨f, if f < 0 then [] else cloneTs l⟩
def cloneTs : List S30 → List S30
 | [] => []
 | x :: r => cloneT x :: cloneTs r
end
theorem cloneTs_eq (l : List S30) : cloneTs l = l.map cloneT := by
 induction l with
 | nil => rfl
 | cons x l ih => simp [cloneTs, ih]
theorem cmp_clone : ∀ x : S30, cmpT (cloneT x) x = 0 := by
 refine S30.ind ?_
 intro f l ih
 have hl : ∀ (l : List S30), (∀ x ∈ l, cmpT (cloneT x) x = 0) → cmpTs (cloneTs l) l = 0 := by
  intro l
  induction l with
  | nil => intro _; simp [cloneTs, cmpTs]
  | cons x l ihl =>
   intro h
   simp only [cloneTs, cmpTs, h x (by simp), if_true]
   exact ihl (fun x hx => h x (by simp [hx]))
 simp only [cloneT, cmpT]
 by_cases hf : f < 0
 ·simp [hf, cmpI_self]
 ·simp only [hf, or_self, and_self, if_false]
  rw [hl l ih, cmpI_self, cloneTs_eq, List.length_map, cmpI_self]
  rfl
theorem Same_of (x y : S30) : term_Same.f x.f0 x.f1 y.f0 y.f1 = some (cmpT x y == 0) := by
 simp only [term_Same.f, term_Compare.f, S30.eta, Option.bind_some]
end
section
theorem Size_is {t : S30} (h : (nodes t).length ≤ 1099511627776) : term_Size.f t.f0 t.f1 = some ((nodes t).length : Int) := by
 unfold term_Size.f
 rw [S30.eta, flatP_len, if_pos h]
end
section
open Go.RowKit Go.Maps Go.Proofs.YtpfddihcikiofaaW.PrintWords Go.Proofs.YtpfddihcikiofaaW.PrintLast Go.Proofs.YtpfddihcikiofaaW.PrintMore
theorem law3 : Keyed Try.prog 3 := int_keyed Try.underlying3
theorem zero3 (w : World) : (zeroValue 3).run Try.prog w = .ok (.int .i64 0) w := by kernel_rfl
abbrev i64D (c : Int) : DataW Unit := .lit (.int .i64 c)
def ReadsM (D : DataW Unit) (g : Int → Int) : Prop := IsMap D ∧ ∀ x, (Lit.int .i64 x).wf = true → D.atKey (.int .i64 x) (i64D 0) = i64D (g x)
def addV (g : Int → Int) (s : Int) (l : List S30) : Int → Int := fun x => g x + (if x < 0 then s * (countN x l : Int) else 0)
theorem addV_nil (g : Int → Int) (s : Int) : addV g s [] = g := by
 funext x
 simp [addV, countN]
theorem countN_append (x : Int) (l m : List S30) : countN x (l ++ m) = countN x l + countN x m := by simp [countN]
theorem countN_le (x : Int) (l : List S30) : countN x l ≤ l.length := by unfold countN; exact List.length_filter_le _ _
theorem addV_append (g : Int → Int) (s : Int) (l m : List S30) : addV g s (l ++ m) = addV (addV g s l) s m := by
 funext x
 simp only [addV, countN_append]
 split
 ·rw [Int.natCast_add, Int.mul_add]; omega
 ·omega
theorem addV_bound {g : Int → Int} {s M : Int} (hs : s = 1 ∨ s = -1) (h : ∀ x, -M ≤ g x ∧ g x ≤ M) (l : List S30) (x : Int) : -(M + l.length) ≤ addV g s l x ∧ addV g s l x ≤ M + l.length := by
 have h1 := countN_le x l
 have h2 := h x
 unfold addV
 split
 ·rcases hs with rfl | rfl
  ·rw [Int.one_mul]; omega
  ·rw [Int.neg_mul, Int.one_mul]; omega
 ·omega
def SmallN (t : S30) : Prop := ∀ x ∈ nodes t, -1000000 ≤ x.f0 ∧ x.f0 ≤ 1000000
theorem nodess_take (l : List S30) (k : Nat) (h : k < l.length) : nodess (l.take (k + 1)) = nodess (l.take k) ++ nodes l[k] := by
 have key : ∀ a b : List S30, nodess (a ++ b) = nodess a ++ nodess b := by
  intro a
  induction a with
  | nil => intro b; rfl
  | cons x a ih => intro b; rw [List.cons_append, nodess, nodess, ih, List.append_assoc]
 rw [List.take_succ_eq_append_getElem h, key]
 simp [nodess]
theorem nodess_mem {l : List S30} {x y : S30} (hx : x ∈ l) (hy : y ∈ nodes x) : y ∈ nodess l := by
 induction l with
 | nil => cases hx
 | cons z l ih =>
  rw [nodess, List.mem_append]
  rcases List.mem_cons.1 hx with rfl | hx
  ·exact .inl hy
  ·exact .inr (ih hx)
theorem nodess_take_le (l : List S30) (k : Nat) : (nodess (l.take k)).length ≤ (nodess l).length := by
 have key : ∀ a b : List S30, nodess (a ++ b) = nodess a ++ nodess b := by
  intro a
  induction a with
  | nil => intro b; rfl
  | cons x a ih => intro b; rw [List.cons_append, nodess, nodess, ih, List.append_assoc]
 have h : nodess l = nodess (l.take k) ++ nodess (l.drop k) := by rw [← key, List.take_append_drop]
 rw [h, List.length_append]
 omega
def CountsOk (t : S30) : Prop := ∀ (w0 w : World) (A : Option Addr) (c B n : Nat) (D : DataW Unit) (g : Int → Int) (s M : Int), k30.C w0 A t.f1.length t.f1 → t.f1.length ≤ c → Below w0.heap.size w0 w → w0.heap.size ≤ B →
 w.ownsMap Try.prog 3 (plainElem Try.prog 3) B n D → ReadsM D g → (∀ x, -M ≤ g x ∧ g x ≤ M) → M + (nodes t).length ≤ 1000000000 → n + (nodes t).length ≤ 1000000000 → (s = 1 ∨ s = -1) → SmallN t →
 Calls Try.prog 79 #[.agg #[.int .i64 t.f0, .slice A t.f1.length c], .map (some B), .int .i64 s] w fun e w' => e = .returned (.tuple #[]) ∧
  ∃ D', w'.ownsMap Try.prog 3 (plainElem Try.prog 3) B (n + (nodes t).length) D' ∧ ReadsM D' (addV g s (nodes t)) ∧ Below w0.heap.size w0 w'
theorem rdC_at (l : List S30) (k : Nat) (h : k < l.length) : rd_T30 l (k : Int) = l[k] := by
 unfold rd_T30
 simp [List.getD, List.getElem?_eq_getElem h]
theorem put_reads {D : DataW Unit} {g : Int → Int} {t : S30} {s c : Int} (h : ReadsM D g) (hneg : t.f0 < 0) (hn : nodes t = [t]) (hc : c = g t.f0 + s) (hw : (Lit.int .i64 t.f0).wf = true) : ReadsM (D.put (.int .i64 t.f0) (i64D c)) (addV g s (nodes t)) := by
 refine ⟨h.1.put _ _, fun x hx => ?_⟩
 by_cases hxt : x = t.f0
 ·subst hxt
  rw [atKey_put_same h.1 (by simp [WideAt.IsKeyLit]), hn, hc]
  simp [addV, hneg, countN]
 ·rw [atKey_put_other (by intro e; injection e with _ e; exact hxt e), h.2 x hx, hn]
  have : countN x [t] = 0 := by simp [countN]; exact fun e => hxt e.symm
  simp [addV, this]
set_option maxHeartbeats 4000000 in
set_option maxRecDepth 100000 in
theorem counts_any : ∀ t : S30, CountsOk t := by
 refine S30.ind ?_
 intro f l ih w0 w A c B n D g s M hC hc hb0 hB hown hR hg hM hn hs hsm
 have hll : l.length ≤ 9223372036854775807 := hC.2.1
 have hCz := Az_.mk hC
 have hIz := Az_.mk ih
 have hSz := Az_.mk hsm
 have hf : -1000000 ≤ f ∧ f ≤ 1000000 := hsm ⟨f, l⟩ (by simp [nodes])
 have hwf : (Lit.int .i64 f).wf = true := by simp [Lit.wf, IntKind.min, IntKind.max, IntKind.signed, IntKind.bits]; omega
 clear hC ih hsm
 by_cases hneg : f < 0
 ·have hnd : nodes ⟨f, l⟩ = [⟨f, l⟩] := by simp [nodes, hneg]
  have hlt : decide (f < 0) = true := decide_eq_true hneg
  have hgf := hg f
  have hkey : keyOf Try.prog 3 (.int .i64 f) = some (.int .i64 f) := keyOf_int_mk Try.underlying3 hwf
  have hownb := hown.alloc (.cells #[.int .i64 f, .slice A l.length c] 30)
  have hR' := Az_.mk hR
  have hg' := Az_.mk hg
  have hn1 : n + 1 ≤ 1000000000 := by rw [hnd] at hn; exact hn
  have hM1 : M + 1 ≤ 1000000000 := by rw [hnd] at hM; exact hM
  clear hR hg hn hM
  go_enter Try.func79, Try.ntmps79
  go_wp2_with (first
   | (at_lookup; refine wpList_lookup_own_int _ rfl _ _ 106 rfl 3 3 .i64 law3 Try.underlying106 Try.underlying3 (zero3 _) B n _ rfl hownb _ _ rfl hkey ?_; intro c1 hat hwc)
   | (at_mapUpdate; refine wpList_mapUpdate_own _ rfl _ _ _ 106 rfl 3 3 law3 Try.underlying106 _ B n _ rfl hownb (by unfold maxLen; omega) _ _ _ rfl rfl hkey _ [] (plainElem_int Try.underlying3 (wrap64_wf _)) ?_; intro w1 hown1 hgrow1)
   | go_in)
  have hc1 : c1 = g f := by
   have h1 := hR'.out.2 f hwf
   rw [hat] at h1
   simpa [i64D] using h1
  have hgf' := hg'.out f
  have hwr : wrap64 (c1 + s) = g f + s := by
   rw [hc1]
   unfold wrap64
   rcases hs with rfl | rfl <;> omega
  have hbb := (bA_ hb0 (.cells #[.int .i64 f, .slice A l.length c] 30)).grown hgrow1 (Nat.le_trans hb0.size (by simp)) (fun j hj => by cases hj; exact hB)
  have hres := put_reads hR'.out (t := ⟨f, l⟩) hneg (by simp [nodes, hneg]) hwr hwf
  rw [show nodes ⟨f, l⟩ = [⟨f, l⟩] by simp [nodes, hneg]] at hres
  refine bodyPost_ret (results_none (by rfl) _ _ _) (by rfl) ?_
  exact ⟨rfl, _, hown1, hres, hbb⟩
 ·have hge : decide (f < 0) = false := decide_eq_false hneg
  have hnd : nodes ⟨f, l⟩ = ⟨f, l⟩ :: nodess l := by simp [nodes, hneg]
  have hadd : addV g s (nodes ⟨f, l⟩) = addV g s (nodess l) := by
   funext x
   rw [hnd]
   unfold addV
   split
   ·rename_i hx
    have : countN x (⟨f, l⟩ :: nodess l) = countN x (nodess l) := by
     unfold countN
     rw [List.filter_cons_of_neg]
     simp
     omega
    rw [this]
   ·rfl
  have hln : (nodes ⟨f, l⟩).length = 1 + (nodess l).length := by rw [hnd, List.length_cons]; omega
  rw [hln] at hM hn ⊢
  rw [hadd]
  have hSl : ∀ x ∈ l, SmallN x := fun x hx y hy => hSz.out y (by rw [hnd]; exact List.mem_cons_of_mem _ (nodess_mem hx hy))
  have hSl := Az_.mk hSl
  have hR' := Az_.mk hR
  have hg' := Az_.mk hg
  have hownb := Az_.mk (hown.alloc (.cells #[.int .i64 f, .slice A l.length c] 30))
  have hbb := Az_.mk (bA_ hb0 (.cells #[.int .i64 f, .slice A l.length c] 30))
  clear hR hg hnd hadd hln hSz hb0 hown hf hwf
  go_enter Try.func79, Try.ntmps79
  go_wp2
  go_loopw [20] (fun i wr => ∃ k : Nat, k ≤ l.length ∧ i = .int .i64 k ∧ Az_ (∃ D', wr.ownsMap Try.prog 3 (plainElem Try.prog 3) B (n + (nodess (l.take k)).length) D' ∧ ReadsM D' (addV g s (nodess (l.take k))) ∧ Below w0.heap.size w0 wr)) (fun i wr => l.length - (intOf i).toNat)
  case atStart => exact ⟨0, Nat.zero_le _, rfl, ⟨D, hownb.out, by rw [List.take_zero, nodess, addV_nil]; exact hR'.out, hbb.out⟩⟩
  case round =>
   obtain ⟨k, hk, rfl, ⟨D1, hown1, hR1, hb1⟩⟩ := hrel
   by_cases hlt : k < l.length
   ·obtain ⟨ad, A1, c1, rfl, hx0, hx1, hl1, hC1⟩ := at_T30 hCz.out (k : Int) (by omega) (by omega)
    rw [rdC_at l k hlt] at hx0 hx1 hl1 hC1
    rw [Int.toNat_natCast] at hx0 hx1
    replace hx0 := (hb1.cell (cell_lt' hx0)).trans hx0
    replace hx1 := (hb1.cell (cell_lt' hx1)).trans hx1
    have htk := nodess_take l k hlt
    have htl := nodess_take_le l (k + 1)
    rw [htk, List.length_append] at htl
    have hih := hIz.out l[k] (List.getElem_mem hlt)
    have hsx := hSl.out l[k] (List.getElem_mem hlt)
    generalize hxk : l[k] = x at hx0 hx1 hl1 hC1 htk htl hih hsx
    obtain ⟨P, hP⟩ : ∃ P, P = nodess (l.take k) := ⟨_, rfl⟩
    rw [← hP] at htk htl hown1 hR1
    have hgb := addV_bound hs hg'.out P
    have hin : Az_ (Calls Try.prog 79 #[.agg #[.int .i64 x.f0, .slice A1 x.f1.length c1], .map (some B), .int .i64 s] (wr.alloc (.cells #[.int .i64 x.f0, .slice A1 x.f1.length c1] 30)) fun e w' => e = .returned (.tuple #[]) ∧
      ∃ D', w'.ownsMap Try.prog 3 (plainElem Try.prog 3) B (n + P.length + (nodes x).length) D' ∧ ReadsM D' (addV (addV g s P) s (nodes x)) ∧ Below w0.heap.size w0 w') := ⟨hih w0 _ A1 c1 B (n + P.length) D1 (addV g s P) s (M + P.length) hC1 hl1 (bA_ hb1 _) hB (hown1.alloc _) hR1 hgb (by omega) (by omega) hs hsx⟩
    have htkz := Az_.mk htk
    have hsz := Az_.mk hs
    clear hxk hgb hown1 hR1 hb1 hC1 htl htk hih hsx hP hs
    go_wp2_with (go_at_call 79; refine hin.out.mono ?_; rintro e w3 ⟨rfl, D2, h1, h2, h3⟩; have H1 := Az_.mk h1; have H2 := Az_.mk h2; have H3 := Az_.mk h3; clear h1 h2 h3)
    go_roundw
    case rel => exact ⟨k + 1, by omega, by go_num, ⟨D2, by rw [htkz.out, List.length_append, ← Nat.add_assoc]; exact H1.out, by rw [htkz.out, addV_append]; exact H2.out, H3.out⟩⟩
    case measure => simp [intOf]; omega
   ·have hke : k = l.length := by omega
    subst hke
    rw [List.take_length] at hown1 hR1
    have hown1 := Az_.mk hown1
    have hR1 := Az_.mk hR1
    have hb1 := Az_.mk hb1
    go_wp2
    go_end0
    exact ⟨rfl, D1, hown1.out.mono (by omega), hR1.out, hb1.out⟩
def covT (a b : S30) : Bool := (nodes b).all fun x => decide (0 ≤ x.f0) || decide (countN x.f0 (nodes b) ≤ countN x.f0 (nodes a))
def netV (a b : S30) : Int → Int := addV (addV (fun _ => 0) 1 (nodes a)) (-1) (nodes b)
theorem netV_eq (a b : S30) (x : Int) : netV a b x = if x < 0 then (countN x (nodes a) : Int) - (countN x (nodes b) : Int) else 0 := by
 unfold netV addV
 simp only []
 split
 ·rw [Int.one_mul, Int.neg_mul, Int.one_mul]; omega
 ·omega
theorem covT_iff (a b : S30) : covT a b = true ↔ ∀ x, 0 ≤ netV a b x := by
 unfold covT
 rw [List.all_eq_true]
 constructor
 ·intro h x
  rw [netV_eq]
  split
  ·rename_i hx
   by_cases hz : countN x (nodes b) = 0
   ·omega
   ·obtain ⟨y, hy⟩ : ∃ y, y ∈ (nodes b).filter fun z => z.f0 == x := List.exists_mem_of_length_pos (Nat.pos_of_ne_zero hz)
    rw [List.mem_filter, beq_iff_eq] at hy
    have := h y hy.1
    rw [hy.2, Bool.or_eq_true, decide_eq_true_eq, decide_eq_true_eq] at this
    omega
  ·exact Int.le_refl _
 ·intro h x hx
  have := h x.f0
  rw [netV_eq] at this
  rw [Bool.or_eq_true, decide_eq_true_eq, decide_eq_true_eq]
  split at this <;> omega
set_option maxHeartbeats 4000000 in
set_option maxRecDepth 100000 in
theorem Covers_calls (a b : S30) (A : Option Addr) (c : Nat) (A' : Option Addr) (c' : Nat) (w : World) (hA : k30.C w A a.f1.length a.f1) (hc : a.f1.length ≤ c) (hB : k30.C w A' b.f1.length b.f1) (hc' : b.f1.length ≤ c')
  (hsa : SmallN a) (hsb : SmallN b) (hna : (nodes a).length ≤ 1000000) (hnb : (nodes b).length ≤ 1000000) :
  Calls Try.prog 45 #[.agg #[.int .i64 a.f0, .slice A a.f1.length c], .agg #[.int .i64 b.f0, .slice A' b.f1.length c']] w fun e w' => e = .returned (.bool (covT a b)) ∧ Below w.heap.size w w' := by
 have hmm := @run_makeMap Try.prog
 obtain ⟨W2, hW2⟩ : ∃ W2, W2 = (w.alloc (.cells #[.int .i64 a.f0, .slice A a.f1.length c] 30)).alloc (.cells #[.int .i64 b.f0, .slice A' b.f1.length c'] 30) := ⟨_, rfl⟩
 have hb2 : Below w.heap.size w W2 := by rw [hW2]; exact bA_ (bA_ (Below.refl _ _) _) _
 have hs2 : W2.heap.size = w.heap.size + 1 + 1 := by rw [hW2, World.size_alloc, World.size_alloc]
 have hbx : W2.heap[w.heap.size + 1]? = some (.cells #[.int .i64 b.f0, .slice A' b.f1.length c'] 30 (0, 0)) := by
  rw [hW2]
  have := heap_alloc_new (w.alloc (.cells #[.int .i64 a.f0, .slice A a.f1.length c] 30)) (.cells #[.int .i64 b.f0, .slice A' b.f1.length c'] 30)
  rw [World.size_alloc] at this
  exact this
 have hmade := World.ownsMap_made W2 Try.prog 3 (plainElem (H := Unit) Try.prog 3)
 rw [hs2] at hmade
 have h1 : Az_ (Calls Try.prog 79 #[.agg #[.int .i64 a.f0, .slice A a.f1.length c], .map (some (w.heap.size + 1 + 1)), .int .i64 1] (W2.alloc (.map #[] 0)) fun e w' => e = .returned (.tuple #[]) ∧
   ∃ D', w'.ownsMap Try.prog 3 (plainElem (H := Unit) Try.prog 3) (w.heap.size + 1 + 1) (0 + (nodes a).length) D' ∧ ReadsM D' (addV (fun _ => 0) 1 (nodes a)) ∧ Below W2.heap.size W2 w') :=
  ⟨counts_any a W2 _ A c _ 0 _ (fun _ => 0) 1 0 (Kd.C_below hA hb2) hc (bA_ (Below.refl _ _) _) (Nat.le_of_eq hs2) hmade ⟨isMap_empty, fun x _ => rfl⟩ (fun x => ⟨by omega, by omega⟩) (by omega) (by omega) (.inl rfl) hsa⟩
 have h2 : Az_ (∀ w4 D1, w4.ownsMap Try.prog 3 (plainElem (H := Unit) Try.prog 3) (w.heap.size + 1 + 1) (0 + (nodes a).length) D1 → ReadsM D1 (addV (fun _ => 0) 1 (nodes a)) → Below W2.heap.size W2 w4 → Calls Try.prog 79 #[.agg #[.int .i64 b.f0, .slice A' b.f1.length c'], .map (some (w.heap.size + 1 + 1)), .int .i64 (-1)] w4 fun e w' => e = .returned (.tuple #[]) ∧
   ∃ D', w'.ownsMap Try.prog 3 (plainElem (H := Unit) Try.prog 3) (w.heap.size + 1 + 1) (0 + (nodes a).length + (nodes b).length) D' ∧ ReadsM D' (netV a b) ∧ Below W2.heap.size W2 w') :=
  ⟨fun w4 D1 g1 g2 g3 => counts_any b W2 w4 A' c' _ _ _ _ (-1) (nodes a).length (Kd.C_below hB hb2) hc' g3 (Nat.le_of_eq hs2) g1 g2 (fun x => by have := addV_bound (g := fun _ => 0) (M := 0) (.inl rfl) (fun x => ⟨by omega, by omega⟩) (nodes a) x; omega) (by omega) (by omega) (.inr rfl) hsb⟩
 have hbig : Az_ (∀ x, ¬ (Lit.int .i64 x).wf = true → netV a b x = 0) := ⟨fun x hx => by
  have hz : ∀ t : S30, SmallN t → countN x (nodes t) = 0 := fun t ht => by
   unfold countN
   rw [List.length_eq_zero_iff, List.filter_eq_nil_iff]
   intro y hy e
   rw [beq_iff_eq] at e
   have := ht y hy
   apply hx
   simp [Lit.wf, IntKind.min, IntKind.max, IntKind.signed, IntKind.bits]
   omega
  rw [netV_eq, hz a hsa, hz b hsb]
  split <;> rfl⟩
 have hb2z := Az_.mk hb2
 have hbxz := Az_.mk hbx
 have hW2z := Az_.mk hW2
 have hs2z := Az_.mk hs2
 clear hA hB hsa hsb hna hnb hmade hb2 hbx hs2 hW2
 go_enter Try.func45, Try.ntmps45
 go_wp2_with (first
  | (go_at_call 79; rw [← hW2z.out]; refine h1.out.mono ?_; rintro e w4 ⟨rfl, D1, g1, g2, g3⟩; have G1 := Az_.mk (And.intro g1 (And.intro g2 g3)); have k0 : w4.cell? ⟨w.heap.size + 1, 0, none⟩ = some (.int .i64 b.f0) := (yaa_ (kB_ hbxz.out g3) 0).trans rfl; have k1 : w4.cell? ⟨w.heap.size + 1, 1, none⟩ = some (.slice A' b.f1.length c') := (yaa_ (kB_ hbxz.out g3) 1).trans rfl; clear g1 g2 g3)
  | (go_at_call 79; refine (h2.out _ _ G1.out.1 G1.out.2.1 G1.out.2.2).mono ?_; rintro e w5 ⟨rfl, D2, g4, g5, g6⟩; have G2 := Az_.mk (And.intro g5 g6))
  | (at_range; refine wpList_range_own _ rfl _ 106 rfl 3 3 law3 Try.underlying106 _ (w.heap.size + 1 + 1) _ _ rfl g4 ?_; intro w6 hrg0 hg0 hs0)
  | go_in)
 have hB6 : Below w.heap.size w w6 := (hb2z.out.trans (G2.out.2.mono hb2z.out.size)).grown hg0 (Nat.le_trans hb2z.out.size G2.out.2.size) (fun j hj => by cases hj)
 have hlt5 : w.heap.size ≤ w5.heap.size := Nat.le_trans hb2z.out.size G2.out.2.size
 have hrel0 : ∀ x, (Lit.int .i64 x).wf = true → Maps.has D2 (.int .i64 x) = false → 0 ≤ netV a b x := fun x hx hh => by
  have h3 := G2.out.1.2 x hx
  rw [atKey_of_not_has hh] at h3
  have : netV a b x = 0 := by simpa [i64D] using h3.symm
  omega
 have hrel0z := Az_.mk hrel0
 have hB6z := Az_.mk hB6
 have hat2 := Az_.mk G2.out.1
 clear g4 G1 G2 h1 h2 hmm hrel0 hB6 k0 k1 hg0 hs0
 go_frame
 go_loopw [7] (fun _ wr => ∃ (left : Lit → Bool) (cnt : Nat), wr.ranges Try.prog 3 (plainElem (H := Unit) Try.prog 3) (w.heap.size + 1 + 1) w5.heap.size (0 + (nodes a).length + (nodes b).length) D2 left cnt ∧ Az_ (∀ x, (Lit.int .i64 x).wf = true → left (.int .i64 x) = false → 0 ≤ netV a b x) ∧ Az_ (Below w.heap.size w wr))
  (fun _ wr => wr.rangeLeft (w.heap.size + 1 + 1) w5.heap.size)
 case atStart => exact ⟨_, _, hrg0, hrel0z, hB6z⟩
 case round =>
  obtain ⟨left, cnt, hrg, hl, hbw⟩ := hrel
  go_wp2_with (first
   | (at_next; refine wpList_next_ranges_ii _ rfl _ rfl 3 3 .i64 .i64 law3 Try.underlying3 Try.underlying3 (w.heap.size + 1 + 1) w5.heap.size _ _ _ _ rfl hrg ?_ ?_)
   | go_in)
  ·intro _ hl0
   have hcv : covT a b = true := by
    rw [covT_iff]
    intro x
    by_cases hx : (Lit.int .i64 x).wf = true
    ·exact hl.out x hx (hl0 _)
    ·rw [hbig.out x hx]
     exact Int.le_refl _
   go_wp2
   go_ret
   rw [hcv]
   exact ⟨rfl, hbw.out⟩
  ·intro x c1 w7 cnt1 hwx hwc hlx hat hrg1 hlt hg1 hs1 hen
   have hnet : netV a b x = c1 := by
    have h3 := hat2.out.2 x hwx
    rw [hat] at h3
    simpa [i64D] using h3.symm
   have hbw1 := Az_.mk (hbw.out.grown hg1 hbw.out.size (fun j hj => by cases hj; exact hlt5))
   by_cases hneg : c1 < 0
   ·have hd : decide (c1 < 0) = true := decide_eq_true hneg
    have hcv : covT a b = false := by
     rw [← Bool.not_eq_true, covT_iff]
     intro h
     have := h x
     omega
    clear hnet
    go_wp2
    go_ret
    rw [hcv]
    exact ⟨rfl, hbw1.out⟩
   ·have hd : decide (c1 < 0) = false := decide_eq_false hneg
    have hl2 : Az_ (∀ y, (Lit.int .i64 y).wf = true → (fun z => left z && !z.sameKey (.int .i64 x)) (.int .i64 y) = false → 0 ≤ netV a b y) := ⟨fun y hy hly => by
     by_cases hyx : y = x
     ·subst hyx; omega
     ·rw [show (fun z => left z && !z.sameKey (.int .i64 x)) (.int .i64 y) = (left (.int .i64 y) && !(Lit.int .i64 y).sameKey (.int .i64 x)) from rfl, Maps.sameKey_ne (by intro e; injection e with _ e; exact hyx e)] at hly
      exact hl.out y hy (by simpa using hly)⟩
    have hmeas : w7.rangeLeft (w.heap.size + 1 + 1) w5.heap.size < wr.rangeLeft (w.heap.size + 1 + 1) w5.heap.size := by rw [hrg1.left_eq, hrg.left_eq]; exact hlt
    have hmz := Az_.mk hmeas
    clear hnet hmeas
    go_wp2
    go_roundw
    case rel => exact ⟨(fun z => left z && !z.sameKey (.int .i64 x)), cnt1, by rw [Nat.zero_add]; exact hrg1, hl2, hbw1⟩
    case measure => exact hmz.out
def fitB (t : S30) : Bool := decide ((nodes t).length ≤ 1000000) && (nodes t).all fun x => decide (-1000000 ≤ x.f0) && decide (x.f0 ≤ 1000000)
theorem fitB_iff (t : S30) : fitB t = true ↔ (nodes t).length ≤ 1000000 ∧ SmallN t := by
 unfold fitB SmallN
 rw [Bool.and_eq_true, decide_eq_true_eq, List.all_eq_true]
 simp only [Bool.and_eq_true, decide_eq_true_eq]
def kbo_Covers.f (a0_0 : Int) (l0_1 : List S30) (a1_0 : Int) (l1_1 : List S30) : Option Bool := if (fitB ⟨a0_0, l0_1⟩ && fitB ⟨a1_0, l1_1⟩) = true then some (covT ⟨a0_0, l0_1⟩ ⟨a1_0, l1_1⟩) else none
theorem kbo_Covers.calls (a0_0 : Int) (A0_1 : Option Addr) (c0_1 : Nat) (l0_1 : List (S30)) (a1_0 : Int) (A1_1 : Option Addr) (c1_1 : Nat) (l1_1 : List (S30)) (r : Bool) (w : World) (hr0_1 : Kd.C k30 w A0_1 l0_1.length l0_1) (hc0_1 : l0_1.length ≤ c0_1) (hr1_1 : Kd.C k30 w A1_1 l1_1.length l1_1) (hc1_1 : l1_1.length ≤ c1_1) (h : kbo_Covers.f a0_0 l0_1 a1_0 l1_1 = some r) :
  Calls Try.prog 45 #[.agg #[.int .i64 a0_0, .slice A0_1 l0_1.length c0_1], .agg #[.int .i64 a1_0, .slice A1_1 l1_1.length c1_1]] w fun e w' => e = .returned (.bool r) ∧ Below w.heap.size w w' := by
 unfold kbo_Covers.f at h
 split at h
 ·rename_i hf
  rw [Bool.and_eq_true, fitB_iff, fitB_iff] at hf
  obtain rfl := Option.some.inj h
  exact Covers_calls ⟨a0_0, l0_1⟩ ⟨a1_0, l1_1⟩ A0_1 c0_1 A1_1 c1_1 w hr0_1 hc0_1 hr1_1 hc1_1 hf.1.2 hf.2.2 hf.1.1 hf.2.1
 ·cases h
end
section
attribute [local go_sem] max2_int min2_int max_two min_two yal_ yak_ max_four min_four
mutual
def soritesref06_Same.l0 : Nat → Int → Int → List (S24) → Int → List (S24) → Option (Bool)
 | 0, _, _, _, _, _ => none
 | k + 1, x5, x178000, x178001, x179000, x179001 => if x5 < (x178001.length : Int) then (if 0 ≤ x5 then (if x5 < (x179001.length : Int) then ((soritesref06_Same.f k ((rd_T24 x178001 x5).f0) ((rd_T24 x178001 x5).f1) ((rd_T24 x179001 x5).f0) ((rd_T24 x179001 x5).f1)).bind fun t181 => (if t181 = true then (soritesref06_Same.l0 k (wrap64 (x5 + 1)) x178000 x178001 x179000 x179001) else (some false))) else (none)) else (none)) else (some true)
def soritesref06_Same.f : Nat → Int → List (S24) → Int → List (S24) → Option (Bool)
 | 0, _, _, _, _ => none
 | k + 1, a0_0, l0_1, a1_0, l1_1 => if a0_0 = a1_0 then (if a0_0 < 0 then (some true) else (if (l0_1.length : Int) = (l1_1.length : Int) then (soritesref06_Same.l0 k 0 a0_0 l0_1 a1_0 l1_1) else (some false))) else (some false)
end
def soritesref06_Same.T10 : Bool × List (List Nat × List Nat) := (true, [([], []), ([0], [0]), ([], []), ([1, 2], [1, 2]), ([3], [3]), ([], []), ([5], [5]), ([], []), ([6, 7], [6, 7]), ([8], [8]), ([4, 9], [4, 9]), ([10], [10])])
def soritesref06_Same.B10 : List Nat := [0, 1, 0, 7, 15, 0, 32, 0, 224, 480, 1023, 2047]
theorem soritesref06_Same.tab10 : rtab .any (opsOf Try.f28 10) = soritesref06_Same.T10 := by kernel_rfl
theorem soritesref06_Same.bits10 : waitsOk soritesref06_Same.T10.2 soritesref06_Same.B10 = true := by kernel_rfl
set_option maxHeartbeats 8000000 in
set_option maxRecDepth 100000 in
theorem soritesref06_Same.calls (k : Nat) : ∀ (a0_0 : Int) (A0_1 : Option Addr) (c0_1 : Nat) (l0_1 : List (S24)) (a1_0 : Int) (A1_1 : Option Addr) (c1_1 : Nat) (l1_1 : List (S24)) (r : Bool) (w : World) (hr0_1 : Kd.C k24 w A0_1 l0_1.length l0_1) (hc0_1 : l0_1.length ≤ c0_1) (hr1_1 : Kd.C k24 w A1_1 l1_1.length l1_1) (hc1_1 : l1_1.length ≤ c1_1) (h : soritesref06_Same.f k a0_0 l0_1 a1_0 l1_1 = some r),
  Calls Try.prog 28 #[.agg #[.int .i64 a0_0, .slice A0_1 l0_1.length c0_1], .agg #[.int .i64 a1_0, .slice A1_1 l1_1.length c1_1]] w fun e w' => e = .returned (.bool r) ∧ Below w.heap.size w w' := by
 induction k using Nat.strongRecOn with
 | _ k ih =>
 intro a0_0 A0_1 c0_1 l0_1 a1_0 A1_1 c1_1 l1_1 r w hr0_1 hc0_1 hr1_1 hc1_1 h
 cases k with
 | zero => exact absurd h (by simp [soritesref06_Same.f])
 | succ k =>
 simp only [soritesref06_Same.f] at h
 have hu24 := Try.underlying24
 have HR0_1 := Az_.mk hr0_1
 have HC0_1 := Az_.mk hc0_1
 clear hr0_1 hc0_1
 have HR1_1 := Az_.mk hr1_1
 have HC1_1 := Az_.mk hc1_1
 clear hr1_1 hc1_1
 have HB := Az_.mk (Below.refl w.heap.size w)
 have H : (if a0_0 = a1_0 then (if a0_0 < 0 then (some true) else (if (l0_1.length : Int) = (l1_1.length : Int) then (soritesref06_Same.l0 k 0 a0_0 l0_1 a1_0 l1_1) else (some false))) else (some false)) = some r := h
 clear h
 by_cases c3 : a0_0 = a1_0
 ·rw [if_pos c3] at H
  have c3b0 : (a0_0 == a1_0) = true := beq_iff_eq.mpr c3
  have c3b1 : (a0_0 != a1_0) = false := bne_eq_false_iff_eq.mpr c3
  clear c3
  by_cases c4 : a0_0 < 0
  ·rw [if_pos c4] at H
   have c4b0 : decide (a0_0 < 0) = true := decide_eq_true c4
   clear c4
   obtain rfl := Option.some.inj H
   go_enter Try.func28, Try.ntmps28
   go_wp2_with (first | ((with_reducible refine yag_ (N := 2) rfl ?_); refine yah_ ?hg (N := 2) ?hd (cs := #[.int .i64 a0_0, .slice A0_1 l0_1.length c0_1]) (t := 24) ?hr ?_; (case hd => rfl); (case hg => rfl); (case hr => exact rq_); intro gb177 hg w5 hbox hb; have BK177 := Az_.mk (hbox); have GW177 := Az_.mk ((by rw [hg]; exact (bZ_ (bq_ HB)) : w.heap.size ≤ gb177)); have GE177 := Az_.mk ((by rw [hg]; exact (bZ_ (bq_ HB)) : w.heap.size ≤ gb177)); replace HB := Az_.mk (bT_ (bq_ HB) hb); clear hb hbox hg) | ((with_reducible refine yag_ (N := 3) rfl ?_); refine yah_ ?hg (N := 3) ?hd (cs := #[.int .i64 a1_0, .slice A1_1 l1_1.length c1_1]) (t := 24) ?hr ?_; (case hd => rfl); (case hg => rfl); (case hr => exact rq_); intro gb178 hg w6 hbox hb; have BK178 := Az_.mk (hbox); have GW178 := Az_.mk ((by rw [hg]; exact (bZ_ (bq1_ HB GE177)) : w.heap.size ≤ gb178)); have GE178 := Az_.mk ((by rw [hg]; exact (bZ_ (bq1_ HB GE177)) : w.heap.size ≤ gb178)); replace HB := Az_.mk (bT_ (bq1_ HB GE177) hb); have NB177_178 := Az_.mk ((by rw [hg]; exact Nat.ne_of_lt (blk_lt (g := gb177) (o := .cells #[.int .i64 a0_0, .slice A0_1 l0_1.length c0_1] 24 (0, 0)) (kq_ BK177)) : gb177 ≠ gb178)); have NB178_177 := Az_.mk ((by rw [hg]; exact Nat.ne_of_gt (blk_lt (g := gb177) (o := .cells #[.int .i64 a0_0, .slice A0_1 l0_1.length c0_1] 24 (0, 0)) (kq_ BK177)) : gb178 ≠ gb177)); replace BK177 := kb_ BK177 hb; clear hb hbox hg; have hnb7 := NB177_178.out; have hnc7 := NB178_177.out; obtain ⟨hcz8_0, hcz8_1, hfz8_0, hfz8_1⟩ := cz2_ BK177; obtain ⟨hcz9_0, hcz9_1, hfz9_0, hfz9_1⟩ := cz2_ BK178))
   go_ret
   exact ⟨by first | rfl | (simp [yad_, yac_] <;> rfl) | (simp [*, yad_, yac_] <;> rfl), bq2_ HB GE177 GE178⟩
  ·rw [if_neg c4] at H
   have c4b0 : decide (a0_0 < 0) = false := decide_eq_false c4
   clear c4
   by_cases c10 : (l0_1.length : Int) = (l1_1.length : Int)
   ·rw [if_pos c10] at H
    have c10b0 : ((l0_1.length : Int) == (l1_1.length : Int)) = true := beq_iff_eq.mpr c10
    have c10b1 : ((l0_1.length : Int) != (l1_1.length : Int)) = false := bne_eq_false_iff_eq.mpr c10
    have c10b2 : (l0_1.length == l1_1.length) = true := by first | simpa using c10 | (simp at c10 ⊢; omega)
    clear c10
    have H' := Az_.mk H
    clear H
    go_enter Try.func28, Try.ntmps28
    go_wp2_with (first | ((with_reducible refine yag_ (N := 2) rfl ?_); refine yah_ ?hg (N := 2) ?hd (cs := #[.int .i64 a0_0, .slice A0_1 l0_1.length c0_1]) (t := 24) ?hr ?_; (case hd => rfl); (case hg => rfl); (case hr => exact rq_); intro gb177 hg w11 hbox hb; have BK177 := Az_.mk (hbox); have GW177 := Az_.mk ((by rw [hg]; exact (bZ_ (bq_ HB)) : w.heap.size ≤ gb177)); have GE177 := Az_.mk ((by rw [hg]; exact (bZ_ (bq_ HB)) : w.heap.size ≤ gb177)); replace HB := Az_.mk (bT_ (bq_ HB) hb); clear hb hbox hg) | ((with_reducible refine yag_ (N := 3) rfl ?_); refine yah_ ?hg (N := 3) ?hd (cs := #[.int .i64 a1_0, .slice A1_1 l1_1.length c1_1]) (t := 24) ?hr ?_; (case hd => rfl); (case hg => rfl); (case hr => exact rq_); intro gb178 hg w12 hbox hb; have BK178 := Az_.mk (hbox); have GW178 := Az_.mk ((by rw [hg]; exact (bZ_ (bq1_ HB GE177)) : w.heap.size ≤ gb178)); have GE178 := Az_.mk ((by rw [hg]; exact (bZ_ (bq1_ HB GE177)) : w.heap.size ≤ gb178)); replace HB := Az_.mk (bT_ (bq1_ HB GE177) hb); have NB177_178 := Az_.mk ((by rw [hg]; exact Nat.ne_of_lt (blk_lt (g := gb177) (o := .cells #[.int .i64 a0_0, .slice A0_1 l0_1.length c0_1] 24 (0, 0)) (kq_ BK177)) : gb177 ≠ gb178)); have NB178_177 := Az_.mk ((by rw [hg]; exact Nat.ne_of_gt (blk_lt (g := gb177) (o := .cells #[.int .i64 a0_0, .slice A0_1 l0_1.length c0_1] 24 (0, 0)) (kq_ BK177)) : gb178 ≠ gb177)); replace BK177 := kb_ BK177 hb; clear hb hbox hg; have hnb13 := NB177_178.out; have hnc13 := NB178_177.out; obtain ⟨hcz14_0, hcz14_1, hfz14_0, hfz14_1⟩ := cz2_ BK177; obtain ⟨hcz15_0, hcz15_1, hfz15_0, hfz15_1⟩ := cz2_ BK178))
    go_loopg [5] k (fun kq v5 w' => ∃ (x5_1 : Int), v5 = .int .i64 x5_1 ∧ Az_ (soritesref06_Same.l0 kq x5_1 a0_0 l0_1 a1_0 l1_1 = some r) ∧ Az_ (kq ≤ k) ∧ Az_ (w'.heap[gb177]? = some (.cells #[.int .i64 a0_0, (.slice A0_1 l0_1.length c0_1)] 24 (0, 0))) ∧ Az_ (w'.heap[gb178]? = some (.cells #[.int .i64 a1_0, (.slice A1_1 l1_1.length c1_1)] 24 (0, 0))) ∧ Az_ (Below w.heap.size w w'))
    case atStart => exact ⟨(0), sq_, H', ⟨Nat.le_refl _⟩, ⟨kq_ BK177⟩, ⟨kq_ BK178⟩, ⟨bq2_ HB GE177 GE178⟩⟩
    case round =>
     clear H'
     try clear c1
     try clear c2
     try clear p2
     try clear c3
     try clear c3b0
     try clear c3b1
     try clear c4
     try clear c4b0
     try clear c7
     try clear c10
     try clear c10b0
     try clear c10b1
     try clear c10b2
     try clear c13
     try clear hcz14_0
     try clear hcz14_1
     try clear hcz15_0
     try clear hcz15_1
     try clear hcz8_0
     try clear hcz8_1
     try clear hcz9_0
     try clear hcz9_1
     try clear hfz14_0
     try clear hfz14_1
     try clear hfz15_0
     try clear hfz15_1
     try clear hfz8_0
     try clear hfz8_1
     try clear hfz9_0
     try clear hfz9_1
     obtain ⟨x5_1, rfl, HA, HK1, BK177, BK178, HB⟩ := hrel
     cases gk with
     | zero => exact absurd HA.out (by simp [soritesref06_Same.l0])
     | succ k1 =>
      have H := HA.out
      clear HA
      simp only [soritesref06_Same.l0] at H
      by_cases c16 : x5_1 < (l0_1.length : Int)
      ·rw [if_pos c16] at H
       have c16b0 : decide (x5_1 < (l0_1.length : Int)) = true := decide_eq_true c16
       clear c16
       by_cases c17 : 0 ≤ x5_1
       ·rw [if_pos c17] at H
        have c17b0 : decide (0 ≤ x5_1) = true := decide_eq_true c17
        clear c17
        by_cases c18 : x5_1 < (l1_1.length : Int)
        ·rw [if_pos c18] at H
         have c18b0 : decide (x5_1 < (l1_1.length : Int)) = true := decide_eq_true c18
         clear c18
         replace H := Option.bind_eq_some_iff.mp H
         obtain ⟨t181, A190, H⟩ := H
         replace H : (if t181 = true then (soritesref06_Same.l0 k1 (wrap64 (x5_1 + 1)) a0_0 l0_1 a1_0 l1_1) else (some false)) = some r := H
         have A19 := Az_.mk A190
         clear A190
         by_cases c20 : t181 = true
         ·subst c20
          have H1 : (soritesref06_Same.l0 k1 (wrap64 (x5_1 + 1)) a0_0 l0_1 a1_0 l1_1) = some r := by rw [if_pos rfl] at H; exact H
          clear H
          have H := H1
          clear H1
          have H' := Az_.mk H
          clear H
          have hnb21 := NB177_178.out
          have hnc21 := NB178_177.out
          obtain ⟨hcz22_0, hcz22_1, hfz22_0, hfz22_1⟩ := cz2_ BK177
          try go_wp2
          replace BK177 := Az_.mk (kD_ BK177.out)
          replace BK178 := Az_.mk (kD_ BK178.out)
          replace HB := Az_.mk (bD_ HB.out)
          have p179 : 0 ≤ (x5_1 : Int) := of_decide_eq_true (by first | (with_reducible assumption) | assumption)
          have q179 : x5_1 < (l0_1.length : Int) := of_decide_eq_true (by first | (with_reducible assumption) | assumption)
          obtain ⟨ad179, A179_1, c179_1, e179, hx179_0, hx179_1, hl179_1, hi179_1⟩ := at_T24 HR0_1.out x5_1 p179 q179
          have hw179_1 := hx179_1
          have hw179_0 := hx179_0
          cases e179
          replace hx179_0 := (HB.out.cell (World.block_lt_of_cell? w _ hx179_0)).trans hx179_0
          replace hx179_1 := (HB.out.cell (World.block_lt_of_cell? w _ hx179_1)).trans hx179_1
          have HR179_1 := Az_.mk hi179_1
          have HC179_1 := Az_.mk hl179_1
          clear hi179_1 hl179_1
          replace p179 := eq_true p179
          replace q179 := eq_true q179
          have p180 : 0 ≤ (x5_1 : Int) := of_decide_eq_true (by first | (with_reducible assumption) | assumption)
          have q180 : x5_1 < (l1_1.length : Int) := of_decide_eq_true (by first | (with_reducible assumption) | assumption)
          obtain ⟨ad180, A180_1, c180_1, e180, hx180_0, hx180_1, hl180_1, hi180_1⟩ := at_T24 HR1_1.out x5_1 p180 q180
          have hw180_1 := hx180_1
          have hw180_0 := hx180_0
          cases e180
          replace hx180_0 := (HB.out.cell (World.block_lt_of_cell? w _ hx180_0)).trans hx180_0
          replace hx180_1 := (HB.out.cell (World.block_lt_of_cell? w _ hx180_1)).trans hx180_1
          have HR180_1 := Az_.mk hi180_1
          have HC180_1 := Az_.mk hl180_1
          clear hi180_1 hl180_1
          replace p180 := eq_true p180
          replace q180 := eq_true q180
          refine start_ (n := 12) (S := fun w' => w'.cell? ⟨gb177, 0, none⟩ = some (.int .i64 a0_0) ∧ w'.cell? ⟨gb177, 1, none⟩ = some (.slice (some ad179) l0_1.length c0_1) ∧ w'.cell? ⟨gb178, 0, none⟩ = some (.int .i64 a1_0) ∧ w'.cell? ⟨gb178, 1, none⟩ = some (.slice (some ad180) l1_1.length c1_1) ∧ w'.cell? (ad179.add ((x5_1).toNat * 2)) = some (.int .i64 ((rd_T24 l0_1 x5_1).f0)) ∧ w'.cell? ⟨(ad179.add ((x5_1).toNat * 2)).block, (ad179.add ((x5_1).toNat * 2)).off + 1, none⟩ = some (.slice A179_1 ((rd_T24 l0_1 x5_1).f1).length c179_1) ∧ w'.cell? (ad180.add ((x5_1).toNat * 2)) = some (.int .i64 ((rd_T24 l1_1 x5_1).f0)) ∧ w'.cell? ⟨(ad180.add ((x5_1).toNat * 2)).block, (ad180.add ((x5_1).toNat * 2)).off + 1, none⟩ = some (.slice A180_1 ((rd_T24 l1_1 x5_1).f1).length c180_1)) (ds := []) #[false, false, false, false, false, false, false, false, false, false, false, false] (by kernel_rfl) rfl rfl ⟨(yaa_ BK177.out 0).trans rfl, (yaa_ BK177.out 1).trans rfl, (yaa_ BK178.out 0).trans rfl, (yaa_ BK178.out 1).trans rfl, ((HB.out.cell (World.block_lt_of_cell? w _ hw179_0)).trans hw179_0), ((HB.out.cell (World.block_lt_of_cell? w _ hw179_1)).trans hw179_1), ((HB.out.cell (World.block_lt_of_cell? w _ hw180_0)).trans hw180_0), ((HB.out.cell (World.block_lt_of_cell? w _ hw180_1)).trans hw180_1)⟩ (fun hHeld => ?_); refine with_tabW soritesref06_Same.tab10 soritesref06_Same.bits10 (fun HT_ HW_ => ?_)
          generalize wr.drew = w23 at BK177 BK178 HB HR179_1 HR180_1 hx179_0 hx179_1 hx180_0 hx180_1 hHeld ⊢
          refine pa_ 0 28 HT_ ?_
          refine pa_ 2 30 HT_ ?_
          refine pa_ 5 33 HT_ ?_
          refine pa_ 7 35 HT_ ?_
          refine ta8_ 1 29 HT_ HW_ hHeld ?_
          refine pa_ 3 31 HT_ ?_
          refine ta8_ 4 32 HT_ HW_ hHeld ?_
          refine ta8_ 6 34 HT_ HW_ hHeld ?_
          refine pa_ 8 36 HT_ ?_
          refine ta8_ 9 37 HT_ HW_ hHeld ?_
          refine one_ (i := 10) (N := some 38) #[true, true, true, true, true, true, true, true, true, true, true, false] rfl rfl (one_of HT_.out (by kernel_rfl)) (by decide) (fun K hK => ?_)
          refine goes_ Try.func28 (by kernel_rfl) rfl #[.agg #[.int .i64 ((rd_T24 l0_1 x5_1).f0), .slice A179_1 ((rd_T24 l0_1 x5_1).f1).length c179_1], .agg #[.int .i64 ((rd_T24 l1_1 x5_1).f0), .slice A180_1 ((rd_T24 l1_1 x5_1).f1).length c180_1]] (by rfl) rfl rfl mq_ ?_
          with_reducible refine (ih k1 (by have := HK1.out; omega) ((rd_T24 l0_1 x5_1).f0) _ _ ((rd_T24 l0_1 x5_1).f1) ((rd_T24 l1_1 x5_1).f0) _ _ ((rd_T24 l1_1 x5_1).f1) true _ ?side1 ?side2 ?side3 ?side4 A19.out).mono ?_
          (case side1 => exact cq_ (Kd.C_below HR179_1.out HB.out))
          (case side2 => exact HC179_1.out)
          (case side3 => exact cq_ (Kd.C_below HR180_1.out HB.out))
          (case side4 => exact HC180_1.out)
          rintro e w24 ⟨rfl, hb⟩
          refine ⟨_, rfl, ?_⟩
          replace BK177 := kb_ BK177 hb
          replace BK178 := kb_ BK178 hb
          replace HB := Az_.mk (bT_ (bq2_ HB GE177 GE178) hb)
          (try clear hb)
          (try clear hb2)
          (try clear hk)
          (try clear hi)
          refine hK.out _ _ ⟨(yaa_ BK177.out 0).trans rfl, (yaa_ BK177.out 1).trans rfl, (yaa_ BK178.out 0).trans rfl, (yaa_ BK178.out 1).trans rfl, ((HB.out.cell (World.block_lt_of_cell? w _ hw179_0)).trans hw179_0), ((HB.out.cell (World.block_lt_of_cell? w _ hw179_1)).trans hw179_1), ((HB.out.cell (World.block_lt_of_cell? w _ hw180_0)).trans hw180_0), ((HB.out.cell (World.block_lt_of_cell? w _ hw180_1)).trans hw180_1)⟩ (fun hHeld => ?_)
          clear hK K
          refine norm_ (a' := ?_) ?_ ?_
          rotate_left
          ·show Act.put _ (some 38) _ = _
           simp only [Act.put, sA_, sZ_, sS_, i64_w, i32_w]
           rfl
          refine pa_ 11 39 HT_ ?_
          refine done_ (done_of HT_.out (by kernel_rfl)) ?_
          try go_wp2
          go_roundg k1
          case measure => have := HK1.out; omega
          case rel => exact ⟨(wrap64 (x5_1 + 1)), sq_, H', ⟨by have := HK1.out; omega⟩, ⟨kq_ BK177⟩, ⟨kq_ BK178⟩, ⟨bq2_ HB GE177 GE178⟩⟩
         ·replace c20 := Bool.eq_false_iff.mpr c20
          subst c20
          have H1 : (some false) = some r := by rw [if_neg (show ¬ (false = true) by decide)] at H; exact H
          clear H
          have H := H1
          clear H1
          obtain rfl := Option.some.inj H
          have hnb25 := NB177_178.out
          have hnc25 := NB178_177.out
          obtain ⟨hcz26_0, hcz26_1, hfz26_0, hfz26_1⟩ := cz2_ BK177
          try go_wp2
          replace BK177 := Az_.mk (kD_ BK177.out)
          replace BK178 := Az_.mk (kD_ BK178.out)
          replace HB := Az_.mk (bD_ HB.out)
          have p179 : 0 ≤ (x5_1 : Int) := of_decide_eq_true (by first | (with_reducible assumption) | assumption)
          have q179 : x5_1 < (l0_1.length : Int) := of_decide_eq_true (by first | (with_reducible assumption) | assumption)
          obtain ⟨ad179, A179_1, c179_1, e179, hx179_0, hx179_1, hl179_1, hi179_1⟩ := at_T24 HR0_1.out x5_1 p179 q179
          have hw179_1 := hx179_1
          have hw179_0 := hx179_0
          cases e179
          replace hx179_0 := (HB.out.cell (World.block_lt_of_cell? w _ hx179_0)).trans hx179_0
          replace hx179_1 := (HB.out.cell (World.block_lt_of_cell? w _ hx179_1)).trans hx179_1
          have HR179_1 := Az_.mk hi179_1
          have HC179_1 := Az_.mk hl179_1
          clear hi179_1 hl179_1
          replace p179 := eq_true p179
          replace q179 := eq_true q179
          have p180 : 0 ≤ (x5_1 : Int) := of_decide_eq_true (by first | (with_reducible assumption) | assumption)
          have q180 : x5_1 < (l1_1.length : Int) := of_decide_eq_true (by first | (with_reducible assumption) | assumption)
          obtain ⟨ad180, A180_1, c180_1, e180, hx180_0, hx180_1, hl180_1, hi180_1⟩ := at_T24 HR1_1.out x5_1 p180 q180
          have hw180_1 := hx180_1
          have hw180_0 := hx180_0
          cases e180
          replace hx180_0 := (HB.out.cell (World.block_lt_of_cell? w _ hx180_0)).trans hx180_0
          replace hx180_1 := (HB.out.cell (World.block_lt_of_cell? w _ hx180_1)).trans hx180_1
          have HR180_1 := Az_.mk hi180_1
          have HC180_1 := Az_.mk hl180_1
          clear hi180_1 hl180_1
          replace p180 := eq_true p180
          replace q180 := eq_true q180
          refine start_ (n := 12) (S := fun w' => w'.cell? ⟨gb177, 0, none⟩ = some (.int .i64 a0_0) ∧ w'.cell? ⟨gb177, 1, none⟩ = some (.slice (some ad179) l0_1.length c0_1) ∧ w'.cell? ⟨gb178, 0, none⟩ = some (.int .i64 a1_0) ∧ w'.cell? ⟨gb178, 1, none⟩ = some (.slice (some ad180) l1_1.length c1_1) ∧ w'.cell? (ad179.add ((x5_1).toNat * 2)) = some (.int .i64 ((rd_T24 l0_1 x5_1).f0)) ∧ w'.cell? ⟨(ad179.add ((x5_1).toNat * 2)).block, (ad179.add ((x5_1).toNat * 2)).off + 1, none⟩ = some (.slice A179_1 ((rd_T24 l0_1 x5_1).f1).length c179_1) ∧ w'.cell? (ad180.add ((x5_1).toNat * 2)) = some (.int .i64 ((rd_T24 l1_1 x5_1).f0)) ∧ w'.cell? ⟨(ad180.add ((x5_1).toNat * 2)).block, (ad180.add ((x5_1).toNat * 2)).off + 1, none⟩ = some (.slice A180_1 ((rd_T24 l1_1 x5_1).f1).length c180_1)) (ds := []) #[false, false, false, false, false, false, false, false, false, false, false, false] (by kernel_rfl) rfl rfl ⟨(yaa_ BK177.out 0).trans rfl, (yaa_ BK177.out 1).trans rfl, (yaa_ BK178.out 0).trans rfl, (yaa_ BK178.out 1).trans rfl, ((HB.out.cell (World.block_lt_of_cell? w _ hw179_0)).trans hw179_0), ((HB.out.cell (World.block_lt_of_cell? w _ hw179_1)).trans hw179_1), ((HB.out.cell (World.block_lt_of_cell? w _ hw180_0)).trans hw180_0), ((HB.out.cell (World.block_lt_of_cell? w _ hw180_1)).trans hw180_1)⟩ (fun hHeld => ?_); refine with_tabW soritesref06_Same.tab10 soritesref06_Same.bits10 (fun HT_ HW_ => ?_)
          generalize wr.drew = w27 at BK177 BK178 HB HR179_1 HR180_1 hx179_0 hx179_1 hx180_0 hx180_1 hHeld ⊢
          refine pa_ 0 28 HT_ ?_
          refine pa_ 2 30 HT_ ?_
          refine pa_ 5 33 HT_ ?_
          refine pa_ 7 35 HT_ ?_
          refine ta8_ 1 29 HT_ HW_ hHeld ?_
          refine pa_ 3 31 HT_ ?_
          refine ta8_ 4 32 HT_ HW_ hHeld ?_
          refine ta8_ 6 34 HT_ HW_ hHeld ?_
          refine pa_ 8 36 HT_ ?_
          refine ta8_ 9 37 HT_ HW_ hHeld ?_
          refine one_ (i := 10) (N := some 38) #[true, true, true, true, true, true, true, true, true, true, true, false] rfl rfl (one_of HT_.out (by kernel_rfl)) (by decide) (fun K hK => ?_)
          refine goes_ Try.func28 (by kernel_rfl) rfl #[.agg #[.int .i64 ((rd_T24 l0_1 x5_1).f0), .slice A179_1 ((rd_T24 l0_1 x5_1).f1).length c179_1], .agg #[.int .i64 ((rd_T24 l1_1 x5_1).f0), .slice A180_1 ((rd_T24 l1_1 x5_1).f1).length c180_1]] (by rfl) rfl rfl mq_ ?_
          with_reducible refine (ih k1 (by have := HK1.out; omega) ((rd_T24 l0_1 x5_1).f0) _ _ ((rd_T24 l0_1 x5_1).f1) ((rd_T24 l1_1 x5_1).f0) _ _ ((rd_T24 l1_1 x5_1).f1) false _ ?side1 ?side2 ?side3 ?side4 A19.out).mono ?_
          (case side1 => exact cq_ (Kd.C_below HR179_1.out HB.out))
          (case side2 => exact HC179_1.out)
          (case side3 => exact cq_ (Kd.C_below HR180_1.out HB.out))
          (case side4 => exact HC180_1.out)
          rintro e w28 ⟨rfl, hb⟩
          refine ⟨_, rfl, ?_⟩
          replace BK177 := kb_ BK177 hb
          replace BK178 := kb_ BK178 hb
          replace HB := Az_.mk (bT_ (bq2_ HB GE177 GE178) hb)
          (try clear hb)
          (try clear hb2)
          (try clear hk)
          (try clear hi)
          refine hK.out _ _ ⟨(yaa_ BK177.out 0).trans rfl, (yaa_ BK177.out 1).trans rfl, (yaa_ BK178.out 0).trans rfl, (yaa_ BK178.out 1).trans rfl, ((HB.out.cell (World.block_lt_of_cell? w _ hw179_0)).trans hw179_0), ((HB.out.cell (World.block_lt_of_cell? w _ hw179_1)).trans hw179_1), ((HB.out.cell (World.block_lt_of_cell? w _ hw180_0)).trans hw180_0), ((HB.out.cell (World.block_lt_of_cell? w _ hw180_1)).trans hw180_1)⟩ (fun hHeld => ?_)
          clear hK K
          refine norm_ (a' := ?_) ?_ ?_
          rotate_left
          ·show Act.put _ (some 38) _ = _
           simp only [Act.put, sA_, sZ_, sS_, i64_w, i32_w]
           rfl
          refine pa_ 11 39 HT_ ?_
          refine done_ (done_of HT_.out (by kernel_rfl)) ?_
          try go_wp2
          go_ret
          exact ⟨by first | rfl | (simp [yad_, yac_] <;> rfl) | (simp [*, yad_, yac_] <;> rfl), bq2_ HB GE177 GE178⟩
        ·rw [if_neg c18] at H
         exact absurd H (by simp)
       ·rw [if_neg c17] at H
        exact absurd H (by simp)
      ·rw [if_neg c16] at H
       have c16b0 : decide (x5_1 < (l0_1.length : Int)) = false := decide_eq_false c16
       clear c16
       obtain rfl := Option.some.inj H
       have hnb29 := NB177_178.out
       have hnc29 := NB178_177.out
       obtain ⟨hcz30_0, hcz30_1, hfz30_0, hfz30_1⟩ := cz2_ BK177
       go_wp2
       go_ret
       exact ⟨by first | rfl | (simp [yad_, yac_] <;> rfl) | (simp [*, yad_, yac_] <;> rfl), bq2_ HB GE177 GE178⟩
   ·rw [if_neg c10] at H
    have c10b0 : ((l0_1.length : Int) == (l1_1.length : Int)) = false := beq_eq_false_iff_ne.mpr c10
    have c10b1 : ((l0_1.length : Int) != (l1_1.length : Int)) = true := bne_iff_ne.mpr c10
    have c10b2 : (l0_1.length == l1_1.length) = false := by first | simpa using c10 | (simp at c10 ⊢; omega)
    obtain rfl := Option.some.inj H
    go_enter Try.func28, Try.ntmps28
    go_wp2_with (first | ((with_reducible refine yag_ (N := 2) rfl ?_); refine yah_ ?hg (N := 2) ?hd (cs := #[.int .i64 a0_0, .slice A0_1 l0_1.length c0_1]) (t := 24) ?hr ?_; (case hd => rfl); (case hg => rfl); (case hr => exact rq_); intro gb177 hg w31 hbox hb; have BK177 := Az_.mk (hbox); have GW177 := Az_.mk ((by rw [hg]; exact (bZ_ (bq_ HB)) : w.heap.size ≤ gb177)); have GE177 := Az_.mk ((by rw [hg]; exact (bZ_ (bq_ HB)) : w.heap.size ≤ gb177)); replace HB := Az_.mk (bT_ (bq_ HB) hb); clear hb hbox hg) | ((with_reducible refine yag_ (N := 3) rfl ?_); refine yah_ ?hg (N := 3) ?hd (cs := #[.int .i64 a1_0, .slice A1_1 l1_1.length c1_1]) (t := 24) ?hr ?_; (case hd => rfl); (case hg => rfl); (case hr => exact rq_); intro gb178 hg w32 hbox hb; have BK178 := Az_.mk (hbox); have GW178 := Az_.mk ((by rw [hg]; exact (bZ_ (bq1_ HB GE177)) : w.heap.size ≤ gb178)); have GE178 := Az_.mk ((by rw [hg]; exact (bZ_ (bq1_ HB GE177)) : w.heap.size ≤ gb178)); replace HB := Az_.mk (bT_ (bq1_ HB GE177) hb); have NB177_178 := Az_.mk ((by rw [hg]; exact Nat.ne_of_lt (blk_lt (g := gb177) (o := .cells #[.int .i64 a0_0, .slice A0_1 l0_1.length c0_1] 24 (0, 0)) (kq_ BK177)) : gb177 ≠ gb178)); have NB178_177 := Az_.mk ((by rw [hg]; exact Nat.ne_of_gt (blk_lt (g := gb177) (o := .cells #[.int .i64 a0_0, .slice A0_1 l0_1.length c0_1] 24 (0, 0)) (kq_ BK177)) : gb178 ≠ gb177)); replace BK177 := kb_ BK177 hb; clear hb hbox hg; have hnb33 := NB177_178.out; have hnc33 := NB178_177.out; obtain ⟨hcz34_0, hcz34_1, hfz34_0, hfz34_1⟩ := cz2_ BK177; obtain ⟨hcz35_0, hcz35_1, hfz35_0, hfz35_1⟩ := cz2_ BK178))
    go_ret
    exact ⟨by first | rfl | (simp [yad_, yac_] <;> rfl) | (simp [*, yad_, yac_] <;> rfl), bq2_ HB GE177 GE178⟩
 ·rw [if_neg c3] at H
  have c3b0 : (a0_0 == a1_0) = false := beq_eq_false_iff_ne.mpr c3
  have c3b1 : (a0_0 != a1_0) = true := bne_iff_ne.mpr c3
  obtain rfl := Option.some.inj H
  go_enter Try.func28, Try.ntmps28
  go_wp2_with (first | ((with_reducible refine yag_ (N := 2) rfl ?_); refine yah_ ?hg (N := 2) ?hd (cs := #[.int .i64 a0_0, .slice A0_1 l0_1.length c0_1]) (t := 24) ?hr ?_; (case hd => rfl); (case hg => rfl); (case hr => exact rq_); intro gb177 hg w36 hbox hb; have BK177 := Az_.mk (hbox); have GW177 := Az_.mk ((by rw [hg]; exact (bZ_ (bq_ HB)) : w.heap.size ≤ gb177)); have GE177 := Az_.mk ((by rw [hg]; exact (bZ_ (bq_ HB)) : w.heap.size ≤ gb177)); replace HB := Az_.mk (bT_ (bq_ HB) hb); clear hb hbox hg) | ((with_reducible refine yag_ (N := 3) rfl ?_); refine yah_ ?hg (N := 3) ?hd (cs := #[.int .i64 a1_0, .slice A1_1 l1_1.length c1_1]) (t := 24) ?hr ?_; (case hd => rfl); (case hg => rfl); (case hr => exact rq_); intro gb178 hg w37 hbox hb; have BK178 := Az_.mk (hbox); have GW178 := Az_.mk ((by rw [hg]; exact (bZ_ (bq1_ HB GE177)) : w.heap.size ≤ gb178)); have GE178 := Az_.mk ((by rw [hg]; exact (bZ_ (bq1_ HB GE177)) : w.heap.size ≤ gb178)); replace HB := Az_.mk (bT_ (bq1_ HB GE177) hb); have NB177_178 := Az_.mk ((by rw [hg]; exact Nat.ne_of_lt (blk_lt (g := gb177) (o := .cells #[.int .i64 a0_0, .slice A0_1 l0_1.length c0_1] 24 (0, 0)) (kq_ BK177)) : gb177 ≠ gb178)); have NB178_177 := Az_.mk ((by rw [hg]; exact Nat.ne_of_gt (blk_lt (g := gb177) (o := .cells #[.int .i64 a0_0, .slice A0_1 l0_1.length c0_1] 24 (0, 0)) (kq_ BK177)) : gb178 ≠ gb177)); replace BK177 := kb_ BK177 hb; clear hb hbox hg; have hnb38 := NB177_178.out; have hnc38 := NB178_177.out; obtain ⟨hcz39_0, hcz39_1, hfz39_0, hfz39_1⟩ := cz2_ BK177; obtain ⟨hcz40_0, hcz40_1, hfz40_0, hfz40_1⟩ := cz2_ BK178))
  go_ret
  exact ⟨by first | rfl | (simp [yad_, yac_] <;> rfl) | (simp [*, yad_, yac_] <;> rfl), bq2_ HB GE177 GE178⟩
end
section
attribute [local go_sem] max2_int min2_int max_two min_two yal_ yak_ max_four min_four
mutual
def soritesref06_Flat.l0 : Nat → List (S24) → Int → Int → List (S24) → Option ((List (S24)))
 | 0, _, _, _, _ => none
 | k + 1, x3, x4, x159000, x159001 => if x159000 ≥ 0 then (if x4 < (x159001.length : Int) then (if 0 ≤ x4 then ((soritesref06_Flat.f k ((rd_T24 x159001 x4).f0) ((rd_T24 x159001 x4).f1)).bind fun t163 => (if x3.length + t163.length < 4398046511104 then (soritesref06_Flat.l0 k (x3 ++ t163) (wrap64 (x4 + 1)) x159000 x159001) else (none))) else (none)) else (some x3)) else (some x3)
def soritesref06_Flat.f : Nat → Int → List (S24) → Option ((List (S24)))
 | 0, _, _ => none
 | k + 1, a0_0, l0_1 => soritesref06_Flat.l0 k (([(⟨a0_0, l0_1⟩ : S24)] : List (S24))) 0 a0_0 l0_1
end
set_option maxHeartbeats 8000000 in
set_option maxRecDepth 100000 in
theorem soritesref06_Flat.calls (k : Nat) : ∀ (a0_0 : Int) (P0_1_ : Nat → Prop) (A0_1 : Option Addr) (c0_1 : Nat) (l0_1 : List (S24)) (r : List (S24)) (w : World) (hs0_1 : Kd.V k24 24 w w.heap.size (fun k_ => P0_1_ k_) (.slice A0_1 l0_1.length c0_1) l0_1) (h : soritesref06_Flat.f k a0_0 l0_1 = some r),
  Calls Try.prog 26 #[.agg #[.int .i64 a0_0, .slice A0_1 l0_1.length c0_1]] w fun e w' => ∃ v0_ : Value, e = .returned (v0_) ∧ Kd.N k24 24 w' w.heap.size (fun k_ => (P0_1_ k_ ∨ w.heap.size ≤ k_)) v0_ r ∧ Below w.heap.size w w' := by
 induction k using Nat.strongRecOn with
 | _ k ih =>
 intro a0_0 P0_1_ A0_1 c0_1 l0_1 r w hs0_1 h
 cases k with
 | zero => exact absurd h (by simp [soritesref06_Flat.f])
 | succ k =>
 simp only [soritesref06_Flat.f] at h
 have hu24 := Try.underlying24
 have HO0_1 := Az_.mk (show Kd.V k24 24 w w.heap.size (fun k_ => (P0_1_ k_ ∨ w.heap.size ≤ k_)) (.slice A0_1 l0_1.length c0_1) l0_1 from Kd.V_mono hs0_1 (fun k_ hk => .inl hk))
 have HB := Az_.mk (Below.refl w.heap.size w)
 have H : (soritesref06_Flat.l0 k (([(⟨a0_0, l0_1⟩ : S24)] : List (S24))) 0 a0_0 l0_1) = some r := h
 clear h
 obtain ⟨y159, hy159⟩ : ∃ y_ : List (S24), y_ = (([(⟨a0_0, l0_1⟩ : S24)] : List (S24))) := ⟨_, rfl⟩
 replace H : (soritesref06_Flat.l0 k y159 0 a0_0 l0_1) = some r := by first | (rw [hy159]; with_reducible exact H) | (have H2_ := (Option.bind_some _ _).symm.trans H; rw [hy159]; with_reducible exact H2_) | (have H2_ := (Option.bind_some _ _).symm.trans H; with_reducible exact H2_) | with_reducible exact H | (rw [hy159]; exact H) | exact H
 have Ny159 := Az_.mk hy159
 clear hy159
 have H' := Az_.mk H
 clear H
 go_enter Try.func26, Try.ntmps26
 go_wp2_with (first | ((with_reducible refine yag_ (N := 1) rfl ?_); (try (refine gate_guard (by rfl) ?_; dsimp only)); refine yah_ ?hg (N := 1) ?hd (cs := #[.int .i64 a0_0, .slice A0_1 l0_1.length c0_1]) (t := 24) ?hr ?_; (case hd => rfl); (case hg => rfl); (case hr => exact rq_); intro gb158 hg w2 hbox hb; replace HO0_1 := Az_.mk (Kd.V_below (Kd.V_elderB (vq_ HO0_1) gb158 (Nat.le_of_eq hg.symm)) hb); have BK158 := Az_.mk (hbox); have GW158 := Az_.mk ((by rw [hg]; exact (bZ_ (bq_ HB)) : w.heap.size ≤ gb158)); have GE158 := Az_.mk ((by rw [hg]; exact (bZ_ (bq_ HB)) : w.heap.size ≤ gb158)); replace HB := Az_.mk (bT_ (bq_ HB) hb); clear hb hbox hg; obtain ⟨hcz3_0, hcz3_1, hfz3_0, hfz3_1⟩ := cz2_ BK158) | ((with_reducible refine yag_ (N := 6) rfl ?_); (try (refine gate_guard (by rfl) ?_; dsimp only)); refine Kd.N_lit k24 _ 24 ?hg (N' := 6) ?hd (xs := ([(⟨a0_0, l0_1⟩ : S24)] : List (S24))) (inner := [.int .i64 a0_0, .slice A0_1 l0_1.length c0_1]) (ok := (fun k_ => (P0_1_ k_ ∨ w.heap.size ≤ k_) ∧ k_ ≠ gb158)) (okp := (fun k_ => (P0_1_ k_ ∨ w.heap.size ≤ k_) ∧ k_ ≠ gb158)) ?hr ?hp (fun _ hk => hk) ((show ∀ k_, w2.heap.size ≤ k_ → (fun k_ => (P0_1_ k_ ∨ w.heap.size ≤ k_) ∧ k_ ≠ gb158) k_ from fun k_ hk => ⟨(.inr (Nat.le_trans (bZ_ (bq1_ HB GE158)) hk)), Kd.freshB (g := gb158) (o := .cells #[.int .i64 a0_0, .slice A0_1 l0_1.length c0_1] 24 (0, 0)) (kq_ BK158) k_ hk⟩) _ (Nat.le_refl _)) (Below.refl _ _) (Nat.le_refl _) (by simp) ?_; (case hd => rfl); (case hg => rfl); (case hr => exact rq_); (case hp => exact (Reps.c2 (show Kd.FK k24 _ _ (⟨a0_0, l0_1⟩ : S24) [.int .i64 a0_0, .slice A0_1 l0_1.length c0_1] from (k24_mkF _ _ (⟨a0_0, l0_1⟩ : S24) (Kd.V_reads' (Kd.V_mono (ok' := (fun k_ => (P0_1_ k_ ∨ w.heap.size ≤ k_) ∧ k_ ≠ gb158)) (HO0_1.out) (fun k_ hk => ⟨hk.1, hk.2⟩))).2.1 (Kd.V_F (Kd.V_mono (ok' := (fun k_ => (P0_1_ k_ ∨ w.heap.size ≤ k_) ∧ k_ ≠ gb158)) (HO0_1.out) (fun k_ hk => ⟨hk.1, hk.2⟩))))) (Reps.none _ _))); intro v160 w4 ho5 hb hg_ hnew_; clear hg_ hnew_; (first | rw [← Ny159.out] at ho5 | (simp only [Int.reduceToNat] at ho5; rw [← Ny159.out] at ho5)); replace HO0_1 := Az_.mk (Kd.V_elder' (vq_ HO0_1) (Kd.N_base ho5) hb); have HO161 := Az_.mk (Kd.N_lower ho5 (bZ_ (bq1_ HB GE158))); replace BK158 := kb_ BK158 hb; replace HB := Az_.mk (bT_ (bq1_ HB GE158) hb); clear hb ho5))
 go_loopg [3, 4] k (fun kq v3 v4 w' => ∃ (x3_1 : List (S24)) (x4_1 : Int), v4 = .int .i64 x4_1 ∧ Az_ (soritesref06_Flat.l0 kq x3_1 x4_1 a0_0 l0_1 = some r) ∧ Az_ (kq ≤ k) ∧ Az_ (Kd.N k24 24 w' w.heap.size (fun k_ => (P0_1_ k_ ∨ w.heap.size ≤ k_) ∧ k_ ≠ gb158) v3 x3_1) ∧ Az_ (Kd.V k24 24 w' w.heap.size (fun k_ => (P0_1_ k_ ∨ w.heap.size ≤ k_) ∧ some k_ ≠ (v3 : Value).ownBlock ∧ k_ ≠ gb158) (.slice A0_1 l0_1.length c0_1) l0_1) ∧ Az_ (w'.heap[gb158]? = some (.cells #[.int .i64 a0_0, (.slice A0_1 l0_1.length c0_1)] 24 (0, 0))) ∧ Az_ (Below w.heap.size w w'))
 case atStart => exact ⟨(y159), (0), sq_, H', ⟨Nat.le_refl _⟩, ⟨by (with_reducible repeat (first | apply Kd.N_alloc | apply Kd.N_drewN | apply Kd.N_drew)); exact HO161.out⟩, ⟨by (with_reducible repeat (first | apply Kd.V_alloc | apply Kd.V_drewN | apply Kd.V_drew)); exact Kd.V_mono HO0_1.out (fun _ hk => ⟨hk.1.1, ⟨hk.2, hk.1.2⟩⟩)⟩, ⟨kq_ BK158⟩, ⟨bq1_ HB GE158⟩⟩
 case round =>
  clear H'
  try clear c2
  try clear p2
  try clear hcz3_0
  try clear hcz3_1
  try clear hfz3_0
  try clear hfz3_1
  obtain ⟨x3_1, x4_1, rfl, HA, HK1, HO_3, HO_159001, BK158, HB⟩ := hrel
  cases gk with
  | zero => exact absurd HA.out (by simp [soritesref06_Flat.l0])
  | succ k1 =>
   have H := HA.out
   clear HA
   simp only [soritesref06_Flat.l0] at H
   by_cases c6 : a0_0 ≥ 0
   ·rw [if_pos c6] at H
    have c6b0 : decide (0 ≤ a0_0) = true := decide_eq_true c6
    clear c6
    by_cases c7 : x4_1 < (l0_1.length : Int)
    ·rw [if_pos c7] at H
     have c7b0 : decide (x4_1 < (l0_1.length : Int)) = true := decide_eq_true c7
     clear c7
     by_cases c8 : 0 ≤ x4_1
     ·rw [if_pos c8] at H
      have c8b0 : decide (0 ≤ x4_1) = true := decide_eq_true c8
      clear c8
      replace H := Option.bind_eq_some_iff.mp H
      obtain ⟨t163, A90, H⟩ := H
      replace H : (if x3_1.length + t163.length < 4398046511104 then (soritesref06_Flat.l0 k1 (x3_1 ++ t163) (wrap64 (x4_1 + 1)) a0_0 l0_1) else (none)) = some r := H
      have A9 := Az_.mk A90
      clear A90
      by_cases c10 : x3_1.length + t163.length < 4398046511104
      ·rw [if_pos c10] at H
       have LMc10 := Az_.mk c10
       clear c10
       obtain ⟨y166, hy166⟩ : ∃ y_ : List (S24), y_ = (x3_1 ++ t163) := ⟨_, rfl⟩
       replace H : (soritesref06_Flat.l0 k1 y166 (wrap64 (x4_1 + 1)) a0_0 l0_1) = some r := by first | (rw [hy166]; with_reducible exact H) | (have H2_ := (Option.bind_some _ _).symm.trans H; rw [hy166]; with_reducible exact H2_) | (have H2_ := (Option.bind_some _ _).symm.trans H; with_reducible exact H2_) | with_reducible exact H | (rw [hy166]; exact H) | exact H
       have Ny166 := Az_.mk hy166
       clear hy166
       have H' := Az_.mk H
       clear H
       obtain ⟨hcz11_0, hcz11_1, hfz11_0, hfz11_1⟩ := cz2_ BK158
       have p162 : 0 ≤ (x4_1 : Int) := of_decide_eq_true (by first | (with_reducible assumption) | assumption)
       have q162 : x4_1 < (l0_1.length : Int) := of_decide_eq_true (by first | (with_reducible assumption) | assumption)
       obtain ⟨ad162, A162_1, c162_1, e162, hx162_0, hx162_1, hl162_1, hi162_1⟩ := at_T24 (Kd.V_reads' HO_159001.out).2.2 x4_1 p162 q162
       cases e162
       obtain ⟨ce162, hce162, hMe162, hcc162⟩ := Kd.V_get HO_159001.out z24 x4_1 p162 (by first | exact q162 | exact of_decide_eq_true (by first | (with_reducible assumption) | assumption) | (have e_ := (Kd.V_reads' HO_159001.out).1; omega))
       obtain ⟨ua162_1, uc162_1, rfl, ul162_1, ge162_1⟩ := k24_openF hMe162
       have hv162_1 := hcc162 1 _ rfl
       rw [add_field _ _ 1 (by omega)] at hv162_1
       replace hv162_1 := Option.some.inj (hv162_1.symm.trans hx162_1)
       injection hv162_1 with hva_ hvn_ hvc_
       rw [hva_] at ge162_1
       rw [hvc_] at ul162_1
       have HL162_1 := Az_.mk (show Kd.V k24 24 _ w.heap.size _ _ ((rd_T24 l0_1 x4_1).f1) from Kd.V_mk ul162_1 ge162_1)
       clear hva_ hvn_ hvc_ ge162_1 ul162_1
       clear hcc162 hce162
       have HR162_1 := Az_.mk hi162_1
       have HC162_1 := Az_.mk hl162_1
       clear hi162_1 hl162_1
       replace p162 := eq_true p162
       replace q162 := eq_true q162
       go_wp2_with (first | ((with_reducible refine yaf_ (f := 26) rfl ?_); refine goesL_ (some 25) rfl rfl Try.func26 (by kernel_rfl) rfl #[.agg #[.int .i64 ((rd_T24 l0_1 x4_1).f0), .slice A162_1 ((rd_T24 l0_1 x4_1).f1).length c162_1]] rfl mq_ ?_; (with_reducible refine (ih k1 (by have := HK1.out; omega) ((rd_T24 l0_1 x4_1).f0) (fun k_ => ((P0_1_ k_ ∨ w.heap.size ≤ k_) ∧ (some k_ ≠ (u3 : Value).ownBlock ∧ k_ ≠ gb158))) _ _ ((rd_T24 l0_1 x4_1).f1) t163 _ ?side1 A9.out).mono ?_); (case side1 => exact HL162_1.out); rintro e w12 ⟨v164, rfl, ho0, hb⟩; refine ⟨_, rfl, ?_⟩; replace HO_159001 := Az_.mk (Kd.V_elder' (vq_ HO_159001) (Kd.N_base ho0) hb); replace HL162_1 := Az_.mk (Kd.V_elder' (vq_ HL162_1) (Kd.N_base ho0) hb); have HO165 := Az_.mk (Kd.N_lower (Kd.N_mono (ok' := fun k_ => (P0_1_ k_ ∨ w.heap.size ≤ k_) ∧ some k_ ≠ (u3 : Value).ownBlock ∧ k_ ≠ gb158) ho0 (fun k_ hk_ => ⟨Or.elim hk_ (fun hs_ => hs_.1) (fun hn_ => (.inr (Nat.le_trans (bZ_ (bq1_ HB GE158)) hn_))), Or.elim hk_ (fun hs_ => hs_.2.1) (fun hn_ => (Kd.fresh' (Kd.N_lt (nq_ HO_3)) k_ hn_)), Or.elim hk_ (fun hs_ => hs_.2.2) (fun hn_ => (Kd.freshB (g := gb158) (o := .cells #[.int .i64 a0_0, .slice (some ad162) l0_1.length c0_1] 24 (0, 0)) (kq_ BK158) k_ hn_))⟩)) (bZ_ (bq1_ HB GE158))); replace HO_3 := Az_.mk (Kd.N_elder' (nq_ HO_3) (Kd.N_base ho0) hb); replace BK158 := kb_ BK158 hb; replace HR162_1 := Az_.mk (Kd.C_below (by repeat (first | (with_reducible exact HR162_1.out) | (with_reducible refine Kd.C_alloc ?_ _) | (with_reducible refine Kd.C_drewN ?_ _) | (with_reducible refine Kd.C_drew ?_) | exact HR162_1.out)) hb); replace HB := Az_.mk (bT_ (bq1_ HB GE158) hb); (try clear hb); (try clear hb2); (try clear hk); (try clear hi); (try clear ho0); obtain ⟨Ao14, co14, eo14⟩ := Kd.N_slice HO165.out; subst eo14) | ((with_reducible refine gate_builtin (b := .append) (xs := #[.tmp 19, .tmp 25]) rfl ?_); (try (refine gate_guard (by rfl) ?_; dsimp only)); at_builtin; refine Kd.N_append_rows k24 (w0 := w) w.heap.size rfl (.tmp 19) (.tmp 25) 22 24 (.agg #[(.int .i64 0), (.slice none 0 0)]) 32 rfl Try.underlying22 info24 rfl (by decide) (by omega) u3 x3_1 t163 _ _ _ (fun k_ => (P0_1_ k_ ∨ w.heap.size ≤ k_) ∧ k_ ≠ gb158) (fun k_ => ((fun k_ => (P0_1_ k_ ∨ w.heap.size ≤ k_) ∧ k_ ≠ gb158)) k_ ∧ some k_ ≠ (u3 : Value).ownBlock) rfl rfl ?aO ?aR (fun _ hk => hk) ?aF ?aB ?aS ?aL ?_; (case aR => exact (by skip; exact Kd.N_F (Kd.N_mono (ok' := (fun k_ => ((fun k_ => (P0_1_ k_ ∨ w.heap.size ≤ k_) ∧ k_ ≠ gb158)) k_ ∧ some k_ ≠ (u3 : Value).ownBlock)) (HO165.out) (fun k_ hk => ⟨⟨hk.1, hk.2.2⟩, hk.2.1⟩)))); (case aB => exact (bq1_ HB GE158)); (case aF => exact (fun k_ hk => ⟨(.inr (Nat.le_trans (bZ_ (bq1_ HB GE158)) hk)), Kd.freshB (g := gb158) (o := .cells #[.int .i64 a0_0, .slice (some ad162) l0_1.length c0_1] 24 (0, 0)) (kq_ BK158) k_ hk⟩)); (case aO => exact (by (with_reducible repeat (first | apply Kd.N_alloc | apply Kd.N_drewN | apply Kd.N_drew)); exact Kd.N_mono HO_3.out (fun _ hk => ⟨hk.1.1, hk.1.2⟩))); (case aS => exact (bZ_ (bq1_ HB GE158))); (case aL => have := LMc10.out; omega); intro v167 w13 ho hb hg hat; rw [← Ny166.out] at ho; have n0_ := Az_.mk (Kd.V_afterv (ok := (fun k_ => (P0_1_ k_ ∨ w.heap.size ≤ k_) ∧ some k_ ≠ (.slice Ao14 t163.length co14 : Value).ownBlock ∧ k_ ≠ gb158)) (by (with_reducible repeat (first | apply Kd.V_alloc | apply Kd.V_drewN | apply Kd.V_drew)); exact Kd.V_mono HO_159001.out (fun _ hk => ⟨⟨hk.1.1, ⟨hk.2, hk.1.2.2⟩⟩, hk.1.2.1⟩)) hg hat); have n1_ := Az_.mk (blk_grown (g := gb158) (o := .cells #[.int .i64 a0_0, .slice (some ad162) l0_1.length c0_1] 24 (0, 0)) (kq_ BK158) hg (Kd.N_away HO_3.out (fun _ hk => hk.1.2))); have n2_ := Az_.mk (Kd.V_afterv (ok := (fun k_ => (P0_1_ k_ ∨ w.heap.size ≤ k_) ∧ some k_ ≠ (.slice Ao14 t163.length co14 : Value).ownBlock ∧ k_ ≠ gb158)) (by (with_reducible repeat (first | apply Kd.V_alloc | apply Kd.V_drewN | apply Kd.V_drew)); exact Kd.V_mono HL162_1.out (fun _ hk => ⟨⟨hk.1.1, ⟨hk.2, hk.1.2.2⟩⟩, hk.1.2.1⟩)) hg hat); have n3_ := Az_.mk (Kd.N_afterv (ok := (fun k_ => (P0_1_ k_ ∨ w.heap.size ≤ k_) ∧ k_ ≠ gb158)) (by (with_reducible repeat (first | apply Kd.N_alloc | apply Kd.N_drewN | apply Kd.N_drew)); exact Kd.N_mono HO165.out (fun _ hk => ⟨⟨hk.1, hk.2.2⟩, hk.2.1⟩)) hg hat); have n4_ := Az_.mk (hb); have n5_ := Az_.mk (ho); clear HO_159001; clear BK158; clear HL162_1; clear HO165; clear HB; clear HO_3; have HO_159001 := n0_; have BK158 := n1_; have HL162_1 := n2_; have HO165 := n3_; have HB := n4_; have HO168 := n5_; clear n0_ n1_ n2_ n3_ n4_ n5_; clear ho hb hg hat))
       go_roundg k1
       case measure => have := HK1.out; omega
       case rel => exact ⟨(y166), (wrap64 (x4_1 + 1)), sq_, H', ⟨by have := HK1.out; omega⟩, ⟨by (with_reducible repeat (first | apply Kd.N_alloc | apply Kd.N_drewN | apply Kd.N_drew)); exact HO168.out⟩, ⟨by (with_reducible repeat (first | apply Kd.V_alloc | apply Kd.V_drewN | apply Kd.V_drew)); exact Kd.V_mono HO_159001.out (fun _ hk => ⟨hk.1.1, ⟨hk.2, hk.1.2.2⟩⟩)⟩, ⟨kq_ BK158⟩, ⟨bq1_ HB GE158⟩⟩
      ·rw [if_neg c10] at H
       exact absurd H (by simp)
     ·rw [if_neg c8] at H
      exact absurd H (by simp)
    ·rw [if_neg c7] at H
     have c7b0 : decide (x4_1 < (l0_1.length : Int)) = false := decide_eq_false c7
     clear c7
     obtain rfl := Option.some.inj H
     obtain ⟨hcz15_0, hcz15_1, hfz15_0, hfz15_1⟩ := cz2_ BK158
     go_wp2
     go_ret
     exact ⟨_, by first | rfl | (simp [yad_, yac_] <;> rfl) | (simp [*, yad_, yac_] <;> rfl), by (with_reducible repeat (first | apply Kd.N_alloc | apply Kd.N_drewN | apply Kd.N_drew)); exact Kd.N_mono HO_3.out (fun _ hk => hk.1), bq1_ HB GE158⟩
   ·rw [if_neg c6] at H
    have c6b0 : decide (0 ≤ a0_0) = false := decide_eq_false c6
    clear c6
    obtain rfl := Option.some.inj H
    obtain ⟨hcz16_0, hcz16_1, hfz16_0, hfz16_1⟩ := cz2_ BK158
    go_wp2
    go_ret
    exact ⟨_, by first | rfl | (simp [yad_, yac_] <;> rfl) | (simp [*, yad_, yac_] <;> rfl), by (with_reducible repeat (first | apply Kd.N_alloc | apply Kd.N_drewN | apply Kd.N_drew)); exact Kd.N_mono HO_3.out (fun _ hk => hk.1), bq1_ HB GE158⟩
end
section
attribute [local go_sem] max2_int min2_int max_two min_two yal_ yak_ max_four min_four
mutual
def soritesref06_Vars.l0 : Nat → List (S24) → List Int → Int → Option (List Int)
 | 0, _, _, _ => none
 | k + 1, x3, x4, x5 => if x5 < (x3.length : Int) then (if 0 ≤ x5 then (if ((rd_T24 x3 x5).f0) ≥ 0 then (soritesref06_Vars.l0 k x3 x4 (wrap64 (x5 + 1))) else (soritesref06_Vars.l1 k x3 x4 x5 (wrap64 ((-1) - ((rd_T24 x3 x5).f0))) false 0)) else (none)) else (some x4)
def soritesref06_Vars.l1 : Nat → List (S24) → List Int → Int → Int → Bool → Int → Option (List Int)
 | 0, _, _, _, _, _, _ => none
 | k + 1, x3, x4, x5, x6, x7, x8 => if x8 < (x4.length : Int) then (if x7 = true then (soritesref06_Vars.l1 k x3 x4 x5 x6 true (wrap64 (x8 + 1))) else (if 0 ≤ x8 then (soritesref06_Vars.l1 k x3 x4 x5 x6 ((rd x4 x8) == x6) (wrap64 (x8 + 1))) else (none))) else (if x7 = true then (soritesref06_Vars.l0 k x3 x4 (wrap64 (x5 + 1))) else (if x4.length < 17592186044416 then (soritesref06_Vars.l0 k x3 (x4 ++ [x6]) (wrap64 (x5 + 1))) else (none)))
end
def soritesref06_Vars.f (k : Nat) (a0_0 : Int) (l0_1 : List (S24)) : Option (List Int) := (soritesref06_Flat.f k a0_0 l0_1).bind fun t298 => (soritesref06_Vars.l0 k t298 ([] : List Int) 0)
set_option maxHeartbeats 8000000 in
set_option maxRecDepth 100000 in
theorem soritesref06_Vars.calls (k : Nat) (a0_0 : Int) (A0_1 : Option Addr) (c0_1 : Nat) (l0_1 : List (S24)) (r : List Int) (w : World) (hr0_1 : Kd.C k24 w A0_1 l0_1.length l0_1) (hc0_1 : l0_1.length ≤ c0_1) (h : soritesref06_Vars.f k a0_0 l0_1 = some r) :
  Calls Try.prog 48 #[.agg #[.int .i64 a0_0, .slice A0_1 l0_1.length c0_1]] w fun e w' => ∃ v0_ : Value, e = .returned (v0_) ∧ Kd.R (Kd.int .i64) 3 w' w.heap.size (fun _ => True) v0_ r ∧ Below w.heap.size w w' := by
 have hu24 := Try.underlying24
 have HR0_1 := Az_.mk hr0_1
 have HC0_1 := Az_.mk hc0_1
 clear hr0_1 hc0_1
 have HB := Az_.mk (Below.refl w.heap.size w)
 have H : ((soritesref06_Flat.f k a0_0 l0_1).bind fun t298 => (soritesref06_Vars.l0 k t298 ([] : List Int) 0)) = some r := h
 clear h
 replace H := Option.bind_eq_some_iff.mp H
 obtain ⟨t298, A20, H⟩ := H
 replace H : (soritesref06_Vars.l0 k t298 ([] : List Int) 0) = some r := H
 have A2 := Az_.mk A20
 clear A20
 have H' := Az_.mk H
 clear H
 go_enter Try.func48, Try.ntmps48
 go_wp2_with (first | ((with_reducible refine yag_ (N := 1) rfl ?_); refine yah_ ?hg (N := 1) ?hd (cs := #[.int .i64 a0_0, .slice A0_1 l0_1.length c0_1]) (t := 24) ?hr ?_; (case hd => rfl); (case hg => rfl); (case hr => exact rq_); intro gb297 hg w3 hbox hb; have BK297 := Az_.mk (hbox); have GW297 := Az_.mk ((by rw [hg]; exact (bZ_ (bq_ HB)) : w.heap.size ≤ gb297)); have GE297 := Az_.mk ((by rw [hg]; exact (bZ_ (bq_ HB)) : w.heap.size ≤ gb297)); replace HB := Az_.mk (bT_ (bq_ HB) hb); clear hb hbox hg; obtain ⟨hcz4_0, hcz4_1, hfz4_0, hfz4_1⟩ := cz2_ BK297) | ((with_reducible refine yaf_ (f := 26) rfl ?_); refine goesL_ (some 10) rfl rfl Try.func26 (by kernel_rfl) rfl #[.agg #[.int .i64 a0_0, .slice A0_1 l0_1.length c0_1]] rfl mq_ ?_; (with_reducible refine (soritesref06_Flat.calls k a0_0 (fun k_ => k_ < w.heap.size) _ _ l0_1 t298 _ ?side1 A2.out).mono ?_); (case side1 => exact Kd.V_mk HC0_1.out (Kd.F_below (Kd.C_F k24_heap HR0_1.out) (bq1_ HB GE297))); rintro e w5 ⟨v299, rfl, ho0, hb⟩; refine ⟨_, rfl, ?_⟩; have HO300 := Az_.mk (Kd.N_lower (Kd.N_mono (ok' := fun k_ => k_ ≠ gb297) ho0 (fun k_ hk_ => Or.elim hk_ (fun hs_ => fun e_ => Nat.not_le.2 hs_ (by rw [e_]; exact GW297.out)) (fun hn_ => (Kd.freshB (g := gb297) (o := .cells #[.int .i64 a0_0, .slice A0_1 l0_1.length c0_1] 24 (0, 0)) (kq_ BK297) k_ hn_)))) (bZ_ (bq1_ HB GE297))); replace BK297 := kb_ BK297 hb; replace HB := Az_.mk (bT_ (bq1_ HB GE297) hb); (try clear hb); (try clear hb2); (try clear hk); (try clear hi); (try clear ho0)))
 go_loopg [4, 5] k (fun kq v4 v5 w' => ∃ (x4_1 : List Int) (x5_1 : Int), v5 = .int .i64 x5_1 ∧ Az_ (soritesref06_Vars.l0 kq t298 x4_1 x5_1 = some r) ∧ Az_ (kq ≤ k) ∧ Az_ (Kd.N k24 24 w' w.heap.size (fun k_ => some k_ ≠ (v4 : Value).ownBlock ∧ k_ ≠ gb297) v299 t298) ∧ Az_ (Kd.R (Kd.int .i64) 3 w' w.heap.size (fun _ => True) v4 x4_1) ∧ Az_ (w'.heap[gb297]? = some (.cells #[.int .i64 a0_0, (.slice A0_1 l0_1.length c0_1)] 24 (0, 0))) ∧ Az_ (Below w.heap.size w w'))
 case atStart => exact ⟨(([] : List Int)), (0), sq_, H', ⟨Nat.le_refl _⟩, ⟨by (with_reducible repeat (first | apply Kd.N_alloc | apply Kd.N_drewN | apply Kd.N_drew)); exact Kd.N_mono HO300.out (fun _ hk => ⟨(by simp [Value.ownBlock]), hk⟩)⟩, ⟨by first | exact Kd.R_nil _ _ _ _ _ | exact Kd.N_nil _ _ _ _ _ | exact Kd.V_nil _ _ _ _ _ | exact Kd.Q_nil _ _ _ _ _ | exact Kd.S_nil _ _ _ _ _⟩, ⟨kq_ BK297⟩, ⟨bq1_ HB GE297⟩⟩
 case round =>
  clear H'
  try clear c2
  try clear p2
  try clear c4
  try clear hcz4_0
  try clear hcz4_1
  try clear hfz4_0
  try clear hfz4_1
  obtain ⟨x4_1, x5_1, rfl, HA, HK1, HO_3, HO_4, BK297, HB⟩ := hrel
  cases gk with
  | zero => exact absurd HA.out (by simp [soritesref06_Vars.l0])
  | succ k1 =>
   have H := HA.out
   clear HA
   simp only [soritesref06_Vars.l0] at H
   by_cases c6 : x5_1 < (t298.length : Int)
   ·rw [if_pos c6] at H
    have c6b0 : decide (x5_1 < (t298.length : Int)) = true := decide_eq_true c6
    clear c6
    by_cases c7 : 0 ≤ x5_1
    ·rw [if_pos c7] at H
     have c7b0 : decide (0 ≤ x5_1) = true := decide_eq_true c7
     clear c7
     by_cases c8 : ((rd_T24 t298 x5_1).f0) ≥ 0
     ·rw [if_pos c8] at H
      have c8b0 : decide (0 ≤ ((rd_T24 t298 x5_1).f0)) = true := decide_eq_true c8
      clear c8
      have H' := Az_.mk H
      clear H
      obtain ⟨Ao9, co9, eo9⟩ := Kd.N_slice HO_3.out
      subst eo9
      have p301 : 0 ≤ (x5_1 : Int) := of_decide_eq_true (by first | (with_reducible assumption) | assumption)
      have q301 : x5_1 < (t298.length : Int) := of_decide_eq_true (by first | (with_reducible assumption) | assumption)
      obtain ⟨ad301, A301_1, c301_1, e301, hx301_0, hx301_1, hl301_1, hi301_1⟩ := at_T24 (Kd.N_reads' HO_3.out).2.2 x5_1 p301 q301
      cases e301
      obtain ⟨ce301, hce301, hMe301, hcc301⟩ := Kd.N_get HO_3.out z24 x5_1 p301 (by first | exact q301 | exact of_decide_eq_true (by first | (with_reducible assumption) | assumption) | (have e_ := (Kd.N_reads' HO_3.out).1; omega))
      obtain ⟨ua301_1, uc301_1, rfl, ul301_1, ge301_1⟩ := k24_openF hMe301
      have hv301_1 := hcc301 1 _ rfl
      rw [add_field _ _ 1 (by omega)] at hv301_1
      replace hv301_1 := Option.some.inj (hv301_1.symm.trans hx301_1)
      injection hv301_1 with hva_ hvn_ hvc_
      rw [hva_] at ge301_1
      rw [hvc_] at ul301_1
      have HL301_1 := Az_.mk (show Kd.V k24 24 _ w.heap.size _ _ ((rd_T24 t298 x5_1).f1) from Kd.V_mk ul301_1 ge301_1)
      clear hva_ hvn_ hvc_ ge301_1 ul301_1
      clear hcc301 hce301
      have HR301_1 := Az_.mk hi301_1
      have HC301_1 := Az_.mk hl301_1
      clear hi301_1 hl301_1
      replace p301 := eq_true p301
      replace q301 := eq_true q301
      go_wp2
      go_roundg k1
      case measure => have := HK1.out; omega
      case rel => exact ⟨(x4_1), (wrap64 (x5_1 + 1)), sq_, H', ⟨by have := HK1.out; omega⟩, ⟨by (with_reducible repeat (first | apply Kd.N_alloc | apply Kd.N_drewN | apply Kd.N_drew)); exact HO_3.out⟩, ⟨by (with_reducible repeat (first | apply Kd.R_alloc | apply Kd.R_drewN | apply Kd.R_drew)); exact HO_4.out⟩, ⟨kq_ BK297⟩, ⟨bq1_ HB GE297⟩⟩
     ·rw [if_neg c8] at H
      have c8b0 : decide (0 ≤ ((rd_T24 t298 x5_1).f0)) = false := decide_eq_false c8
      clear c8
      have H' := Az_.mk H
      clear H
      obtain ⟨Ao10, co10, eo10⟩ := Kd.N_slice HO_3.out
      subst eo10
      have p301 : 0 ≤ (x5_1 : Int) := of_decide_eq_true (by first | (with_reducible assumption) | assumption)
      have q301 : x5_1 < (t298.length : Int) := of_decide_eq_true (by first | (with_reducible assumption) | assumption)
      obtain ⟨ad301, A301_1, c301_1, e301, hx301_0, hx301_1, hl301_1, hi301_1⟩ := at_T24 (Kd.N_reads' HO_3.out).2.2 x5_1 p301 q301
      cases e301
      obtain ⟨ce301, hce301, hMe301, hcc301⟩ := Kd.N_get HO_3.out z24 x5_1 p301 (by first | exact q301 | exact of_decide_eq_true (by first | (with_reducible assumption) | assumption) | (have e_ := (Kd.N_reads' HO_3.out).1; omega))
      obtain ⟨ua301_1, uc301_1, rfl, ul301_1, ge301_1⟩ := k24_openF hMe301
      have hv301_1 := hcc301 1 _ rfl
      rw [add_field _ _ 1 (by omega)] at hv301_1
      replace hv301_1 := Option.some.inj (hv301_1.symm.trans hx301_1)
      injection hv301_1 with hva_ hvn_ hvc_
      rw [hva_] at ge301_1
      rw [hvc_] at ul301_1
      have HL301_1 := Az_.mk (show Kd.V k24 24 _ w.heap.size _ _ ((rd_T24 t298 x5_1).f1) from Kd.V_mk ul301_1 ge301_1)
      clear hva_ hvn_ hvc_ ge301_1 ul301_1
      clear hcc301 hce301
      have HR301_1 := Az_.mk hi301_1
      have HC301_1 := Az_.mk hl301_1
      clear hi301_1 hl301_1
      replace p301 := eq_true p301
      replace q301 := eq_true q301
      have p302 : 0 ≤ (x5_1 : Int) := of_decide_eq_true (by first | (with_reducible assumption) | assumption)
      have q302 : x5_1 < (t298.length : Int) := of_decide_eq_true (by first | (with_reducible assumption) | assumption)
      obtain ⟨ad302, A302_1, c302_1, e302, hx302_0, hx302_1, hl302_1, hi302_1⟩ := at_T24 (Kd.N_reads' HO_3.out).2.2 x5_1 p302 q302
      obtain rfl : ad301 = ad302 := (by injection e302)
      obtain ⟨ce302, hce302, hMe302, hcc302⟩ := Kd.N_get HO_3.out z24 x5_1 p302 (by first | exact q302 | exact of_decide_eq_true (by first | (with_reducible assumption) | assumption) | (have e_ := (Kd.N_reads' HO_3.out).1; omega))
      obtain ⟨ua302_1, uc302_1, rfl, ul302_1, ge302_1⟩ := k24_openF hMe302
      have hv302_1 := hcc302 1 _ rfl
      rw [add_field _ _ 1 (by omega)] at hv302_1
      replace hv302_1 := Option.some.inj (hv302_1.symm.trans hx302_1)
      injection hv302_1 with hva_ hvn_ hvc_
      rw [hva_] at ge302_1
      rw [hvc_] at ul302_1
      have HL302_1 := Az_.mk (show Kd.V k24 24 _ w.heap.size _ _ ((rd_T24 t298 x5_1).f1) from Kd.V_mk ul302_1 ge302_1)
      clear hva_ hvn_ hvc_ ge302_1 ul302_1
      clear hcc302 hce302
      have HR302_1 := Az_.mk hi302_1
      have HC302_1 := Az_.mk hl302_1
      clear hi302_1 hl302_1
      replace p302 := eq_true p302
      replace q302 := eq_true q302
      have ea_ := Option.some.inj (hx301_1.symm.trans hx302_1)
      injection ea_ with ea_ en_ ec_
      subst ea_
      subst ec_
      clear en_
      go_wp2
      go_loopg [7, 8] k1 (fun kq v7 v8 w' => ∃ (x7_2 : Bool) (x8_2 : Int), v7 = .bool x7_2 ∧ v8 = .int .i64 x8_2 ∧ Az_ (soritesref06_Vars.l1 kq t298 x4_1 x5_1 (wrap64 ((-1) - ((rd_T24 t298 x5_1).f0))) x7_2 x8_2 = some r) ∧ Az_ (kq ≤ k1) ∧ Az_ (Kd.N k24 24 w' w.heap.size (fun k_ => some k_ ≠ (u4 : Value).ownBlock ∧ k_ ≠ gb297) (.slice (some ad301) t298.length co10) t298) ∧ Az_ (Kd.R (Kd.int .i64) 3 w' w.heap.size (fun _ => True) u4 x4_1) ∧ Az_ (w'.heap[gb297]? = some (.cells #[.int .i64 a0_0, (.slice A0_1 l0_1.length c0_1)] 24 (0, 0))) ∧ Az_ (Kd.C k24 w' A301_1 ((rd_T24 t298 x5_1).f1).length ((rd_T24 t298 x5_1).f1)) ∧ Az_ (Kd.C k24 w' A301_1 ((rd_T24 t298 x5_1).f1).length ((rd_T24 t298 x5_1).f1)) ∧ Az_ (Below w.heap.size w w'))
      case atStart => exact ⟨(false), (0), sq_, sq_, H', ⟨Nat.le_refl _⟩, ⟨by (with_reducible repeat (first | apply Kd.N_alloc | apply Kd.N_drewN | apply Kd.N_drew)); exact HO_3.out⟩, ⟨by (with_reducible repeat (first | apply Kd.R_alloc | apply Kd.R_drewN | apply Kd.R_drew)); exact HO_4.out⟩, ⟨kq_ BK297⟩, ⟨by repeat (first | (with_reducible exact HR301_1.out) | (with_reducible refine Kd.C_alloc ?_ _) | (with_reducible refine Kd.C_drewN ?_ _) | (with_reducible refine Kd.C_drew ?_) | exact HR301_1.out)⟩, ⟨by repeat (first | (with_reducible exact HR302_1.out) | (with_reducible refine Kd.C_alloc ?_ _) | (with_reducible refine Kd.C_drewN ?_ _) | (with_reducible refine Kd.C_drew ?_) | exact HR302_1.out)⟩, ⟨bq1_ HB GE297⟩⟩
      case round =>
       clear H'
       try clear c2
       try clear p2
       try clear c3
       try clear p3
       try clear q3
       try clear hx3
       try clear c4
       try clear c6
       try clear c6b0
       try clear p6
       try clear c7
       try clear c7b0
       try clear c8
       try clear c8b0
       try clear hcz4_0
       try clear hcz4_1
       try clear hfz4_0
       try clear hfz4_1
       try clear hx301_0
       try clear hx301_1
       try clear hx302_0
       try clear hx302_1
       try clear p2
       try clear p301
       try clear p302
       try clear q301
       try clear q302
       obtain ⟨x7_2, x8_2, rfl, rfl, HA, HK2, HO_3, HO_4, BK297, HR301_1, HR302_1, HB⟩ := hrel
       cases gk with
       | zero => exact absurd HA.out (by simp [soritesref06_Vars.l1])
       | succ k2 =>
        have H := HA.out
        clear HA
        simp only [soritesref06_Vars.l1] at H
        by_cases c11 : x8_2 < (x4_1.length : Int)
        ·rw [if_pos c11] at H
         have c11b0 : decide (x8_2 < (x4_1.length : Int)) = true := decide_eq_true c11
         clear c11
         by_cases c12 : x7_2 = true
         ·subst c12
          have H1 : (soritesref06_Vars.l1 k2 t298 x4_1 x5_1 (wrap64 ((-1) - ((rd_T24 t298 x5_1).f0))) true (wrap64 (x8_2 + 1))) = some r := by rw [if_pos rfl] at H; exact H
          clear H
          have H := H1
          clear H1
          have H' := Az_.mk H
          clear H
          obtain ⟨Ao13, co13, eo13⟩ := Kd.R_slice HO_4.out
          subst eo13
          go_wp2
          go_roundg k2
          case measure => have := HK1.out; have := HK2.out; omega
          case rel => exact ⟨(true), (wrap64 (x8_2 + 1)), sq_, sq_, H', ⟨by have := HK1.out; have := HK2.out; omega⟩, ⟨by (with_reducible repeat (first | apply Kd.N_alloc | apply Kd.N_drewN | apply Kd.N_drew)); exact HO_3.out⟩, ⟨by (with_reducible repeat (first | apply Kd.R_alloc | apply Kd.R_drewN | apply Kd.R_drew)); exact HO_4.out⟩, ⟨kq_ BK297⟩, ⟨by repeat (first | (with_reducible exact HR301_1.out) | (with_reducible refine Kd.C_alloc ?_ _) | (with_reducible refine Kd.C_drewN ?_ _) | (with_reducible refine Kd.C_drew ?_) | exact HR301_1.out)⟩, ⟨by repeat (first | (with_reducible exact HR302_1.out) | (with_reducible refine Kd.C_alloc ?_ _) | (with_reducible refine Kd.C_drewN ?_ _) | (with_reducible refine Kd.C_drew ?_) | exact HR302_1.out)⟩, ⟨bq1_ HB GE297⟩⟩
         ·replace c12 := Bool.eq_false_iff.mpr c12
          subst c12
          have H1 : (if 0 ≤ x8_2 then (soritesref06_Vars.l1 k2 t298 x4_1 x5_1 (wrap64 ((-1) - ((rd_T24 t298 x5_1).f0))) ((rd x4_1 x8_2) == (wrap64 ((-1) - ((rd_T24 t298 x5_1).f0)))) (wrap64 (x8_2 + 1))) else (none)) = some r := by rw [if_neg (show ¬ (false = true) by decide)] at H; exact H
          clear H
          have H := H1
          clear H1
          by_cases c14 : 0 ≤ x8_2
          ·rw [if_pos c14] at H
           have c14b0 : decide (0 ≤ x8_2) = true := decide_eq_true c14
           clear c14
           have H' := Az_.mk H
           clear H
           obtain ⟨Ao15, co15, eo15⟩ := Kd.R_slice HO_4.out
           subst eo15
           have p303 : 0 ≤ (x8_2 : Int) := of_decide_eq_true (by first | (with_reducible assumption) | assumption)
           have q303 : x8_2 < (x4_1.length : Int) := of_decide_eq_true (by first | (with_reducible assumption) | assumption)
           obtain ⟨ad303, e303, hx303_0⟩ := Kd.at_int (Kd.R_reads' HO_4.out).2.2 x8_2 p303 q303
           cases e303
           replace p303 := eq_true p303
           replace q303 := eq_true q303
           go_wp2
           go_roundg k2
           case measure => have := HK1.out; have := HK2.out; omega
           case rel => exact ⟨(((rd x4_1 x8_2) == (wrap64 ((-1) - ((rd_T24 t298 x5_1).f0))))), (wrap64 (x8_2 + 1)), sq_, sq_, H', ⟨by have := HK1.out; have := HK2.out; omega⟩, ⟨by (with_reducible repeat (first | apply Kd.N_alloc | apply Kd.N_drewN | apply Kd.N_drew)); exact HO_3.out⟩, ⟨by (with_reducible repeat (first | apply Kd.R_alloc | apply Kd.R_drewN | apply Kd.R_drew)); exact HO_4.out⟩, ⟨kq_ BK297⟩, ⟨by repeat (first | (with_reducible exact HR301_1.out) | (with_reducible refine Kd.C_alloc ?_ _) | (with_reducible refine Kd.C_drewN ?_ _) | (with_reducible refine Kd.C_drew ?_) | exact HR301_1.out)⟩, ⟨by repeat (first | (with_reducible exact HR302_1.out) | (with_reducible refine Kd.C_alloc ?_ _) | (with_reducible refine Kd.C_drewN ?_ _) | (with_reducible refine Kd.C_drew ?_) | exact HR302_1.out)⟩, ⟨bq1_ HB GE297⟩⟩
          ·rw [if_neg c14] at H
           exact absurd H (by simp)
        ·rw [if_neg c11] at H
         have c11b0 : decide (x8_2 < (x4_1.length : Int)) = false := decide_eq_false c11
         clear c11
         by_cases c16 : x7_2 = true
         ·subst c16
          have H1 : (soritesref06_Vars.l0 k2 t298 x4_1 (wrap64 (x5_1 + 1))) = some r := by rw [if_pos rfl] at H; exact H
          clear H
          have H := H1
          clear H1
          have H' := Az_.mk H
          clear H
          obtain ⟨Ao17, co17, eo17⟩ := Kd.R_slice HO_4.out
          subst eo17
          go_wp2
          go_roundg k2
          case measure => have := HK1.out; have := HK2.out; omega
          case rel => exact ⟨(x4_1), (wrap64 (x5_1 + 1)), sq_, H', ⟨by have := HK1.out; have := HK2.out; omega⟩, ⟨by (with_reducible repeat (first | apply Kd.N_alloc | apply Kd.N_drewN | apply Kd.N_drew)); exact HO_3.out⟩, ⟨by (with_reducible repeat (first | apply Kd.R_alloc | apply Kd.R_drewN | apply Kd.R_drew)); exact HO_4.out⟩, ⟨kq_ BK297⟩, ⟨bq1_ HB GE297⟩⟩
         ·replace c16 := Bool.eq_false_iff.mpr c16
          subst c16
          have H1 : (if x4_1.length < 17592186044416 then (soritesref06_Vars.l0 k2 t298 (x4_1 ++ [(wrap64 ((-1) - ((rd_T24 t298 x5_1).f0)))]) (wrap64 (x5_1 + 1))) else (none)) = some r := by rw [if_neg (show ¬ (false = true) by decide)] at H; exact H
          clear H
          have H := H1
          clear H1
          by_cases c18 : x4_1.length < 17592186044416
          ·rw [if_pos c18] at H
           have LMc18 := Az_.mk c18
           clear c18
           obtain ⟨y304, hy304⟩ : ∃ y_ : List Int, y_ = (x4_1 ++ [(wrap64 ((-1) - ((rd_T24 t298 x5_1).f0)))]) := ⟨_, rfl⟩
           replace H : (soritesref06_Vars.l0 k2 t298 y304 (wrap64 (x5_1 + 1))) = some r := by first | (rw [hy304]; with_reducible exact H) | (have H2_ := (Option.bind_some _ _).symm.trans H; rw [hy304]; with_reducible exact H2_) | (have H2_ := (Option.bind_some _ _).symm.trans H; with_reducible exact H2_) | with_reducible exact H | (rw [hy304]; exact H) | exact H
           have Ny304 := Az_.mk hy304
           clear hy304
           have H' := Az_.mk H
           clear H
           obtain ⟨Ao19, co19, eo19⟩ := Kd.R_slice HO_4.out
           subst eo19
           go_wp2_with (first | ((with_reducible refine gate_builtin (b := .append) (xs := #[.tmp 46, .tmp 48]) rfl ?_); at_builtin; refine Kd.R_append (Kd.int .i64) (w0 := w) w.heap.size rfl (.tmp 46) (.tmp 48) 25 3 (.int .i64 0) 8 rfl Try.underlying25 info3 rfl (by decide) (by omega) (.slice Ao19 x4_1.length co19) x4_1 (wrap64 ((-1) - ((rd_T24 t298 x5_1).f0))) [.int .i64 (wrap64 ((-1) - ((rd_T24 t298 x5_1).f0)))] (fun _ => True) (fun _ => False) rfl rfl ?aP (fun _ hk => hk.elim) ?aF ?aO ?aB ?aS ?aL ?_; (case aP => exact rfl); (case aB => exact (bq1_ HB GE297)); (case aF => exact (fun _ _ => trivial)); (case aO => exact (rr_ HO_4)); (case aS => exact (bZ_ (bq1_ HB GE297))); (case aL => have := LMc18.out; omega); intro v305 w20 ho hb hg hat; rw [← Ny304.out] at ho; have n0_ := Az_.mk (Kd.N_afterv (ok := (fun k_ => k_ ≠ gb297)) (by (with_reducible repeat (first | apply Kd.N_alloc | apply Kd.N_drewN | apply Kd.N_drew)); exact Kd.N_mono HO_3.out (fun _ hk => ⟨hk.2, hk.1⟩)) hg hat); have n1_ := Az_.mk (blk_grown (g := gb297) (o := .cells #[.int .i64 a0_0, .slice A0_1 l0_1.length c0_1] 24 (0, 0)) (kq_ BK297) hg (Kd.R_ne HO_4.out BK297.out (by decide))); have n2_ := Az_.mk (hb); have n3_ := Az_.mk (ho); clear HO_3; clear BK297; clear HB; clear HO_4; have HO_3 := n0_; have BK297 := n1_; have HB := n2_; have HO306 := n3_; clear n0_ n1_ n2_ n3_; clear ho hb hg hat))
           go_roundg k2
           case measure => have := HK1.out; have := HK2.out; omega
           case rel => exact ⟨(y304), (wrap64 (x5_1 + 1)), sq_, H', ⟨by have := HK1.out; have := HK2.out; omega⟩, ⟨by (with_reducible repeat (first | apply Kd.N_alloc | apply Kd.N_drewN | apply Kd.N_drew)); exact Kd.N_mono HO_3.out (fun _ hk => ⟨hk.2, hk.1⟩)⟩, ⟨by (with_reducible repeat (first | apply Kd.R_alloc | apply Kd.R_drewN | apply Kd.R_drew)); exact HO306.out⟩, ⟨kq_ BK297⟩, ⟨bq1_ HB GE297⟩⟩
          ·rw [if_neg c18] at H
           exact absurd H (by simp)
    ·rw [if_neg c7] at H
     exact absurd H (by simp)
   ·rw [if_neg c6] at H
    have c6b0 : decide (x5_1 < (t298.length : Int)) = false := decide_eq_false c6
    clear c6
    obtain rfl := Option.some.inj H
    obtain ⟨Ao21, co21, eo21⟩ := Kd.N_slice HO_3.out
    subst eo21
    go_wp2
    go_ret
    exact ⟨_, by first | rfl | (simp [yad_, yac_] <;> rfl) | (simp [*, yad_, yac_] <;> rfl), by (with_reducible repeat (first | apply Kd.R_alloc | apply Kd.R_drewN | apply Kd.R_drew)); exact HO_4.out, bq1_ HB GE297⟩
end
section
attribute [local go_sem] max2_int min2_int max_two min_two yal_ yak_ max_four min_four
mutual
def soriteslaw06_To.l0 : Nat → Int → Int → List (S30) → Int → List (S24) → Option (Int × (List (S24)))
 | 0, _, _, _, _, _ => none
 | k + 1, x4, x183000, x183001, x185000, x185001 => if x183000 ≥ 0 then (if x4 < (x183001.length : Int) then (if 0 ≤ x4 then ((soriteslaw06_To.f k ((rd_T30 x183001 x4).f0) ((rd_T30 x183001 x4).f1)).bind fun bt186 => (if x185001.length < 4398046511104 then (soriteslaw06_To.l0 k (wrap64 (x4 + 1)) x183000 x183001 x185000 (x185001 ++ [(⟨bt186.1, bt186.2⟩ : S24)])) else (none))) else (none)) else (some (x185000, x185001))) else (some (x185000, x185001))
def soriteslaw06_To.f : Nat → Int → List (S30) → Option (Int × (List (S24)))
 | 0, _, _ => none
 | k + 1, a0_0, l0_1 => soriteslaw06_To.l0 k 0 a0_0 l0_1 a0_0 ([] : List (S24))
end
def soriteslaw06_To.T5 : Bool × List (List Nat × List Nat) := (true, [([], []), ([0], [0]), ([], []), ([2], [2]), ([], []), ([3, 4], [3, 4]), ([5], [5]), ([6], [6]), ([7], [7]), ([1, 8, 7], [1, 8]), ([0, 1, 2, 3, 4, 5, 6, 7, 8, 9], []), ([10, 9, 9, 0, 1, 2, 3, 4, 5, 6, 7, 8, 9], [9, 10])])
def soriteslaw06_To.B5 : List Nat := [0, 1, 0, 4, 0, 28, 60, 124, 252, 511, 1023, 2047]
theorem soriteslaw06_To.tab5 : rtab .any (opsOf Try.f29 5) = soriteslaw06_To.T5 := by kernel_rfl
theorem soriteslaw06_To.bits5 : waitsOk soriteslaw06_To.T5.2 soriteslaw06_To.B5 = true := by kernel_rfl
set_option maxHeartbeats 8000000 in
set_option maxRecDepth 100000 in
theorem soriteslaw06_To.calls (k : Nat) : ∀ (a0_0 : Int) (A0_1 : Option Addr) (c0_1 : Nat) (l0_1 : List (S30)) (r1 : Int) (r2 : List (S24)) (w : World) (hr0_1 : Kd.C k30 w A0_1 l0_1.length l0_1) (hc0_1 : l0_1.length ≤ c0_1) (h : soriteslaw06_To.f k a0_0 l0_1 = some (r1, r2)),
  Calls Try.prog 29 #[.agg #[.int .i64 a0_0, .slice A0_1 l0_1.length c0_1]] w fun e w' => ∃ v1_ : Value, e = .returned (.agg #[.int .i64 r1, v1_]) ∧ Kd.R k24 24 w' w.heap.size (fun _ => True) v1_ r2 ∧ Below w.heap.size w w' := by
 induction k using Nat.strongRecOn with
 | _ k ih =>
 intro a0_0 A0_1 c0_1 l0_1 r1 r2 w hr0_1 hc0_1 h
 cases k with
 | zero => exact absurd h (by simp [soriteslaw06_To.f])
 | succ k =>
 simp only [soriteslaw06_To.f] at h
 have hu30 := Try.underlying30
 have hu24 := Try.underlying24
 have HR0_1 := Az_.mk hr0_1
 have HC0_1 := Az_.mk hc0_1
 clear hr0_1 hc0_1
 have HB := Az_.mk (Below.refl w.heap.size w)
 have H : (soriteslaw06_To.l0 k 0 a0_0 l0_1 a0_0 ([] : List (S24))) = some (r1, r2) := h
 clear h
 have H' := Az_.mk H
 clear H
 go_enter Try.func29, Try.ntmps29
 go_wp2_with (first | ((with_reducible refine yag_ (N := 1) rfl ?_); (try (refine gate_guard (by rfl) ?_; dsimp only)); refine yah_ ?hg (N := 1) ?hd (cs := #[.int .i64 a0_0, .slice A0_1 l0_1.length c0_1]) (t := 30) ?hr ?_; (case hd => rfl); (case hg => rfl); (case hr => exact rq_); intro gb182 hg w2 hbox hb; have BK182 := Az_.mk (hbox); have GW182 := Az_.mk ((by rw [hg]; exact (bZ_ (bq_ HB)) : w.heap.size ≤ gb182)); have GE182 := Az_.mk ((by rw [hg]; exact (bZ_ (bq_ HB)) : w.heap.size ≤ gb182)); replace HB := Az_.mk (bT_ (bq_ HB) hb); clear hb hbox hg) | ((with_reducible refine yag_ (N := 2) rfl ?_); (try (refine gate_guard (by rfl) ?_; dsimp only)); refine yah_ ?hg (N := 2) ?hd (cs := #[.int .i64 0, .slice none 0 0]) (t := 24) ?hr ?_; (case hd => rfl); (case hg => rfl); (case hr => exact rq_); intro gb183 hg w3 hbox hb; have BK183 := Az_.mk (hbox); have GW183 := Az_.mk ((by rw [hg]; exact (bZ_ (bq1_ HB GE182)) : w.heap.size ≤ gb183)); have GE183 := Az_.mk ((by rw [hg]; exact (bZ_ (bq1_ HB GE182)) : w.heap.size ≤ gb183)); replace HB := Az_.mk (bT_ (bq1_ HB GE182) hb); have NB182_183 := Az_.mk ((by rw [hg]; exact Nat.ne_of_lt (blk_lt (g := gb182) (o := .cells #[.int .i64 a0_0, .slice A0_1 l0_1.length c0_1] 30 (0, 0)) (kq_ BK182)) : gb182 ≠ gb183)); have NB183_182 := Az_.mk ((by rw [hg]; exact Nat.ne_of_gt (blk_lt (g := gb182) (o := .cells #[.int .i64 a0_0, .slice A0_1 l0_1.length c0_1] 30 (0, 0)) (kq_ BK182)) : gb183 ≠ gb182)); replace BK182 := kb_ BK182 hb; clear hb hbox hg; have hnb4 := NB182_183.out; have hnc4 := NB183_182.out; obtain ⟨hcz5_0, hcz5_1, hfz5_0, hfz5_1⟩ := cz2_ BK182) | ((with_reducible refine yag_ (N := 3) rfl ?_); (try (refine gate_guard (by rfl) ?_; dsimp only)); refine yah_ ?hg (N := 3) ?hd (cs := #[.int .i64 0, .slice none 0 0]) (t := 24) ?hr ?_; (case hd => rfl); (case hg => rfl); (case hr => exact rq_); intro gb184 hg w6 hbox hb; have BK184 := Az_.mk (hbox); have GW184 := Az_.mk ((by rw [hg]; exact (bZ_ (bq2_ HB GE182 GE183)) : w.heap.size ≤ gb184)); have GE184 := Az_.mk ((by rw [hg]; exact (bZ_ (bq2_ HB GE182 GE183)) : w.heap.size ≤ gb184)); replace HB := Az_.mk (bT_ (bq2_ HB GE182 GE183) hb); have NB182_184 := Az_.mk ((by rw [hg]; exact Nat.ne_of_lt (blk_lt (g := gb182) (o := .cells #[.int .i64 a0_0, .slice A0_1 l0_1.length c0_1] 30 (0, 0)) (kq_ BK182)) : gb182 ≠ gb184)); have NB184_182 := Az_.mk ((by rw [hg]; exact Nat.ne_of_gt (blk_lt (g := gb182) (o := .cells #[.int .i64 a0_0, .slice A0_1 l0_1.length c0_1] 30 (0, 0)) (kq_ BK182)) : gb184 ≠ gb182)); replace BK182 := kb_ BK182 hb; have NB183_184 := Az_.mk ((by rw [hg]; exact Nat.ne_of_lt (blk_lt (g := gb183) (o := .cells #[.int .i64 0, .slice none 0 0] 24 (0, 0)) (kq_ BK183)) : gb183 ≠ gb184)); have NB184_183 := Az_.mk ((by rw [hg]; exact Nat.ne_of_gt (blk_lt (g := gb183) (o := .cells #[.int .i64 0, .slice none 0 0] 24 (0, 0)) (kq_ BK183)) : gb184 ≠ gb183)); replace BK183 := kb_ BK183 hb; clear hb hbox hg; have hnb7 := NB184_182.out; have hnc7 := NB182_184.out; have hnb8 := NB184_183.out; have hnc8 := NB183_184.out; obtain ⟨hcz9_0, hcz9_1, hfz9_0, hfz9_1⟩ := cz2_ BK184))
 go_loopg [4] k (fun kq v4 w' => ∃ (x4_1 : Int) (x185001_1 : List (S24)) (u185001 : Value), v4 = .int .i64 x4_1 ∧ Az_ (soriteslaw06_To.l0 kq x4_1 a0_0 l0_1 a0_0 x185001_1 = some (r1, r2)) ∧ Az_ (kq ≤ k) ∧ Az_ (Kd.R k24 24 w' w.heap.size (fun k_ => k_ ≠ gb183 ∧ k_ ≠ gb184) u185001 x185001_1) ∧ Az_ (w'.heap[gb182]? = some (.cells #[.int .i64 a0_0, (.slice A0_1 l0_1.length c0_1)] 30 (0, 0))) ∧ Az_ (w'.heap[gb183]? = some (.cells #[.int .i64 0, (.slice none 0 0)] 24 (0, 0))) ∧ Az_ (w'.heap[gb184]? = some (.cells #[.int .i64 a0_0, u185001] 24 (0, 0))) ∧ Az_ (Below w.heap.size w w'))
 case atStart => exact ⟨(0), (([] : List (S24))), (.slice none 0 0), sq_, H', ⟨Nat.le_refl _⟩, ⟨by first | exact Kd.R_nil _ _ _ _ _ | exact Kd.N_nil _ _ _ _ _ | exact Kd.V_nil _ _ _ _ _ | exact Kd.Q_nil _ _ _ _ _ | exact Kd.S_nil _ _ _ _ _⟩, ⟨by (with_reducible repeat (first | refine kN_ ?_ _ | refine kD_ ?_ | refine kA_ ?_ _)); refine blk_far ?_ NB182_184.out _; (with_reducible repeat (first | refine kN_ ?_ _ | refine kD_ ?_ | refine kA_ ?_ _)); refine blk_far ?_ NB182_184.out _; (with_reducible repeat (first | refine kN_ ?_ _ | refine kD_ ?_ | refine kA_ ?_ _)); exact BK182.out⟩, ⟨by (with_reducible repeat (first | refine kN_ ?_ _ | refine kD_ ?_ | refine kA_ ?_ _)); refine blk_far ?_ NB183_184.out _; (with_reducible repeat (first | refine kN_ ?_ _ | refine kD_ ?_ | refine kA_ ?_ _)); refine blk_far ?_ NB183_184.out _; (with_reducible repeat (first | refine kN_ ?_ _ | refine kD_ ?_ | refine kA_ ?_ _)); exact BK183.out⟩, ⟨by (with_reducible repeat (first | refine kN_ ?_ _ | refine kD_ ?_ | refine kA_ ?_ _)); refine blk_put (cs := #[.int .i64 a0_0, .slice none 0 0]) ?_ 1 _ rfl; (with_reducible repeat (first | refine kN_ ?_ _ | refine kD_ ?_ | refine kA_ ?_ _)); refine blk_put (cs := #[.int .i64 0, .slice none 0 0]) ?_ 0 _ rfl; (with_reducible repeat (first | refine kN_ ?_ _ | refine kD_ ?_ | refine kA_ ?_ _)); exact BK184.out⟩, ⟨by repeat (first | (with_reducible first | exact HB.out | apply bA_ | apply bN_ | apply bD_ | refine bS_ ?_ GE182.out | refine bS_ ?_ GE183.out | refine bS_ ?_ GE184.out) | exact HB.out)⟩⟩
 case round =>
  clear H'
  try clear c2
  try clear p2
  try clear c4
  try clear c7
  try clear c8
  try clear hcz5_0
  try clear hcz5_1
  try clear hcz9_0
  try clear hcz9_1
  try clear hfz5_0
  try clear hfz5_1
  try clear hfz9_0
  try clear hfz9_1
  obtain ⟨x4_1, x185001_1, u185001, rfl, HA, HK1, HO_185001, BK182, BK183, BK184, HB⟩ := hrel
  cases gk with
  | zero => exact absurd HA.out (by simp [soriteslaw06_To.l0])
  | succ k1 =>
   have H := HA.out
   clear HA
   simp only [soriteslaw06_To.l0] at H
   by_cases c10 : a0_0 ≥ 0
   ·rw [if_pos c10] at H
    have c10b0 : decide (0 ≤ a0_0) = true := decide_eq_true c10
    clear c10
    by_cases c11 : x4_1 < (l0_1.length : Int)
    ·rw [if_pos c11] at H
     have c11b0 : decide (x4_1 < (l0_1.length : Int)) = true := decide_eq_true c11
     clear c11
     by_cases c12 : 0 ≤ x4_1
     ·rw [if_pos c12] at H
      have c12b0 : decide (0 ≤ x4_1) = true := decide_eq_true c12
      clear c12
      replace H := Option.bind_eq_some_iff.mp H
      obtain ⟨⟨t186, t187⟩, A130, H⟩ := H
      replace H : (if x185001_1.length < 4398046511104 then (soriteslaw06_To.l0 k1 (wrap64 (x4_1 + 1)) a0_0 l0_1 a0_0 (x185001_1 ++ [(⟨t186, t187⟩ : S24)])) else (none)) = some (r1, r2) := H
      have A13 := Az_.mk A130
      clear A130
      by_cases c14 : x185001_1.length < 4398046511104
      ·rw [if_pos c14] at H
       have LMc14 := Az_.mk c14
       clear c14
       obtain ⟨y190, hy190⟩ : ∃ y_ : List (S24), y_ = (x185001_1 ++ [(⟨t186, t187⟩ : S24)]) := ⟨_, rfl⟩
       replace H : (soriteslaw06_To.l0 k1 (wrap64 (x4_1 + 1)) a0_0 l0_1 a0_0 y190) = some (r1, r2) := by first | (rw [hy190]; with_reducible exact H) | (have H2_ := (Option.bind_some _ _).symm.trans H; rw [hy190]; with_reducible exact H2_) | (have H2_ := (Option.bind_some _ _).symm.trans H; with_reducible exact H2_) | with_reducible exact H | (rw [hy190]; exact H) | exact H
       have Ny190 := Az_.mk hy190
       clear hy190
       have H' := Az_.mk H
       clear H
       have hnb15 := NB182_183.out
       have hnc15 := NB183_182.out
       have hnb16 := NB182_184.out
       have hnc16 := NB184_182.out
       obtain ⟨hcz17_0, hcz17_1, hfz17_0, hfz17_1⟩ := cz2_ BK182
       try go_wp2
       replace HO_185001 := Az_.mk (Kd.R_drew HO_185001.out)
       replace BK182 := Az_.mk (kD_ BK182.out)
       replace BK183 := Az_.mk (kD_ BK183.out)
       replace BK184 := Az_.mk (kD_ BK184.out)
       replace HB := Az_.mk (bD_ HB.out)
       have p185 : 0 ≤ (x4_1 : Int) := of_decide_eq_true (by first | (with_reducible assumption) | assumption)
       have q185 : x4_1 < (l0_1.length : Int) := of_decide_eq_true (by first | (with_reducible assumption) | assumption)
       obtain ⟨ad185, A185_1, c185_1, e185, hx185_0, hx185_1, hl185_1, hi185_1⟩ := at_T30 HR0_1.out x4_1 p185 q185
       have hw185_1 := hx185_1
       have hw185_0 := hx185_0
       cases e185
       replace hx185_0 := (HB.out.cell (World.block_lt_of_cell? w _ hx185_0)).trans hx185_0
       replace hx185_1 := (HB.out.cell (World.block_lt_of_cell? w _ hx185_1)).trans hx185_1
       have HR185_1 := Az_.mk hi185_1
       have HC185_1 := Az_.mk hl185_1
       clear hi185_1 hl185_1
       replace p185 := eq_true p185
       replace q185 := eq_true q185
       refine start_ (n := 12) (S := fun w' => w'.cell? ⟨gb184, 0, none⟩ = some (.int .i64 a0_0) ∧ w'.cell? ⟨gb184, 1, none⟩ = some (u185001) ∧ w'.cell? ⟨gb182, 0, none⟩ = some (.int .i64 a0_0) ∧ w'.cell? ⟨gb182, 1, none⟩ = some (.slice (some ad185) l0_1.length c0_1) ∧ w'.cell? (ad185.add ((x4_1).toNat * 2)) = some (.int .i64 ((rd_T30 l0_1 x4_1).f0)) ∧ w'.cell? ⟨(ad185.add ((x4_1).toNat * 2)).block, (ad185.add ((x4_1).toNat * 2)).off + 1, none⟩ = some (.slice A185_1 ((rd_T30 l0_1 x4_1).f1).length c185_1)) (ds := [11]) #[false, false, false, false, false, false, false, false, false, false, false, false] (by kernel_rfl) rfl rfl ⟨(yaa_ BK184.out 0).trans rfl, (yaa_ BK184.out 1).trans rfl, (yaa_ BK182.out 0).trans rfl, (yaa_ BK182.out 1).trans rfl, ((HB.out.cell (World.block_lt_of_cell? w _ hw185_0)).trans hw185_0), ((HB.out.cell (World.block_lt_of_cell? w _ hw185_1)).trans hw185_1)⟩ (fun hHeld => ?_); refine with_tabW soriteslaw06_To.tab5 soriteslaw06_To.bits5 (fun HT_ HW_ => ?_)
       generalize wr.drew = w18 at HO_185001 BK182 BK183 BK184 HB HR185_1 hx185_0 hx185_1 hHeld ⊢
       refine pa_ 0 20 HT_ ?_
       refine pa_ 2 22 HT_ ?_
       refine pa_ 4 24 HT_ ?_
       refine ta6_ 1 21 HT_ HW_ hHeld ?_
       refine ta6_ 3 23 HT_ HW_ hHeld ?_
       refine pa_ 5 25 HT_ ?_
       refine ta6_ 6 26 HT_ HW_ hHeld ?_
       refine one_ (i := 7) (N := some 27) #[true, true, true, true, true, true, true, true, false, false, false, false] rfl rfl (one_of HT_.out (by kernel_rfl)) (by decide) (fun K hK => ?_)
       refine goes_ Try.func29 (by kernel_rfl) rfl #[.agg #[.int .i64 ((rd_T30 l0_1 x4_1).f0), .slice A185_1 ((rd_T30 l0_1 x4_1).f1).length c185_1]] (by rfl) rfl rfl mq_ ?_
       with_reducible refine (ih k1 (by have := HK1.out; omega) ((rd_T30 l0_1 x4_1).f0) _ _ ((rd_T30 l0_1 x4_1).f1) t186 t187 _ ?side1 ?side2 A13.out).mono ?_
       (case side1 => exact cq_ (Kd.C_below HR185_1.out HB.out))
       (case side2 => exact HC185_1.out)
       rintro e w19 ⟨v188, rfl, ho0, hb⟩
       refine ⟨_, rfl, ?_⟩
       have HO189 := Az_.mk (Kd.R_lower (Kd.R_newB (Kd.R_newB (Kd.R_new' ho0 (Kd.R_lt (rr_ HO_185001))) (g := gb183) (o := .cells #[.int .i64 0, .slice none 0 0] 24 (0, 0)) (kq_ BK183)) (g := gb184) (o := .cells #[.int .i64 a0_0, u185001] 24 (0, 0)) (kq_ BK184)) (bZ_ (by repeat (first | (with_reducible first | exact HB.out | apply bA_ | apply bN_ | apply bD_ | refine bS_ ?_ GE182.out | refine bS_ ?_ GE183.out | refine bS_ ?_ GE184.out) | exact HB.out))))
       replace HO_185001 := Az_.mk (Kd.R_elder' (rr_ HO_185001) (Kd.R_base ho0) hb)
       replace BK182 := kb_ BK182 hb
       replace BK183 := kb_ BK183 hb
       replace BK184 := kb_ BK184 hb
       replace HB := Az_.mk (bT_ (by repeat (first | (with_reducible first | exact HB.out | apply bA_ | apply bN_ | apply bD_ | refine bS_ ?_ GE182.out | refine bS_ ?_ GE183.out | refine bS_ ?_ GE184.out) | exact HB.out)) hb)
       (try clear hb)
       (try clear hb2)
       (try clear hk)
       (try clear hi)
       (try clear ho0)
       obtain ⟨Ao21, co21, eo21⟩ := Kd.R_slice HO189.out
       (first | subst eo21 | (injection eo21 with f1_ f2_ f3_; have f4_ := f1_.symm; have f5_ := f3_.symm; clear f1_ f2_ f3_; subst f4_; subst f5_))
       refine hK.out _ _ ⟨(yaa_ BK184.out 0).trans rfl, (yaa_ BK184.out 1).trans rfl, (yaa_ BK182.out 0).trans rfl, (yaa_ BK182.out 1).trans rfl, ((HB.out.cell (World.block_lt_of_cell? w _ hw185_0)).trans hw185_0), ((HB.out.cell (World.block_lt_of_cell? w _ hw185_1)).trans hw185_1)⟩ (fun hHeld => ?_)
       clear hK K
       refine norm_ (a' := ?_) ?_ ?_
       rotate_left
       ·show Act.put _ (some 27) _ = _
        simp only [Act.put, sA_, sZ_, sS_, i64_w, i32_w]
        rfl
       refine one_ (i := 8) (N := some 28) #[true, true, true, true, true, true, true, true, true, false, false, false] rfl rfl (one_of HT_.out (by kernel_rfl)) (by decide) (fun K hK => ?_)
       refine value_ (w1 := ?_) (v := ?_) (by rfl) rfl ?_ ?_
       rotate_left 2
       ·go_simp
        constructor
        ·rfl
        ·rfl
       refine hK.out _ _ ⟨(yaa_ (kA_ BK184.out _) 0).trans rfl, (yaa_ (kA_ BK184.out _) 1).trans rfl, (yaa_ (kA_ BK182.out _) 0).trans rfl, (yaa_ (kA_ BK182.out _) 1).trans rfl, (World.cell?_alloc_lt _ _ _ (World.block_lt_of_cell? _ _ (((HB.out.cell (World.block_lt_of_cell? w _ hw185_0)).trans hw185_0)))).trans (((HB.out.cell (World.block_lt_of_cell? w _ hw185_0)).trans hw185_0)), (World.cell?_alloc_lt _ _ _ (World.block_lt_of_cell? _ _ (((HB.out.cell (World.block_lt_of_cell? w _ hw185_1)).trans hw185_1)))).trans (((HB.out.cell (World.block_lt_of_cell? w _ hw185_1)).trans hw185_1))⟩ (fun hHeld => ?_)
       clear hK K
       refine norm_ (a' := ?_) ?_ ?_
       rotate_left
       ·show Act.put _ (some 28) _ = _
        simp only [Act.put, sA_, sZ_, sS_, i64_w, i32_w]
        rfl
       refine one_ (i := 9) (N := some 29) #[true, true, true, true, true, true, true, true, true, true, false, false] rfl rfl (one_of HT_.out (by kernel_rfl)) (by decide) (fun K hK => ?_)
       refine Kd.R_append_step k24 (w0 := w) w.heap.size (by rfl) (.tmp 21) (.tmp 28) 22 24 (.agg #[(.int .i64 0), (.slice none 0 0)]) 32 rfl Try.underlying22 info24 rfl (by decide) (by omega) u185001 x185001_1 (⟨t186, t187⟩ : S24) [.int .i64 t186, .slice Ao21 t187.length co21] (fun k_ => k_ ≠ gb183 ∧ k_ ≠ gb184) (fun k_ => ((fun k_ => k_ ≠ gb183 ∧ k_ ≠ gb184)) k_ ∧ some k_ ≠ (u185001 : Value).ownBlock) rfl rfl ?aP (fun _ hk => hk) ?aF ?aO ?aB ?aS ?aL ?_
       (case aP => exact k24_mkM _ _ _ (⟨t186, t187⟩ : S24) (Kd.R_mono (HO189.out) (fun k_ hk => ⟨⟨hk.1.2, hk.2⟩, hk.1.1.2⟩)))
       (case aB => exact (by repeat (first | (with_reducible first | exact HB.out | apply bA_ | apply bN_ | apply bD_ | refine bS_ ?_ GE182.out | refine bS_ ?_ GE183.out | refine bS_ ?_ GE184.out) | exact HB.out)))
       (case aF => exact (fun k_ hk => ⟨Kd.freshB (g := gb183) (o := .cells #[.int .i64 0, .slice none 0 0] 24 (0, 0)) (kq_ BK183) k_ hk, Kd.freshB (g := gb184) (o := .cells #[.int .i64 a0_0, u185001] 24 (0, 0)) (kq_ BK184) k_ hk⟩))
       (case aO => exact (by (with_reducible repeat (first | apply Kd.R_alloc | apply Kd.R_drewN | apply Kd.R_drew)); exact Kd.R_mono HO_185001.out (fun _ hk => ⟨hk.1.1, hk.1.2⟩)))
       (case aS => exact (bZ_ (by repeat (first | (with_reducible first | exact HB.out | apply bA_ | apply bN_ | apply bD_ | refine bS_ ?_ GE182.out | refine bS_ ?_ GE183.out | refine bS_ ?_ GE184.out) | exact HB.out))))
       (case aL => have := LMc14.out; omega)
       intro v191 w20 ho hb hg hat
       rw [← Ny190.out] at ho
       have n0_ := Az_.mk (blk_grown (g := gb182) (o := .cells #[.int .i64 a0_0, .slice (some ad185) l0_1.length c0_1] 30 (0, 0)) (kq_ BK182) hg (Kd.R_ne HO_185001.out BK182.out (by decide)))
       have n1_ := Az_.mk (blk_grown (g := gb183) (o := .cells #[.int .i64 0, .slice none 0 0] 24 (0, 0)) (kq_ BK183) hg (Kd.R_away HO_185001.out (fun _ hk => hk.1.1)))
       have n2_ := Az_.mk (blk_grown (g := gb184) (o := .cells #[.int .i64 a0_0, u185001] 24 (0, 0)) (kq_ BK184) hg (Kd.R_away HO_185001.out (fun _ hk => hk.1.2)))
       have n3_ := Az_.mk (hb)
       have n4_ := Az_.mk (ho)
       clear BK182
       clear BK183
       clear BK184
       clear HB
       clear HO_185001
       clear HO189
       have BK182 := n0_
       have BK183 := n1_
       have BK184 := n2_
       have HB := n3_
       have HO192 := n4_
       clear n0_ n1_ n2_ n3_ n4_
       clear ho hb hg hat
       obtain ⟨Ao22, co22, eo22⟩ := Kd.R_slice HO192.out
       (first | subst eo22 | (injection eo22 with f1_ f2_ f3_; have f4_ := f1_.symm; have f5_ := f3_.symm; clear f1_ f2_ f3_; subst f4_; subst f5_))
       refine hK.out _ _ ⟨(yaa_ BK184.out 0).trans rfl, (yaa_ BK184.out 1).trans rfl, (yaa_ BK182.out 0).trans rfl, (yaa_ BK182.out 1).trans rfl, ((HB.out.cell (World.block_lt_of_cell? w _ hw185_0)).trans hw185_0), ((HB.out.cell (World.block_lt_of_cell? w _ hw185_1)).trans hw185_1)⟩ (fun hHeld => ?_)
       clear hK K
       refine norm_ (a' := ?_) ?_ ?_
       rotate_left
       ·show Act.put _ (some 29) _ = _
        simp only [Act.put, sA_, sZ_, sS_, i64_w, i32_w]
        rfl
       refine pa_ 10 30 HT_ ?_
       refine last_ (i := 11) (N := none) #[true, true, true, true, true, true, true, true, true, true, true, true] rfl rfl (one_of HT_.out (by kernel_rfl)) (by decide) (fun K hK => ?_)
       have hs23 : w20.cell? ⟨gb184, 1, none⟩ = some (u185001) := (yaa_ BK184.out 1).trans rfl
       have hfs23 := yai_ BK184.out 1
       have hns23_0 := NB182_184.out
       have hns23_1 := NB183_184.out
       have hms23_0 := NB184_182.out
       have hms23_1 := NB184_183.out
       refine skip_ (w1 := ?_) (by rfl) rfl ?_ ?_
       rotate_left
       ·go_simp
        rfl
       refine hK.out _ _ ?_
       clear hK K
       refine done_ (done_of HT_.out (by kernel_rfl)) ?_
       try go_wp2
       go_roundg k1
       case measure => have := HK1.out; omega
       case rel => exact ⟨(wrap64 (x4_1 + 1)), (y190), (.slice Ao22 y190.length co22), sq_, H', ⟨by have := HK1.out; omega⟩, ⟨by (with_reducible repeat (first | apply Kd.R_alloc | apply Kd.R_drewN | apply Kd.R_drew)); exact Kd.R_mono (Kd.R_far (p := ⟨gb184, 1, none⟩) (Kd.R_mono HO192.out (fun k_ hk => (⟨hk, hk.2⟩ : _ ∧ k_ ≠ gb184))) (fun _ hk => hk.2) (.slice Ao22 y190.length co22)) (fun _ hk => ⟨hk.1.1, hk.1.2⟩)⟩, ⟨by (with_reducible repeat (first | refine kN_ ?_ _ | refine kD_ ?_ | refine kA_ ?_ _)); refine blk_far ?_ NB182_184.out _; (with_reducible repeat (first | refine kN_ ?_ _ | refine kD_ ?_ | refine kA_ ?_ _)); exact BK182.out⟩, ⟨by (with_reducible repeat (first | refine kN_ ?_ _ | refine kD_ ?_ | refine kA_ ?_ _)); refine blk_far ?_ NB183_184.out _; (with_reducible repeat (first | refine kN_ ?_ _ | refine kD_ ?_ | refine kA_ ?_ _)); exact BK183.out⟩, ⟨by (with_reducible repeat (first | refine kN_ ?_ _ | refine kD_ ?_ | refine kA_ ?_ _)); refine blk_put (cs := #[.int .i64 a0_0, u185001]) ?_ 1 _ rfl; (with_reducible repeat (first | refine kN_ ?_ _ | refine kD_ ?_ | refine kA_ ?_ _)); exact BK184.out⟩, ⟨by repeat (first | (with_reducible first | exact HB.out | apply bA_ | apply bN_ | apply bD_ | refine bS_ ?_ GE182.out | refine bS_ ?_ GE183.out | refine bS_ ?_ GE184.out) | exact HB.out)⟩⟩
      ·rw [if_neg c14] at H
       exact absurd H (by simp)
     ·rw [if_neg c12] at H
      exact absurd H (by simp)
    ·rw [if_neg c11] at H
     have c11b0 : decide (x4_1 < (l0_1.length : Int)) = false := decide_eq_false c11
     clear c11
     simp only [Option.some.injEq, Prod.mk.injEq] at H
     obtain ⟨rfl, rfl⟩ := H
     have hnb24 := NB182_183.out
     have hnc24 := NB183_182.out
     have hnb25 := NB182_184.out
     have hnc25 := NB184_182.out
     obtain ⟨hcz26_0, hcz26_1, hfz26_0, hfz26_1⟩ := cz2_ BK182
     have hnb27 := NB184_183.out
     have hnc27 := NB183_184.out
     obtain ⟨hcz28_0, hcz28_1, hfz28_0, hfz28_1⟩ := cz2_ BK184
     obtain ⟨hcz29_0, hcz29_1, hfz29_0, hfz29_1⟩ := cz2_ BK183
     obtain ⟨Ao30, co30, eo30⟩ := Kd.R_slice HO_185001.out
     subst eo30
     go_wp2
     refine bodyPost_ret (results_cell_row rfl _ _ gb183 24 #[.int .i64 a0_0, .slice Ao30 x185001_1.length co30] (0, 0) _ rfl (by (with_reducible repeat (first | refine kN_ ?_ _ | refine kD_ ?_ | refine kA_ ?_ _)); refine blk_put (cs := #[.int .i64 a0_0, .slice none 0 0]) ?_ 1 _ rfl; (with_reducible repeat (first | refine kN_ ?_ _ | refine kD_ ?_ | refine kA_ ?_ _)); refine blk_put (cs := #[.int .i64 0, .slice none 0 0]) ?_ 0 _ rfl; (with_reducible repeat (first | refine kN_ ?_ _ | refine kD_ ?_ | refine kA_ ?_ _)); exact BK183.out) Try.underlying24 rfl (by kernel_rfl)) rfl ?_
     exact ⟨_, by first | rfl | (simp [yad_, yac_] <;> rfl) | (simp [*, yad_, yac_] <;> rfl), by (with_reducible repeat (first | apply Kd.R_alloc | apply Kd.R_drewN | apply Kd.R_drew)); exact Kd.R_mono (Kd.R_far (p := ⟨gb183, 1, none⟩) (Kd.R_far (p := ⟨gb183, 0, none⟩) (Kd.R_mono HO_185001.out (fun k_ hk => (⟨hk, hk.1⟩ : _ ∧ k_ ≠ gb183))) (fun _ hk => hk.2) (.int .i64 a0_0)) (fun _ hk => hk.2) (.slice Ao30 x185001_1.length co30)) (fun _ hk => trivial), by repeat (first | (with_reducible first | exact HB.out | apply bA_ | apply bN_ | apply bD_ | refine bS_ ?_ GE182.out | refine bS_ ?_ GE183.out | refine bS_ ?_ GE184.out) | exact HB.out)⟩
   ·rw [if_neg c10] at H
    have c10b0 : decide (0 ≤ a0_0) = false := decide_eq_false c10
    clear c10
    simp only [Option.some.injEq, Prod.mk.injEq] at H
    obtain ⟨rfl, rfl⟩ := H
    have hnb31 := NB182_183.out
    have hnc31 := NB183_182.out
    have hnb32 := NB182_184.out
    have hnc32 := NB184_182.out
    obtain ⟨hcz33_0, hcz33_1, hfz33_0, hfz33_1⟩ := cz2_ BK182
    have hnb34 := NB184_183.out
    have hnc34 := NB183_184.out
    obtain ⟨hcz35_0, hcz35_1, hfz35_0, hfz35_1⟩ := cz2_ BK184
    obtain ⟨hcz36_0, hcz36_1, hfz36_0, hfz36_1⟩ := cz2_ BK183
    obtain ⟨Ao37, co37, eo37⟩ := Kd.R_slice HO_185001.out
    subst eo37
    go_wp2
    refine bodyPost_ret (results_cell_row rfl _ _ gb183 24 #[.int .i64 a0_0, .slice Ao37 x185001_1.length co37] (0, 0) _ rfl (by (with_reducible repeat (first | refine kN_ ?_ _ | refine kD_ ?_ | refine kA_ ?_ _)); refine blk_put (cs := #[.int .i64 a0_0, .slice none 0 0]) ?_ 1 _ rfl; (with_reducible repeat (first | refine kN_ ?_ _ | refine kD_ ?_ | refine kA_ ?_ _)); refine blk_put (cs := #[.int .i64 0, .slice none 0 0]) ?_ 0 _ rfl; (with_reducible repeat (first | refine kN_ ?_ _ | refine kD_ ?_ | refine kA_ ?_ _)); exact BK183.out) Try.underlying24 rfl (by kernel_rfl)) rfl ?_
    exact ⟨_, by first | rfl | (simp [yad_, yac_] <;> rfl) | (simp [*, yad_, yac_] <;> rfl), by (with_reducible repeat (first | apply Kd.R_alloc | apply Kd.R_drewN | apply Kd.R_drew)); exact Kd.R_mono (Kd.R_far (p := ⟨gb183, 1, none⟩) (Kd.R_far (p := ⟨gb183, 0, none⟩) (Kd.R_mono HO_185001.out (fun k_ hk => (⟨hk, hk.1⟩ : _ ∧ k_ ≠ gb183))) (fun _ hk => hk.2) (.int .i64 a0_0)) (fun _ hk => hk.2) (.slice Ao37 x185001_1.length co37)) (fun _ hk => trivial), by repeat (first | (with_reducible first | exact HB.out | apply bA_ | apply bN_ | apply bD_ | refine bS_ ?_ GE182.out | refine bS_ ?_ GE183.out | refine bS_ ?_ GE184.out) | exact HB.out)⟩
end
section
def fit (t : S30) : Prop := (nodes t).length ≤ 1000000 ∧ SmallN t
theorem nodes_pos (t : S30) : 1 ≤ (nodes t).length := by
 obtain ⟨f, l⟩ := t
 simp [nodes]
theorem nodess_len_le : ∀ l : List S30, l.length ≤ (nodess l).length
 | [] => by simp
 | x :: r => by
  have := nodes_pos x
  have := nodess_len_le r
  simp only [nodess, List.length_append, List.length_cons]
  omega
theorem nodess_one_le {l : List S30} {x : S30} (h : x ∈ l) : (nodes x).length ≤ (nodess l).length := by
 induction l with
 | nil => cases h
 | cons z l ih =>
  rw [nodess, List.length_append]
  rcases List.mem_cons.1 h with rfl | h
  ·omega
  ·have := ih h; omega
theorem fit_sub {f : Int} {l : List S30} (hf : ¬ f < 0) (h : fit ⟨f, l⟩) : l.length ≤ 1000000 ∧ ∀ x ∈ l, fit x := by
 have hn : nodes ⟨f, l⟩ = ⟨f, l⟩ :: nodess l := by simp [nodes, hf]
 have h1 := h.1
 rw [hn, List.length_cons] at h1
 refine ⟨by have := nodess_len_le l; omega, fun x hx => ⟨by have := nodess_one_le hx; omega, fun y hy => h.2 y (by rw [hn]; exact List.mem_cons_of_mem _ (nodess_mem hx hy))⟩⟩
theorem rd24_at (l : List S30) (k : Nat) (h : k < l.length) : rd_T24 l (k : Int) = l[k] := rdC_at l k h
theorem cmpI_ne {a b : Int} (h : a ≠ b) : cmpI a b ≠ 0 := by unfold cmpI; (repeat' split) <;> omega
theorem cmpTs_drop (l m : List S30) (k : Nat) (hl : k < l.length) (hm : k < m.length) : cmpTs (l.drop k) (m.drop k) = if cmpT l[k] m[k] = 0 then cmpTs (l.drop (k + 1)) (m.drop (k + 1)) else cmpT l[k] m[k] := by
 rw [List.drop_eq_getElem_cons hl, List.drop_eq_getElem_cons hm, cmpTs]
theorem wsucc (i n : Nat) (h : i < n) (hn : n ≤ 1000000000) : wrap64 ((i : Int) + 1) = ((i + 1 : Nat) : Int) := by rw [w64 _ (by omega)]; omega
theorem RSame_spec : ∀ a b : S30, fit a → Ev (fun k => soritesref06_Same.f k a.f0 a.f1 b.f0 b.f1) (cmpT a b == 0) := by
 refine S30.ind ?_
 intro f l ih b hfit
 obtain ⟨g, m⟩ := b
 by_cases hfg : f = g
 ·subst hfg
  by_cases hf : f < 0
  ·refine Ev.step (f := fun _ => some true) (fun k => ?_) ?_
   ·rw [soritesref06_Same.f, if_pos rfl, if_pos hf]
   ·have : cmpT ⟨f, l⟩ ⟨f, m⟩ = 0 := by simp [cmpT, hf, cmpI_self]
    rw [this]; exact Ev.now _
  ·obtain ⟨hll, hsub⟩ := fit_sub hf hfit
   by_cases hlm : l.length = m.length
   ·have hc : cmpT ⟨f, l⟩ ⟨f, m⟩ = cmpTs l m := by simp [cmpT, hf, cmpI_self, hlm, orI]
    rw [hc]
    refine Ev.step (f := fun k => soritesref06_Same.l0 k 0 f l f m) (fun k => ?_) ?_
    ·rw [soritesref06_Same.f, if_pos rfl, if_neg hf, if_pos (by simp [hlm])]
    ·have key : ∀ n i, l.length - i = n → i ≤ l.length → Ev (fun k => soritesref06_Same.l0 k (i : Int) f l f m) (cmpTs (l.drop i) (m.drop i) == 0) := by
      intro n
      induction n with
      | zero =>
       intro i hi hle
       refine Ev.step (f := fun _ => some true) (fun k => ?_) ?_
       ·rw [soritesref06_Same.l0, if_neg (by omega)]
       ·rw [List.drop_of_length_le (by omega), List.drop_of_length_le (by omega)]; exact Ev.now _
      | succ n ihn =>
       intro i hi hle
       have hlt : i < l.length := by omega
       have hltm : i < m.length := by omega
       have hmem := List.getElem_mem hlt
       refine Ev.step (f := fun k => (soritesref06_Same.f k l[i].f0 l[i].f1 m[i].f0 m[i].f1).bind fun t => if t = true then soritesref06_Same.l0 k ((i + 1 : Nat) : Int) f l f m else some false) (fun k => ?_) (Ev.bind (ih l[i] hmem m[i] (hsub _ hmem)) ?_)
       ·rw [soritesref06_Same.l0, if_pos (by omega), if_pos (by omega), if_pos (by omega), rd24_at l i hlt, rd24_at m i hltm, wsucc i l.length hlt (by omega)]
       ·rw [cmpTs_drop l m i hlt hltm]
        by_cases h0 : cmpT l[i] m[i] = 0
        ·simp only [h0, beq_self_eq_true, if_true]
         exact ihn (i + 1) (by omega) (by omega)
        ·rw [if_neg h0]
         have : (cmpT l[i] m[i] == 0) = false := by simpa using h0
         simp only [this, Bool.false_eq_true, if_false]
         exact Ev.now _
     have := key l.length 0 rfl (by omega)
     simpa using this
   ·refine Ev.step (f := fun _ => some false) (fun k => ?_) ?_
    ·rw [soritesref06_Same.f, if_pos rfl, if_neg hf, if_neg (by simpa using fun h => hlm (by omega))]
    ·have h1 : cmpI (l.length : Int) m.length ≠ 0 := cmpI_ne (by omega)
     have : (cmpT ⟨f, l⟩ ⟨f, m⟩ == 0) = false := by simp [cmpT, hf, cmpI_self, orI, h1]
     rw [this]; exact Ev.now _
 ·refine Ev.step (f := fun _ => some false) (fun k => ?_) ?_
  ·rw [soritesref06_Same.f, if_neg hfg]
  ·have h1 := cmpI_ne hfg
   have h2 := cmpI_ne (fun e => hfg e.symm)
   have : (cmpT ⟨f, l⟩ ⟨g, m⟩ == 0) = false := by
    simp only [cmpT, beq_eq_false_iff_ne]
    split
    ·split
     ·exact h2
     ·exact h1
    ·unfold orI; rw [if_neg h1]; exact h1
   rw [this]; exact Ev.now _
theorem RFlat_spec : ∀ t : S30, fit t → Ev (fun k => soritesref06_Flat.f k t.f0 t.f1) (nodes t) := by
 refine S30.ind ?_
 intro f l ih hfit
 refine Ev.step (f := fun k => soritesref06_Flat.l0 k [⟨f, l⟩] 0 f l) (fun k => by rw [soritesref06_Flat.f]) ?_
 by_cases hf : f < 0
 ·refine Ev.step (f := fun _ => some [⟨f, l⟩]) (fun k => by rw [soritesref06_Flat.l0, if_neg (by omega)]) ?_
  have : nodes ⟨f, l⟩ = [⟨f, l⟩] := by simp [nodes, hf]
  rw [this]; exact Ev.now _
 ·obtain ⟨hll, hsub⟩ := fit_sub hf hfit
  have hn : nodes ⟨f, l⟩ = ⟨f, l⟩ :: nodess l := by simp [nodes, hf]
  have hlen := hfit.1
  rw [hn, List.length_cons] at hlen
  have key : ∀ n i, l.length - i = n → i ≤ l.length → Ev (fun k => soritesref06_Flat.l0 k (⟨f, l⟩ :: nodess (l.take i)) (i : Int) f l) (nodes ⟨f, l⟩) := by
   intro n
   induction n with
   | zero =>
    intro i hi hle
    refine Ev.step (f := fun _ => some (⟨f, l⟩ :: nodess (l.take i))) (fun k => by rw [soritesref06_Flat.l0, if_pos (by omega), if_neg (by omega)]) ?_
    rw [List.take_of_length_le (by omega), hn]; exact Ev.now _
   | succ n ihn =>
    intro i hi hle
    have hlt : i < l.length := by omega
    have hmem := List.getElem_mem hlt
    have htk := nodess_take l i hlt
    have htl := nodess_take_le l (i + 1)
    rw [htk, List.length_append] at htl
    refine Ev.step (f := fun k => (soritesref06_Flat.f k l[i].f0 l[i].f1).bind fun t => if (⟨f, l⟩ :: nodess (l.take i)).length + t.length < 4398046511104 then soritesref06_Flat.l0 k ((⟨f, l⟩ :: nodess (l.take i)) ++ t) ((i + 1 : Nat) : Int) f l else none) (fun k => ?_) (Ev.bind (ih l[i] hmem (hsub _ hmem)) ?_)
    ·rw [soritesref06_Flat.l0, if_pos (by omega), if_pos (by omega), if_pos (by omega), rd24_at l i hlt, wsucc i l.length hlt (by omega)]
    ·simp only [List.length_cons]
     simp only [if_pos (show (nodess (l.take i)).length + 1 + (nodes l[i]).length < 4398046511104 by omega)]
     have := ihn (i + 1) (by omega) (by omega)
     rw [htk] at this
     simpa using this
  have := key l.length 0 rfl (by omega)
  simpa [nodess] using this
theorem To_spec : ∀ t : S30, fit t → Ev (fun k => soriteslaw06_To.f k t.f0 t.f1) ((cloneT t).f0, (cloneT t).f1) := by
 refine S30.ind ?_
 intro f l ih hfit
 refine Ev.step (f := fun k => soriteslaw06_To.l0 k 0 f l f []) (fun k => by rw [soriteslaw06_To.f]) ?_
 by_cases hf : f < 0
 ·refine Ev.step (f := fun _ => some (f, [])) (fun k => by rw [soriteslaw06_To.l0, if_neg (by omega)]) ?_
  simpa [cloneT, hf] using Ev.now _
 ·obtain ⟨hll, hsub⟩ := fit_sub hf hfit
  have key : ∀ n i, l.length - i = n → i ≤ l.length → Ev (fun k => soriteslaw06_To.l0 k (i : Int) f l f ((l.take i).map cloneT)) (f, l.map cloneT) := by
   intro n
   induction n with
   | zero =>
    intro i hi hle
    refine Ev.step (f := fun _ => some (f, l.map cloneT)) (fun k => by rw [soriteslaw06_To.l0, if_pos (by omega), if_neg (by omega), List.take_of_length_le (by omega)]) (Ev.now _)
   | succ n ihn =>
    intro i hi hle
    have hlt : i < l.length := by omega
    have hmem := List.getElem_mem hlt
    refine Ev.step (f := fun k => (soriteslaw06_To.f k l[i].f0 l[i].f1).bind fun t => if ((l.take i).map cloneT).length < 4398046511104 then soriteslaw06_To.l0 k ((i + 1 : Nat) : Int) f l f ((l.take i).map cloneT ++ [(⟨t.1, t.2⟩ : S24)]) else none) (fun k => ?_) (Ev.bind (ih l[i] hmem (hsub _ hmem)) ?_)
    ·rw [soriteslaw06_To.l0, if_pos (by omega), if_pos (by omega), if_pos (by omega), rdC_at l i hlt, wsucc i l.length hlt (by omega)]
    ·simp only [List.length_map, List.length_take]
     simp only [if_pos (show min i l.length < 4398046511104 by omega)]
     have := ihn (i + 1) (by omega) (by omega)
     rw [List.take_succ_eq_append_getElem hlt, List.map_append] at this
     simp only [S30.eta]
     exact this
  have := key l.length 0 rfl (by omega)
  simpa [cloneT, hf, cloneTs_eq] using this
end
section
attribute [local go_sem] max2_int min2_int max_two min_two yal_ yak_ max_four min_four
def soritesref10_count.l0 : Nat → Int → List (S24) → Int → Int → Option (Int)
 | 0, _, _, _, _ => none
 | k + 1, x1, x5, x6, x7 => if x7 < (x5.length : Int) then (if 0 ≤ x7 then (if ((rd_T24 x5 x7).f0) = (wrap64 ((-1) - x1)) then (soritesref10_count.l0 k x1 x5 (wrap64 (x6 + 1)) (wrap64 (x7 + 1))) else (soritesref10_count.l0 k x1 x5 x6 (wrap64 (x7 + 1)))) else (none)) else (some x6)
def soritesref10_count.f (k : Nat) (a0_0 : Int) (l0_1 : List (S24)) (a1 : Int) : Option (Int) := (soritesref06_Flat.f k a0_0 l0_1).bind fun t308 => (soritesref10_count.l0 k a1 t308 0 0)
set_option maxHeartbeats 8000000 in
set_option maxRecDepth 100000 in
theorem soritesref10_count.calls (k : Nat) (a0_0 : Int) (A0_1 : Option Addr) (c0_1 : Nat) (l0_1 : List (S24)) (a1 : Int) (r : Int) (w : World) (hr0_1 : Kd.C k24 w A0_1 l0_1.length l0_1) (hc0_1 : l0_1.length ≤ c0_1) (h : soritesref10_count.f k a0_0 l0_1 a1 = some r) :
  Calls Try.prog 80 #[.agg #[.int .i64 a0_0, .slice A0_1 l0_1.length c0_1], .int .i64 a1] w fun e w' => e = .returned (.int .i64 r) ∧ Below w.heap.size w w' := by
 have hu24 := Try.underlying24
 have HR0_1 := Az_.mk hr0_1
 have HC0_1 := Az_.mk hc0_1
 clear hr0_1 hc0_1
 have HB := Az_.mk (Below.refl w.heap.size w)
 have H : ((soritesref06_Flat.f k a0_0 l0_1).bind fun t308 => (soritesref10_count.l0 k a1 t308 0 0)) = some r := h
 clear h
 replace H := Option.bind_eq_some_iff.mp H
 obtain ⟨t308, A30, H⟩ := H
 replace H : (soritesref10_count.l0 k a1 t308 0 0) = some r := H
 have A3 := Az_.mk A30
 clear A30
 have H' := Az_.mk H
 clear H
 go_enter Try.func80, Try.ntmps80
 go_wp2_with (first | ((with_reducible refine yag_ (N := 2) rfl ?_); refine yah_ ?hg (N := 2) ?hd (cs := #[.int .i64 a0_0, .slice A0_1 l0_1.length c0_1]) (t := 24) ?hr ?_; (case hd => rfl); (case hg => rfl); (case hr => exact rq_); intro gb307 hg w4 hbox hb; have BK307 := Az_.mk (hbox); have GW307 := Az_.mk ((by rw [hg]; exact (bZ_ (bq_ HB)) : w.heap.size ≤ gb307)); have GE307 := Az_.mk ((by rw [hg]; exact (bZ_ (bq_ HB)) : w.heap.size ≤ gb307)); replace HB := Az_.mk (bT_ (bq_ HB) hb); clear hb hbox hg; obtain ⟨hcz5_0, hcz5_1, hfz5_0, hfz5_1⟩ := cz2_ BK307) | ((with_reducible refine yaf_ (f := 26) rfl ?_); refine goesL_ (some 9) rfl rfl Try.func26 (by kernel_rfl) rfl #[.agg #[.int .i64 a0_0, .slice A0_1 l0_1.length c0_1]] rfl mq_ ?_; (with_reducible refine (soritesref06_Flat.calls k a0_0 (fun k_ => k_ < w.heap.size) _ _ l0_1 t308 _ ?side1 A3.out).mono ?_); (case side1 => exact Kd.V_mk HC0_1.out (Kd.F_below (Kd.C_F k24_heap HR0_1.out) (bq1_ HB GE307))); rintro e w6 ⟨v309, rfl, ho0, hb⟩; refine ⟨_, rfl, ?_⟩; have HO310 := Az_.mk (Kd.N_lower (Kd.N_mono (ok' := fun k_ => k_ ≠ gb307) ho0 (fun k_ hk_ => Or.elim hk_ (fun hs_ => fun e_ => Nat.not_le.2 hs_ (by rw [e_]; exact GW307.out)) (fun hn_ => (Kd.freshB (g := gb307) (o := .cells #[.int .i64 a0_0, .slice A0_1 l0_1.length c0_1] 24 (0, 0)) (kq_ BK307) k_ hn_)))) (bZ_ (bq1_ HB GE307))); replace BK307 := kb_ BK307 hb; replace HB := Az_.mk (bT_ (bq1_ HB GE307) hb); (try clear hb); (try clear hb2); (try clear hk); (try clear hi); (try clear ho0)))
 go_loopg [6, 7] k (fun kq v6 v7 w' => ∃ (x6_1 : Int) (x7_1 : Int), v6 = .int .i64 x6_1 ∧ v7 = .int .i64 x7_1 ∧ Az_ (soritesref10_count.l0 kq a1 t308 x6_1 x7_1 = some r) ∧ Az_ (kq ≤ k) ∧ Az_ (Kd.N k24 24 w' w.heap.size (fun k_ => k_ ≠ gb307) v309 t308) ∧ Az_ (w'.heap[gb307]? = some (.cells #[.int .i64 a0_0, (.slice A0_1 l0_1.length c0_1)] 24 (0, 0))) ∧ Az_ (Below w.heap.size w w'))
 case atStart => exact ⟨(0), (0), sq_, sq_, H', ⟨Nat.le_refl _⟩, ⟨by (with_reducible repeat (first | apply Kd.N_alloc | apply Kd.N_drewN | apply Kd.N_drew)); exact HO310.out⟩, ⟨kq_ BK307⟩, ⟨bq1_ HB GE307⟩⟩
 case round =>
  clear H'
  try clear c2
  try clear p2
  try clear hcz5_0
  try clear hcz5_1
  try clear hfz5_0
  try clear hfz5_1
  obtain ⟨x6_1, x7_1, rfl, rfl, HA, HK1, HO_5, BK307, HB⟩ := hrel
  cases gk with
  | zero => exact absurd HA.out (by simp [soritesref10_count.l0])
  | succ k1 =>
   have H := HA.out
   clear HA
   simp only [soritesref10_count.l0] at H
   by_cases c7 : x7_1 < (t308.length : Int)
   ·rw [if_pos c7] at H
    have c7b0 : decide (x7_1 < (t308.length : Int)) = true := decide_eq_true c7
    clear c7
    by_cases c8 : 0 ≤ x7_1
    ·rw [if_pos c8] at H
     have c8b0 : decide (0 ≤ x7_1) = true := decide_eq_true c8
     clear c8
     by_cases c9 : ((rd_T24 t308 x7_1).f0) = (wrap64 ((-1) - a1))
     ·rw [if_pos c9] at H
      have c9b0 : (((rd_T24 t308 x7_1).f0) == (wrap64 ((-1) - a1))) = true := beq_iff_eq.mpr c9
      have c9b1 : (((rd_T24 t308 x7_1).f0) != (wrap64 ((-1) - a1))) = false := bne_eq_false_iff_eq.mpr c9
      clear c9
      have H' := Az_.mk H
      clear H
      obtain ⟨Ao10, co10, eo10⟩ := Kd.N_slice HO_5.out
      subst eo10
      have p311 : 0 ≤ (x7_1 : Int) := of_decide_eq_true (by first | (with_reducible assumption) | assumption)
      have q311 : x7_1 < (t308.length : Int) := of_decide_eq_true (by first | (with_reducible assumption) | assumption)
      obtain ⟨ad311, A311_1, c311_1, e311, hx311_0, hx311_1, hl311_1, hi311_1⟩ := at_T24 (Kd.N_reads' HO_5.out).2.2 x7_1 p311 q311
      cases e311
      obtain ⟨ce311, hce311, hMe311, hcc311⟩ := Kd.N_get HO_5.out z24 x7_1 p311 (by first | exact q311 | exact of_decide_eq_true (by first | (with_reducible assumption) | assumption) | (have e_ := (Kd.N_reads' HO_5.out).1; omega))
      obtain ⟨ua311_1, uc311_1, rfl, ul311_1, ge311_1⟩ := k24_openF hMe311
      have hv311_1 := hcc311 1 _ rfl
      rw [add_field _ _ 1 (by omega)] at hv311_1
      replace hv311_1 := Option.some.inj (hv311_1.symm.trans hx311_1)
      injection hv311_1 with hva_ hvn_ hvc_
      rw [hva_] at ge311_1
      rw [hvc_] at ul311_1
      have HL311_1 := Az_.mk (show Kd.V k24 24 _ w.heap.size _ _ ((rd_T24 t308 x7_1).f1) from Kd.V_mk ul311_1 ge311_1)
      clear hva_ hvn_ hvc_ ge311_1 ul311_1
      clear hcc311 hce311
      have HR311_1 := Az_.mk hi311_1
      have HC311_1 := Az_.mk hl311_1
      clear hi311_1 hl311_1
      replace p311 := eq_true p311
      replace q311 := eq_true q311
      go_wp2
      go_roundg k1
      case measure => have := HK1.out; omega
      case rel => exact ⟨(wrap64 (x6_1 + 1)), (wrap64 (x7_1 + 1)), sq_, sq_, H', ⟨by have := HK1.out; omega⟩, ⟨by (with_reducible repeat (first | apply Kd.N_alloc | apply Kd.N_drewN | apply Kd.N_drew)); exact HO_5.out⟩, ⟨kq_ BK307⟩, ⟨bq1_ HB GE307⟩⟩
     ·rw [if_neg c9] at H
      have c9b0 : (((rd_T24 t308 x7_1).f0) == (wrap64 ((-1) - a1))) = false := beq_eq_false_iff_ne.mpr c9
      have c9b1 : (((rd_T24 t308 x7_1).f0) != (wrap64 ((-1) - a1))) = true := bne_iff_ne.mpr c9
      have H' := Az_.mk H
      clear H
      obtain ⟨Ao11, co11, eo11⟩ := Kd.N_slice HO_5.out
      subst eo11
      have p311 : 0 ≤ (x7_1 : Int) := of_decide_eq_true (by first | (with_reducible assumption) | assumption)
      have q311 : x7_1 < (t308.length : Int) := of_decide_eq_true (by first | (with_reducible assumption) | assumption)
      obtain ⟨ad311, A311_1, c311_1, e311, hx311_0, hx311_1, hl311_1, hi311_1⟩ := at_T24 (Kd.N_reads' HO_5.out).2.2 x7_1 p311 q311
      cases e311
      obtain ⟨ce311, hce311, hMe311, hcc311⟩ := Kd.N_get HO_5.out z24 x7_1 p311 (by first | exact q311 | exact of_decide_eq_true (by first | (with_reducible assumption) | assumption) | (have e_ := (Kd.N_reads' HO_5.out).1; omega))
      obtain ⟨ua311_1, uc311_1, rfl, ul311_1, ge311_1⟩ := k24_openF hMe311
      have hv311_1 := hcc311 1 _ rfl
      rw [add_field _ _ 1 (by omega)] at hv311_1
      replace hv311_1 := Option.some.inj (hv311_1.symm.trans hx311_1)
      injection hv311_1 with hva_ hvn_ hvc_
      rw [hva_] at ge311_1
      rw [hvc_] at ul311_1
      have HL311_1 := Az_.mk (show Kd.V k24 24 _ w.heap.size _ _ ((rd_T24 t308 x7_1).f1) from Kd.V_mk ul311_1 ge311_1)
      clear hva_ hvn_ hvc_ ge311_1 ul311_1
      clear hcc311 hce311
      have HR311_1 := Az_.mk hi311_1
      have HC311_1 := Az_.mk hl311_1
      clear hi311_1 hl311_1
      replace p311 := eq_true p311
      replace q311 := eq_true q311
      go_wp2
      go_roundg k1
      case measure => have := HK1.out; omega
      case rel => exact ⟨(x6_1), (wrap64 (x7_1 + 1)), sq_, sq_, H', ⟨by have := HK1.out; omega⟩, ⟨by (with_reducible repeat (first | apply Kd.N_alloc | apply Kd.N_drewN | apply Kd.N_drew)); exact HO_5.out⟩, ⟨kq_ BK307⟩, ⟨bq1_ HB GE307⟩⟩
    ·rw [if_neg c8] at H
     exact absurd H (by simp)
   ·rw [if_neg c7] at H
    have c7b0 : decide (x7_1 < (t308.length : Int)) = false := decide_eq_false c7
    clear c7
    obtain rfl := Option.some.inj H
    obtain ⟨Ao12, co12, eo12⟩ := Kd.N_slice HO_5.out
    subst eo12
    go_wp2
    go_ret
    exact ⟨by first | rfl | (simp [yad_, yac_] <;> rfl) | (simp [*, yad_, yac_] <;> rfl), bq1_ HB GE307⟩
end
section
attribute [local go_sem] max2_int min2_int max_two min_two yal_ yak_ max_four min_four
def soritesref10_Covers.l0 : Nat → List Int → Int → Int → List (S24) → Int → List (S24) → Option (Bool)
 | 0, _, _, _, _, _, _ => none
 | k + 1, x5, x6, x313000, x313001, x314000, x314001 => if x6 < (x5.length : Int) then (if 0 ≤ x6 then ((soritesref10_count.f k x314000 x314001 (rd x5 x6)).bind fun t318 => ((soritesref10_count.f k x313000 x313001 (rd x5 x6)).bind fun t320 => (if t318 > t320 then (some false) else (soritesref10_Covers.l0 k x5 (wrap64 (x6 + 1)) x313000 x313001 x314000 x314001)))) else (none)) else (some true)
def soritesref10_Covers.f (k : Nat) (a0_0 : Int) (l0_1 : List (S24)) (a1_0 : Int) (l1_1 : List (S24)) : Option (Bool) := (soritesref06_Vars.f k a1_0 l1_1).bind fun t314 => (soritesref10_Covers.l0 k t314 0 a0_0 l0_1 a1_0 l1_1)
def soritesref10_Covers.T5 : Bool × List (List Nat × List Nat) := (true, [([], []), ([], []), ([], []), ([1, 2], [1, 2]), ([3], [3]), ([0, 4], [0, 4]), ([], []), ([], []), ([], []), ([7, 8], [7, 8]), ([9], [9]), ([6, 10, 5], [6, 10]), ([5, 11], [5, 11])])
def soritesref10_Covers.B5 : List Nat := [0, 0, 0, 6, 14, 31, 0, 0, 0, 384, 896, 2047, 4095]
theorem soritesref10_Covers.tab5 : rtab .any (opsOf Try.f46 5) = soritesref10_Covers.T5 := by kernel_rfl
theorem soritesref10_Covers.bits5 : waitsOk soritesref10_Covers.T5.2 soritesref10_Covers.B5 = true := by kernel_rfl
set_option maxHeartbeats 8000000 in
set_option maxRecDepth 100000 in
theorem soritesref10_Covers.calls (k : Nat) (a0_0 : Int) (A0_1 : Option Addr) (c0_1 : Nat) (l0_1 : List (S24)) (a1_0 : Int) (A1_1 : Option Addr) (c1_1 : Nat) (l1_1 : List (S24)) (r : Bool) (w : World) (hr0_1 : Kd.C k24 w A0_1 l0_1.length l0_1) (hc0_1 : l0_1.length ≤ c0_1) (hr1_1 : Kd.C k24 w A1_1 l1_1.length l1_1) (hc1_1 : l1_1.length ≤ c1_1) (h : soritesref10_Covers.f k a0_0 l0_1 a1_0 l1_1 = some r) :
  Calls Try.prog 46 #[.agg #[.int .i64 a0_0, .slice A0_1 l0_1.length c0_1], .agg #[.int .i64 a1_0, .slice A1_1 l1_1.length c1_1]] w fun e w' => e = .returned (.bool r) ∧ Below w.heap.size w w' := by
 have hu24 := Try.underlying24
 have HR0_1 := Az_.mk hr0_1
 have HC0_1 := Az_.mk hc0_1
 clear hr0_1 hc0_1
 have HR1_1 := Az_.mk hr1_1
 have HC1_1 := Az_.mk hc1_1
 clear hr1_1 hc1_1
 have HB := Az_.mk (Below.refl w.heap.size w)
 have H : ((soritesref06_Vars.f k a1_0 l1_1).bind fun t314 => (soritesref10_Covers.l0 k t314 0 a0_0 l0_1 a1_0 l1_1)) = some r := h
 clear h
 replace H := Option.bind_eq_some_iff.mp H
 obtain ⟨t314, A30, H⟩ := H
 replace H : (soritesref10_Covers.l0 k t314 0 a0_0 l0_1 a1_0 l1_1) = some r := H
 have A3 := Az_.mk A30
 clear A30
 have H' := Az_.mk H
 clear H
 go_enter Try.func46, Try.ntmps46
 go_wp2_with (first | ((with_reducible refine yag_ (N := 2) rfl ?_); refine yah_ ?hg (N := 2) ?hd (cs := #[.int .i64 a0_0, .slice A0_1 l0_1.length c0_1]) (t := 24) ?hr ?_; (case hd => rfl); (case hg => rfl); (case hr => exact rq_); intro gb312 hg w4 hbox hb; have BK312 := Az_.mk (hbox); have GW312 := Az_.mk ((by rw [hg]; exact (bZ_ (bq_ HB)) : w.heap.size ≤ gb312)); have GE312 := Az_.mk ((by rw [hg]; exact (bZ_ (bq_ HB)) : w.heap.size ≤ gb312)); replace HB := Az_.mk (bT_ (bq_ HB) hb); clear hb hbox hg) | ((with_reducible refine yag_ (N := 3) rfl ?_); refine yah_ ?hg (N := 3) ?hd (cs := #[.int .i64 a1_0, .slice A1_1 l1_1.length c1_1]) (t := 24) ?hr ?_; (case hd => rfl); (case hg => rfl); (case hr => exact rq_); intro gb313 hg w5 hbox hb; have BK313 := Az_.mk (hbox); have GW313 := Az_.mk ((by rw [hg]; exact (bZ_ (bq1_ HB GE312)) : w.heap.size ≤ gb313)); have GE313 := Az_.mk ((by rw [hg]; exact (bZ_ (bq1_ HB GE312)) : w.heap.size ≤ gb313)); replace HB := Az_.mk (bT_ (bq1_ HB GE312) hb); have NB312_313 := Az_.mk ((by rw [hg]; exact Nat.ne_of_lt (blk_lt (g := gb312) (o := .cells #[.int .i64 a0_0, .slice A0_1 l0_1.length c0_1] 24 (0, 0)) (kq_ BK312)) : gb312 ≠ gb313)); have NB313_312 := Az_.mk ((by rw [hg]; exact Nat.ne_of_gt (blk_lt (g := gb312) (o := .cells #[.int .i64 a0_0, .slice A0_1 l0_1.length c0_1] 24 (0, 0)) (kq_ BK312)) : gb313 ≠ gb312)); replace BK312 := kb_ BK312 hb; clear hb hbox hg; have hnb6 := NB313_312.out; have hnc6 := NB312_313.out; obtain ⟨hcz7_0, hcz7_1, hfz7_0, hfz7_1⟩ := cz2_ BK313) | ((with_reducible refine yaf_ (f := 48) rfl ?_); refine goesL_ (some 8) rfl rfl Try.func48 (by kernel_rfl) rfl #[.agg #[.int .i64 a1_0, .slice A1_1 l1_1.length c1_1]] rfl mq_ ?_; (with_reducible refine (soritesref06_Vars.calls k a1_0 _ _ l1_1 t314 _ ?side1 ?side2 A3.out).mono ?_); (case side1 => exact cq_ (Kd.C_below HR1_1.out HB.out)); (case side2 => exact HC1_1.out); rintro e w8 ⟨v315, rfl, ho0, hb⟩; refine ⟨_, rfl, ?_⟩; have HO316 := Az_.mk (Kd.R_lower ho0 (bZ_ (bq2_ HB GE312 GE313))); replace BK312 := kb_ BK312 hb; replace BK313 := kb_ BK313 hb; replace HB := Az_.mk (bT_ (bq2_ HB GE312 GE313) hb); (try clear hb); (try clear hb2); (try clear hk); (try clear hi); (try clear ho0)))
 go_loopg [6] k (fun kq v6 w' => ∃ (x6_1 : Int), v6 = .int .i64 x6_1 ∧ Az_ (soritesref10_Covers.l0 kq t314 x6_1 a0_0 l0_1 a1_0 l1_1 = some r) ∧ Az_ (kq ≤ k) ∧ Az_ (Kd.R (Kd.int .i64) 3 w' w.heap.size (fun _ => True) v315 t314) ∧ Az_ (w'.heap[gb312]? = some (.cells #[.int .i64 a0_0, (.slice A0_1 l0_1.length c0_1)] 24 (0, 0))) ∧ Az_ (w'.heap[gb313]? = some (.cells #[.int .i64 a1_0, (.slice A1_1 l1_1.length c1_1)] 24 (0, 0))) ∧ Az_ (Below w.heap.size w w'))
 case atStart => exact ⟨(0), sq_, H', ⟨Nat.le_refl _⟩, ⟨by (with_reducible repeat (first | apply Kd.R_alloc | apply Kd.R_drewN | apply Kd.R_drew)); exact HO316.out⟩, ⟨kq_ BK312⟩, ⟨kq_ BK313⟩, ⟨bq2_ HB GE312 GE313⟩⟩
 case round =>
  clear H'
  try clear c1
  try clear p2
  try clear c4
  try clear c6
  try clear hcz7_0
  try clear hcz7_1
  try clear hfz7_0
  try clear hfz7_1
  obtain ⟨x6_1, rfl, HA, HK1, HO_5, BK312, BK313, HB⟩ := hrel
  cases gk with
  | zero => exact absurd HA.out (by simp [soritesref10_Covers.l0])
  | succ k1 =>
   have H := HA.out
   clear HA
   simp only [soritesref10_Covers.l0] at H
   by_cases c9 : x6_1 < (t314.length : Int)
   ·rw [if_pos c9] at H
    have c9b0 : decide (x6_1 < (t314.length : Int)) = true := decide_eq_true c9
    clear c9
    by_cases c10 : 0 ≤ x6_1
    ·rw [if_pos c10] at H
     have c10b0 : decide (0 ≤ x6_1) = true := decide_eq_true c10
     clear c10
     replace H := Option.bind_eq_some_iff.mp H
     obtain ⟨t318, A110, H⟩ := H
     replace H : ((soritesref10_count.f k1 a0_0 l0_1 (rd t314 x6_1)).bind fun t320 => (if t318 > t320 then (some false) else (soritesref10_Covers.l0 k1 t314 (wrap64 (x6_1 + 1)) a0_0 l0_1 a1_0 l1_1))) = some r := H
     have A11 := Az_.mk A110
     clear A110
     replace H := Option.bind_eq_some_iff.mp H
     obtain ⟨t320, A120, H⟩ := H
     replace H : (if t318 > t320 then (some false) else (soritesref10_Covers.l0 k1 t314 (wrap64 (x6_1 + 1)) a0_0 l0_1 a1_0 l1_1)) = some r := H
     have A12 := Az_.mk A120
     clear A120
     by_cases c13 : t318 > t320
     ·rw [if_pos c13] at H
      have c13b0 : decide (t320 < t318) = true := decide_eq_true c13
      clear c13
      obtain rfl := Option.some.inj H
      obtain ⟨Ao14, co14, eo14⟩ := Kd.R_slice HO_5.out
      subst eo14
      try go_wp2
      replace HO_5 := Az_.mk (Kd.R_drew HO_5.out)
      replace BK312 := Az_.mk (kD_ BK312.out)
      replace BK313 := Az_.mk (kD_ BK313.out)
      replace HB := Az_.mk (bD_ HB.out)
      have p317 : 0 ≤ (x6_1 : Int) := of_decide_eq_true (by first | (with_reducible assumption) | assumption)
      have q317 : x6_1 < (t314.length : Int) := of_decide_eq_true (by first | (with_reducible assumption) | assumption)
      obtain ⟨ad317, e317, hx317_0⟩ := Kd.at_int (Kd.R_reads' HO_5.out).2.2 x6_1 p317 q317
      cases e317
      replace p317 := eq_true p317
      replace q317 := eq_true q317
      have p319 : 0 ≤ (x6_1 : Int) := of_decide_eq_true (by first | (with_reducible assumption) | assumption)
      have q319 : x6_1 < (t314.length : Int) := of_decide_eq_true (by first | (with_reducible assumption) | assumption)
      obtain ⟨ad319, e319, hx319_0⟩ := Kd.at_int (Kd.R_reads' HO_5.out).2.2 x6_1 p319 q319
      obtain rfl : ad317 = ad319 := (by injection e319)
      replace p319 := eq_true p319
      replace q319 := eq_true q319
      refine start_ (n := 13) (S := fun w' => w'.cell? ⟨gb313, 0, none⟩ = some (.int .i64 a1_0) ∧ w'.cell? ⟨gb313, 1, none⟩ = some (.slice A1_1 l1_1.length c1_1) ∧ w'.cell? ⟨gb312, 0, none⟩ = some (.int .i64 a0_0) ∧ w'.cell? ⟨gb312, 1, none⟩ = some (.slice A0_1 l0_1.length c0_1) ∧ w'.cell? (ad317.add (x6_1).toNat) = some (.int .i64 (rd t314 x6_1)) ∧ w'.cell? (ad317.add (x6_1).toNat) = some (.int .i64 (rd t314 x6_1))) (ds := []) #[false, false, false, false, false, false, false, false, false, false, false, false, false] (by kernel_rfl) rfl rfl ⟨(yaa_ BK313.out 0).trans rfl, (yaa_ BK313.out 1).trans rfl, (yaa_ BK312.out 0).trans rfl, (yaa_ BK312.out 1).trans rfl, hx317_0, hx319_0⟩ (fun hHeld => ?_); refine with_tabW soritesref10_Covers.tab5 soritesref10_Covers.bits5 (fun HT_ HW_ => ?_)
      generalize wr.drew = w15 at HO_5 BK312 BK313 HB hx317_0 hx319_0 hHeld ⊢
      refine pa_ 1 16 HT_ ?_
      refine pa_ 2 17 HT_ ?_
      refine pa_ 3 18 HT_ ?_
      refine pa_ 7 22 HT_ ?_
      refine pa_ 8 23 HT_ ?_
      refine pa_ 9 24 HT_ ?_
      refine ta6_ 0 15 HT_ HW_ hHeld ?_
      refine ta6_ 4 19 HT_ HW_ hHeld ?_
      refine ta6_ 6 21 HT_ HW_ hHeld ?_
      refine ta6_ 10 25 HT_ HW_ hHeld ?_
      refine one_ (i := 5) (N := some 20) #[true, true, true, true, true, true, true, true, true, true, true, false, false] rfl rfl (one_of HT_.out (by kernel_rfl)) (by decide) (fun K hK => ?_)
      refine goes_ Try.func80 (by kernel_rfl) rfl #[.agg #[.int .i64 a1_0, .slice A1_1 l1_1.length c1_1], .int .i64 (rd t314 x6_1)] (by rfl) rfl rfl mq_ ?_
      with_reducible refine (soritesref10_count.calls k1 a1_0 _ _ l1_1 (rd t314 x6_1) t318 _ ?side1 ?side2 A11.out).mono ?_
      (case side1 => exact cq_ (Kd.C_below HR1_1.out HB.out))
      (case side2 => exact HC1_1.out)
      rintro e w16 ⟨rfl, hb⟩
      have HS4_ := (hb.cell (World.block_lt_of_cell? _ _ (hHeld.2.2.2.2.1))).trans (hHeld.2.2.2.2.1)
      have HS5_ := (hb.cell (World.block_lt_of_cell? _ _ (hHeld.2.2.2.2.2))).trans (hHeld.2.2.2.2.2)
      refine ⟨_, rfl, ?_⟩
      replace HO_5 := Az_.mk (Kd.R_below (rr_ HO_5) hb)
      replace BK312 := kb_ BK312 hb
      replace BK313 := kb_ BK313 hb
      replace HB := Az_.mk (bT_ (bq2_ HB GE312 GE313) hb)
      (try clear hb)
      (try clear hb2)
      (try clear hk)
      (try clear hi)
      refine hK.out _ _ ⟨(yaa_ BK313.out 0).trans rfl, (yaa_ BK313.out 1).trans rfl, (yaa_ BK312.out 0).trans rfl, (yaa_ BK312.out 1).trans rfl, HS4_, HS5_⟩ (fun hHeld => ?_)
      clear hK K
      refine norm_ (a' := ?_) ?_ ?_
      rotate_left
      ·show Act.put _ (some 20) _ = _
       simp only [Act.put, sA_, sZ_, sS_, i64_w, i32_w]
       rfl
      refine one_ (i := 11) (N := some 26) #[true, true, true, true, true, true, true, true, true, true, true, true, false] rfl rfl (one_of HT_.out (by kernel_rfl)) (by decide) (fun K hK => ?_)
      refine goes_ Try.func80 (by kernel_rfl) rfl #[.agg #[.int .i64 a0_0, .slice A0_1 l0_1.length c0_1], .int .i64 (rd t314 x6_1)] (by rfl) rfl rfl mq_ ?_
      with_reducible refine (soritesref10_count.calls k1 a0_0 _ _ l0_1 (rd t314 x6_1) t320 _ ?side1 ?side2 A12.out).mono ?_
      (case side1 => exact cq_ (Kd.C_below HR0_1.out HB.out))
      (case side2 => exact HC0_1.out)
      rintro e w17 ⟨rfl, hb⟩
      have HS4_ := (hb.cell (World.block_lt_of_cell? _ _ (hHeld.2.2.2.2.1))).trans (hHeld.2.2.2.2.1)
      have HS5_ := (hb.cell (World.block_lt_of_cell? _ _ (hHeld.2.2.2.2.2))).trans (hHeld.2.2.2.2.2)
      refine ⟨_, rfl, ?_⟩
      replace HO_5 := Az_.mk (Kd.R_below (rr_ HO_5) hb)
      replace BK312 := kb_ BK312 hb
      replace BK313 := kb_ BK313 hb
      replace HB := Az_.mk (bT_ (bq2_ HB GE312 GE313) hb)
      (try clear hb)
      (try clear hb2)
      (try clear hk)
      (try clear hi)
      refine hK.out _ _ ⟨(yaa_ BK313.out 0).trans rfl, (yaa_ BK313.out 1).trans rfl, (yaa_ BK312.out 0).trans rfl, (yaa_ BK312.out 1).trans rfl, HS4_, HS5_⟩ (fun hHeld => ?_)
      clear hK K
      refine norm_ (a' := ?_) ?_ ?_
      rotate_left
      ·show Act.put _ (some 26) _ = _
       simp only [Act.put, sA_, sZ_, sS_, i64_w, i32_w]
       rfl
      refine pa_ 12 27 HT_ ?_
      refine done_ (done_of HT_.out (by kernel_rfl)) ?_
      try go_wp2
      go_ret
      exact ⟨by first | rfl | (simp [yad_, yac_] <;> rfl) | (simp [*, yad_, yac_] <;> rfl), bq2_ HB GE312 GE313⟩
     ·rw [if_neg c13] at H
      have c13b0 : decide (t320 < t318) = false := decide_eq_false c13
      clear c13
      have H' := Az_.mk H
      clear H
      obtain ⟨Ao18, co18, eo18⟩ := Kd.R_slice HO_5.out
      subst eo18
      try go_wp2
      replace HO_5 := Az_.mk (Kd.R_drew HO_5.out)
      replace BK312 := Az_.mk (kD_ BK312.out)
      replace BK313 := Az_.mk (kD_ BK313.out)
      replace HB := Az_.mk (bD_ HB.out)
      have p317 : 0 ≤ (x6_1 : Int) := of_decide_eq_true (by first | (with_reducible assumption) | assumption)
      have q317 : x6_1 < (t314.length : Int) := of_decide_eq_true (by first | (with_reducible assumption) | assumption)
      obtain ⟨ad317, e317, hx317_0⟩ := Kd.at_int (Kd.R_reads' HO_5.out).2.2 x6_1 p317 q317
      cases e317
      replace p317 := eq_true p317
      replace q317 := eq_true q317
      have p319 : 0 ≤ (x6_1 : Int) := of_decide_eq_true (by first | (with_reducible assumption) | assumption)
      have q319 : x6_1 < (t314.length : Int) := of_decide_eq_true (by first | (with_reducible assumption) | assumption)
      obtain ⟨ad319, e319, hx319_0⟩ := Kd.at_int (Kd.R_reads' HO_5.out).2.2 x6_1 p319 q319
      obtain rfl : ad317 = ad319 := (by injection e319)
      replace p319 := eq_true p319
      replace q319 := eq_true q319
      refine start_ (n := 13) (S := fun w' => w'.cell? ⟨gb313, 0, none⟩ = some (.int .i64 a1_0) ∧ w'.cell? ⟨gb313, 1, none⟩ = some (.slice A1_1 l1_1.length c1_1) ∧ w'.cell? ⟨gb312, 0, none⟩ = some (.int .i64 a0_0) ∧ w'.cell? ⟨gb312, 1, none⟩ = some (.slice A0_1 l0_1.length c0_1) ∧ w'.cell? (ad317.add (x6_1).toNat) = some (.int .i64 (rd t314 x6_1)) ∧ w'.cell? (ad317.add (x6_1).toNat) = some (.int .i64 (rd t314 x6_1))) (ds := []) #[false, false, false, false, false, false, false, false, false, false, false, false, false] (by kernel_rfl) rfl rfl ⟨(yaa_ BK313.out 0).trans rfl, (yaa_ BK313.out 1).trans rfl, (yaa_ BK312.out 0).trans rfl, (yaa_ BK312.out 1).trans rfl, hx317_0, hx319_0⟩ (fun hHeld => ?_); refine with_tabW soritesref10_Covers.tab5 soritesref10_Covers.bits5 (fun HT_ HW_ => ?_)
      generalize wr.drew = w19 at HO_5 BK312 BK313 HB hx317_0 hx319_0 hHeld ⊢
      refine pa_ 1 16 HT_ ?_
      refine pa_ 2 17 HT_ ?_
      refine pa_ 3 18 HT_ ?_
      refine pa_ 7 22 HT_ ?_
      refine pa_ 8 23 HT_ ?_
      refine pa_ 9 24 HT_ ?_
      refine ta6_ 0 15 HT_ HW_ hHeld ?_
      refine ta6_ 4 19 HT_ HW_ hHeld ?_
      refine ta6_ 6 21 HT_ HW_ hHeld ?_
      refine ta6_ 10 25 HT_ HW_ hHeld ?_
      refine one_ (i := 5) (N := some 20) #[true, true, true, true, true, true, true, true, true, true, true, false, false] rfl rfl (one_of HT_.out (by kernel_rfl)) (by decide) (fun K hK => ?_)
      refine goes_ Try.func80 (by kernel_rfl) rfl #[.agg #[.int .i64 a1_0, .slice A1_1 l1_1.length c1_1], .int .i64 (rd t314 x6_1)] (by rfl) rfl rfl mq_ ?_
      with_reducible refine (soritesref10_count.calls k1 a1_0 _ _ l1_1 (rd t314 x6_1) t318 _ ?side1 ?side2 A11.out).mono ?_
      (case side1 => exact cq_ (Kd.C_below HR1_1.out HB.out))
      (case side2 => exact HC1_1.out)
      rintro e w20 ⟨rfl, hb⟩
      have HS4_ := (hb.cell (World.block_lt_of_cell? _ _ (hHeld.2.2.2.2.1))).trans (hHeld.2.2.2.2.1)
      have HS5_ := (hb.cell (World.block_lt_of_cell? _ _ (hHeld.2.2.2.2.2))).trans (hHeld.2.2.2.2.2)
      refine ⟨_, rfl, ?_⟩
      replace HO_5 := Az_.mk (Kd.R_below (rr_ HO_5) hb)
      replace BK312 := kb_ BK312 hb
      replace BK313 := kb_ BK313 hb
      replace HB := Az_.mk (bT_ (bq2_ HB GE312 GE313) hb)
      (try clear hb)
      (try clear hb2)
      (try clear hk)
      (try clear hi)
      refine hK.out _ _ ⟨(yaa_ BK313.out 0).trans rfl, (yaa_ BK313.out 1).trans rfl, (yaa_ BK312.out 0).trans rfl, (yaa_ BK312.out 1).trans rfl, HS4_, HS5_⟩ (fun hHeld => ?_)
      clear hK K
      refine norm_ (a' := ?_) ?_ ?_
      rotate_left
      ·show Act.put _ (some 20) _ = _
       simp only [Act.put, sA_, sZ_, sS_, i64_w, i32_w]
       rfl
      refine one_ (i := 11) (N := some 26) #[true, true, true, true, true, true, true, true, true, true, true, true, false] rfl rfl (one_of HT_.out (by kernel_rfl)) (by decide) (fun K hK => ?_)
      refine goes_ Try.func80 (by kernel_rfl) rfl #[.agg #[.int .i64 a0_0, .slice A0_1 l0_1.length c0_1], .int .i64 (rd t314 x6_1)] (by rfl) rfl rfl mq_ ?_
      with_reducible refine (soritesref10_count.calls k1 a0_0 _ _ l0_1 (rd t314 x6_1) t320 _ ?side1 ?side2 A12.out).mono ?_
      (case side1 => exact cq_ (Kd.C_below HR0_1.out HB.out))
      (case side2 => exact HC0_1.out)
      rintro e w21 ⟨rfl, hb⟩
      have HS4_ := (hb.cell (World.block_lt_of_cell? _ _ (hHeld.2.2.2.2.1))).trans (hHeld.2.2.2.2.1)
      have HS5_ := (hb.cell (World.block_lt_of_cell? _ _ (hHeld.2.2.2.2.2))).trans (hHeld.2.2.2.2.2)
      refine ⟨_, rfl, ?_⟩
      replace HO_5 := Az_.mk (Kd.R_below (rr_ HO_5) hb)
      replace BK312 := kb_ BK312 hb
      replace BK313 := kb_ BK313 hb
      replace HB := Az_.mk (bT_ (bq2_ HB GE312 GE313) hb)
      (try clear hb)
      (try clear hb2)
      (try clear hk)
      (try clear hi)
      refine hK.out _ _ ⟨(yaa_ BK313.out 0).trans rfl, (yaa_ BK313.out 1).trans rfl, (yaa_ BK312.out 0).trans rfl, (yaa_ BK312.out 1).trans rfl, HS4_, HS5_⟩ (fun hHeld => ?_)
      clear hK K
      refine norm_ (a' := ?_) ?_ ?_
      rotate_left
      ·show Act.put _ (some 26) _ = _
       simp only [Act.put, sA_, sZ_, sS_, i64_w, i32_w]
       rfl
      refine pa_ 12 27 HT_ ?_
      refine done_ (done_of HT_.out (by kernel_rfl)) ?_
      try go_wp2
      go_roundg k1
      case measure => have := HK1.out; omega
      case rel => exact ⟨(wrap64 (x6_1 + 1)), sq_, H', ⟨by have := HK1.out; omega⟩, ⟨by (with_reducible repeat (first | apply Kd.R_alloc | apply Kd.R_drewN | apply Kd.R_drew)); exact HO_5.out⟩, ⟨kq_ BK312⟩, ⟨kq_ BK313⟩, ⟨bq2_ HB GE312 GE313⟩⟩
    ·rw [if_neg c10] at H
     exact absurd H (by simp)
   ·rw [if_neg c9] at H
    have c9b0 : decide (x6_1 < (t314.length : Int)) = false := decide_eq_false c9
    clear c9
    obtain rfl := Option.some.inj H
    obtain ⟨Ao22, co22, eo22⟩ := Kd.R_slice HO_5.out
    subst eo22
    go_wp2
    go_ret
    exact ⟨by first | rfl | (simp [yad_, yac_] <;> rfl) | (simp [*, yad_, yac_] <;> rfl), bq2_ HB GE312 GE313⟩
end
section
attribute [local go_sem] max2_int min2_int max_two min_two yal_ yak_ max_four min_four
mutual
def soritesref10_Greater.j0 : Nat → Bool → Int → List (S24) → Int → List (S24) → Option (Bool)
 | 0, _, _, _, _, _ => none
 | k + 1, x16, x322000, x322001, x323000, x323001 => if x16 = true then (some false) else ((soritesref06_Flat.f k x322000 x322001).bind fun t325 => ((soritesref06_Flat.f k x323000 x323001).bind fun t328 => (if (t325.length : Int) = (t328.length : Int) then (if x322000 < 0 then (soritesref10_Greater.j1 k (t325.length : Int) (t328.length : Int) true x322000 x322001 x323000 x323001) else (soritesref10_Greater.j1 k (t325.length : Int) (t328.length : Int) (decide (x323000 < 0)) x322000 x322001 x323000 x323001)) else (soritesref10_Greater.j1 k (t325.length : Int) (t328.length : Int) true x322000 x322001 x323000 x323001))))
def soritesref10_Greater.j1 : Nat → Int → Int → Bool → Int → List (S24) → Int → List (S24) → Option (Bool)
 | 0, _, _, _, _, _, _, _ => none
 | k + 1, x5, x6, x35, x322000, x322001, x323000, x323001 => if x35 = true then (some (decide (x5 > x6))) else (if x322000 = x323000 then (if (x322001.length : Int) = (x323001.length : Int) then (soritesref10_Greater.l0 k 0 x322000 x322001 x323000 x323001) else (some (decide ((x322001.length : Int) > (x323001.length : Int))))) else (some (decide (x322000 > x323000))))
def soritesref10_Greater.l0 : Nat → Int → Int → List (S24) → Int → List (S24) → Option (Bool)
 | 0, _, _, _, _, _ => none
 | k + 1, x7, x322000, x322001, x323000, x323001 => if 0 ≤ x7 then (if x7 < (x322001.length : Int) then (if x7 < (x323001.length : Int) then ((soritesref06_Same.f k ((rd_T24 x322001 x7).f0) ((rd_T24 x322001 x7).f1) ((rd_T24 x323001 x7).f0) ((rd_T24 x323001 x7).f1)).bind fun t333 => (if t333 = true then (soritesref10_Greater.l0 k (wrap64 (x7 + 1)) x322000 x322001 x323000 x323001) else ((soritesref10_Greater.f k ((rd_T24 x322001 x7).f0) ((rd_T24 x322001 x7).f1) ((rd_T24 x323001 x7).f0) ((rd_T24 x323001 x7).f1)).bind fun t336 => (some t336)))) else (none)) else (none)) else (none)
def soritesref10_Greater.f : Nat → Int → List (S24) → Int → List (S24) → Option (Bool)
 | 0, _, _, _, _ => none
 | k + 1, a0_0, l0_1, a1_0, l1_1 => (soritesref06_Same.f k a0_0 l0_1 a1_0 l1_1).bind fun t323 => (if t323 = true then (soritesref10_Greater.j0 k true a0_0 l0_1 a1_0 l1_1) else ((soritesref10_Covers.f k a0_0 l0_1 a1_0 l1_1).bind fun t324 => (soritesref10_Greater.j0 k (!t324) a0_0 l0_1 a1_0 l1_1)))
end
def soritesref10_Greater.T3 : Bool × List (List Nat × List Nat) := (true, [([], []), ([0], [0]), ([1], [1]), ([], []), ([3, 1], [3]), ([4], [4]), ([2, 4, 0, 1, 2], [2]), ([5, 6, 0, 1, 2, 3, 4, 5, 6], [5])])
def soritesref10_Greater.B3 : List Nat := [0, 1, 3, 0, 11, 27, 31, 127]
theorem soritesref10_Greater.tab3 : rtab .any (opsOf Try.f42 3) = soritesref10_Greater.T3 := by kernel_rfl
theorem soritesref10_Greater.bits3 : waitsOk soritesref10_Greater.T3.2 soritesref10_Greater.B3 = true := by kernel_rfl
def soritesref10_Greater.T11 : Bool × List (List Nat × List Nat) := (true, [([], []), ([0], [0]), ([], []), ([1, 2], [1, 2]), ([3], [3]), ([], []), ([5], [5]), ([], []), ([6, 7], [6, 7]), ([8], [8]), ([4, 9], [4, 9])])
def soritesref10_Greater.B11 : List Nat := [0, 1, 0, 7, 15, 0, 32, 0, 224, 480, 1023]
theorem soritesref10_Greater.tab11 : rtab .any (opsOf Try.f42 11) = soritesref10_Greater.T11 := by kernel_rfl
theorem soritesref10_Greater.bits11 : waitsOk soritesref10_Greater.T11.2 soritesref10_Greater.B11 = true := by kernel_rfl
def soritesref10_Greater.T13 : Bool × List (List Nat × List Nat) := (true, [([], []), ([0], [0]), ([], []), ([1, 2], [1, 2]), ([3], [3]), ([], []), ([5], [5]), ([], []), ([6, 7], [6, 7]), ([8], [8]), ([4, 9], [4, 9]), ([10, 10, 0, 1, 2, 3, 4, 5, 6, 7, 8, 9, 10], [10])])
def soritesref10_Greater.B13 : List Nat := [0, 1, 0, 7, 15, 0, 32, 0, 224, 480, 1023, 2047]
theorem soritesref10_Greater.tab13 : rtab .any (opsOf Try.f42 13) = soritesref10_Greater.T13 := by kernel_rfl
theorem soritesref10_Greater.bits13 : waitsOk soritesref10_Greater.T13.2 soritesref10_Greater.B13 = true := by kernel_rfl
set_option maxHeartbeats 8000000 in
set_option maxRecDepth 100000 in
theorem soritesref10_Greater.calls (k : Nat) : ∀ (a0_0 : Int) (A0_1 : Option Addr) (c0_1 : Nat) (l0_1 : List (S24)) (a1_0 : Int) (A1_1 : Option Addr) (c1_1 : Nat) (l1_1 : List (S24)) (r : Bool) (w : World) (hr0_1 : Kd.C k24 w A0_1 l0_1.length l0_1) (hc0_1 : l0_1.length ≤ c0_1) (hr1_1 : Kd.C k24 w A1_1 l1_1.length l1_1) (hc1_1 : l1_1.length ≤ c1_1) (h : soritesref10_Greater.f k a0_0 l0_1 a1_0 l1_1 = some r),
  Calls Try.prog 42 #[.agg #[.int .i64 a0_0, .slice A0_1 l0_1.length c0_1], .agg #[.int .i64 a1_0, .slice A1_1 l1_1.length c1_1]] w fun e w' => e = .returned (.bool r) ∧ Below w.heap.size w w' := by
 induction k using Nat.strongRecOn with
 | _ k ih =>
 intro a0_0 A0_1 c0_1 l0_1 a1_0 A1_1 c1_1 l1_1 r w hr0_1 hc0_1 hr1_1 hc1_1 h
 cases k with
 | zero => exact absurd h (by simp [soritesref10_Greater.f])
 | succ k =>
 simp only [soritesref10_Greater.f] at h
 have hu24 := Try.underlying24
 have HR0_1 := Az_.mk hr0_1
 have HC0_1 := Az_.mk hc0_1
 clear hr0_1 hc0_1
 have HR1_1 := Az_.mk hr1_1
 have HC1_1 := Az_.mk hc1_1
 clear hr1_1 hc1_1
 have HB := Az_.mk (Below.refl w.heap.size w)
 have H : ((soritesref06_Same.f k a0_0 l0_1 a1_0 l1_1).bind fun t323 => (if t323 = true then (soritesref10_Greater.j0 k true a0_0 l0_1 a1_0 l1_1) else ((soritesref10_Covers.f k a0_0 l0_1 a1_0 l1_1).bind fun t324 => (soritesref10_Greater.j0 k (!t324) a0_0 l0_1 a1_0 l1_1)))) = some r := h
 clear h
 have HC3 := Az_.mk H
 clear H
 go_enter Try.func42, Try.ntmps42
 go_upto_region 1 with (first | ((with_reducible refine yag_ (N := 2) rfl ?_); refine yah_ ?hg (N := 2) ?hd (cs := #[.int .i64 a0_0, .slice A0_1 l0_1.length c0_1]) (t := 24) ?hr ?_; (case hd => rfl); (case hg => rfl); (case hr => exact rq_); intro gb321 hg w4 hbox hb; have BK321 := Az_.mk (hbox); have GW321 := Az_.mk ((by rw [hg]; exact (bZ_ (bq_ HB)) : w.heap.size ≤ gb321)); have GE321 := Az_.mk ((by rw [hg]; exact (bZ_ (bq_ HB)) : w.heap.size ≤ gb321)); replace HB := Az_.mk (bT_ (bq_ HB) hb); clear hb hbox hg) | ((with_reducible refine yag_ (N := 3) rfl ?_); refine yah_ ?hg (N := 3) ?hd (cs := #[.int .i64 a1_0, .slice A1_1 l1_1.length c1_1]) (t := 24) ?hr ?_; (case hd => rfl); (case hg => rfl); (case hr => exact rq_); intro gb322 hg w5 hbox hb; have BK322 := Az_.mk (hbox); have GW322 := Az_.mk ((by rw [hg]; exact (bZ_ (bq1_ HB GE321)) : w.heap.size ≤ gb322)); have GE322 := Az_.mk ((by rw [hg]; exact (bZ_ (bq1_ HB GE321)) : w.heap.size ≤ gb322)); replace HB := Az_.mk (bT_ (bq1_ HB GE321) hb); have NB321_322 := Az_.mk ((by rw [hg]; exact Nat.ne_of_lt (blk_lt (g := gb321) (o := .cells #[.int .i64 a0_0, .slice A0_1 l0_1.length c0_1] 24 (0, 0)) (kq_ BK321)) : gb321 ≠ gb322)); have NB322_321 := Az_.mk ((by rw [hg]; exact Nat.ne_of_gt (blk_lt (g := gb321) (o := .cells #[.int .i64 a0_0, .slice A0_1 l0_1.length c0_1] 24 (0, 0)) (kq_ BK321)) : gb322 ≠ gb321)); replace BK321 := kb_ BK321 hb; clear hb hbox hg))
 (try simp only [Act.put, sA_, sZ_, sS_])
 go_cut [16] (fun v16 wc => ∃ (kq : Nat) (x16_2 : Bool), v16 = .bool x16_2 ∧ Az_ (soritesref10_Greater.j0 kq x16_2 a0_0 l0_1 a1_0 l1_1 = some r) ∧ Az_ (kq ≤ k) ∧ Az_ (wc.heap[gb321]? = some (.cells #[.int .i64 a0_0, (.slice A0_1 l0_1.length c0_1)] 24 (0, 0))) ∧ Az_ (wc.heap[gb322]? = some (.cells #[.int .i64 a1_0, (.slice A1_1 l1_1.length c1_1)] 24 (0, 0))) ∧ Az_ (Below w.heap.size w wc))
 case first =>
  have H := HC3.out
  clear HC3
  replace H := Option.bind_eq_some_iff.mp H
  obtain ⟨t323, A60, H⟩ := H
  replace H : (if t323 = true then (soritesref10_Greater.j0 k true a0_0 l0_1 a1_0 l1_1) else ((soritesref10_Covers.f k a0_0 l0_1 a1_0 l1_1).bind fun t324 => (soritesref10_Greater.j0 k (!t324) a0_0 l0_1 a1_0 l1_1))) = some r := H
  have A6 := Az_.mk A60
  clear A60
  by_cases c7 : t323 = true
  ·subst c7
   have H1 : (soritesref10_Greater.j0 k true a0_0 l0_1 a1_0 l1_1) = some r := by rw [if_pos rfl] at H; exact H
   clear H
   have H := H1
   clear H1
   have H' := Az_.mk H
   clear H
   have hnb8 := NB321_322.out
   have hnc8 := NB322_321.out
   obtain ⟨hcz9_0, hcz9_1, hfz9_0, hfz9_1⟩ := cz2_ BK321
   obtain ⟨hcz10_0, hcz10_1, hfz10_0, hfz10_1⟩ := cz2_ BK322
   go_wp2_with (first | ((with_reducible refine yaf_ (f := 28) rfl ?_); refine goesL_ (some 10) rfl rfl Try.func28 (by kernel_rfl) rfl #[.agg #[.int .i64 a0_0, .slice A0_1 l0_1.length c0_1], .agg #[.int .i64 a1_0, .slice A1_1 l1_1.length c1_1]] rfl mq_ ?_; (with_reducible refine (soritesref06_Same.calls k a0_0 _ _ l0_1 a1_0 _ _ l1_1 true _ ?side1 ?side2 ?side3 ?side4 A6.out).mono ?_); (case side1 => exact cq_ (Kd.C_below HR0_1.out HB.out)); (case side2 => exact HC0_1.out); (case side3 => exact cq_ (Kd.C_below HR1_1.out HB.out)); (case side4 => exact HC1_1.out); rintro e w11 ⟨rfl, hb⟩; refine ⟨_, rfl, ?_⟩; replace BK321 := kb_ BK321 hb; replace BK322 := kb_ BK322 hb; replace HB := Az_.mk (bT_ (bq2_ HB GE321 GE322) hb); (try clear hb); (try clear hb2); (try clear hk); (try clear hi)))
   go_meet
   case rel => exact ⟨_, (true), sq_, H', ⟨by first | omega | exact Nat.le_refl _⟩, ⟨kq_ BK321⟩, ⟨kq_ BK322⟩, ⟨bq2_ HB GE321 GE322⟩⟩
  ·replace c7 := Bool.eq_false_iff.mpr c7
   subst c7
   have H1 : ((soritesref10_Covers.f k a0_0 l0_1 a1_0 l1_1).bind fun t324 => (soritesref10_Greater.j0 k (!t324) a0_0 l0_1 a1_0 l1_1)) = some r := by rw [if_neg (show ¬ (false = true) by decide)] at H; exact H
   clear H
   have H := H1
   clear H1
   replace H := Option.bind_eq_some_iff.mp H
   obtain ⟨t324, A120, H⟩ := H
   replace H : (soritesref10_Greater.j0 k (!t324) a0_0 l0_1 a1_0 l1_1) = some r := H
   have A12 := Az_.mk A120
   clear A120
   have H' := Az_.mk H
   clear H
   have hnb13 := NB321_322.out
   have hnc13 := NB322_321.out
   obtain ⟨hcz14_0, hcz14_1, hfz14_0, hfz14_1⟩ := cz2_ BK321
   obtain ⟨hcz15_0, hcz15_1, hfz15_0, hfz15_1⟩ := cz2_ BK322
   go_wp2_with (first | ((with_reducible refine yaf_ (f := 28) rfl ?_); refine goesL_ (some 10) rfl rfl Try.func28 (by kernel_rfl) rfl #[.agg #[.int .i64 a0_0, .slice A0_1 l0_1.length c0_1], .agg #[.int .i64 a1_0, .slice A1_1 l1_1.length c1_1]] rfl mq_ ?_; (with_reducible refine (soritesref06_Same.calls k a0_0 _ _ l0_1 a1_0 _ _ l1_1 false _ ?side1 ?side2 ?side3 ?side4 A6.out).mono ?_); (case side1 => exact cq_ (Kd.C_below HR0_1.out HB.out)); (case side2 => exact HC0_1.out); (case side3 => exact cq_ (Kd.C_below HR1_1.out HB.out)); (case side4 => exact HC1_1.out); rintro e w16 ⟨rfl, hb⟩; refine ⟨_, rfl, ?_⟩; replace BK321 := kb_ BK321 hb; replace BK322 := kb_ BK322 hb; replace HB := Az_.mk (bT_ (bq2_ HB GE321 GE322) hb); (try clear hb); (try clear hb2); (try clear hk); (try clear hi); obtain ⟨hcz17_0, hcz17_1, hfz17_0, hfz17_1⟩ := cz2_ BK321; obtain ⟨hcz18_0, hcz18_1, hfz18_0, hfz18_1⟩ := cz2_ BK322) | (go_at_call 46; (with_reducible refine (soritesref10_Covers.calls k a0_0 _ _ l0_1 a1_0 _ _ l1_1 t324 _ ?side1 ?side2 ?side3 ?side4 A12.out).mono ?_); (case side1 => exact cq_ (Kd.C_below HR0_1.out HB.out)); (case side2 => exact HC0_1.out); (case side3 => exact cq_ (Kd.C_below HR1_1.out HB.out)); (case side4 => exact HC1_1.out); rintro e w19 ⟨rfl, hb⟩; replace BK321 := kb_ BK321 hb; replace BK322 := kb_ BK322 hb; replace HB := Az_.mk (bT_ (bq2_ HB GE321 GE322) hb); (try clear hb); (try clear hb2); (try clear hk); (try clear hi)))
   go_meet
   case rel => exact ⟨_, (!t324), sq_, H', ⟨by first | omega | exact Nat.le_refl _⟩, ⟨kq_ BK321⟩, ⟨kq_ BK322⟩, ⟨bq2_ HB GE321 GE322⟩⟩
 case rest =>
  clear HC3
  try clear c1
  try clear c2
  try clear p2
  try clear c4
  try clear c7
  try clear c8
  try clear c13
  try clear hcz10_0
  try clear hcz10_1
  try clear hcz14_0
  try clear hcz14_1
  try clear hcz15_0
  try clear hcz15_1
  try clear hcz17_0
  try clear hcz17_1
  try clear hcz18_0
  try clear hcz18_1
  try clear hcz9_0
  try clear hcz9_1
  try clear hfz10_0
  try clear hfz10_1
  try clear hfz14_0
  try clear hfz14_1
  try clear hfz15_0
  try clear hfz15_1
  try clear hfz17_0
  try clear hfz17_1
  try clear hfz18_0
  try clear hfz18_1
  try clear hfz9_0
  try clear hfz9_1
  obtain ⟨kq, x16_2, rfl, HA, HJ2, BK321, BK322, HB⟩ := hcut
  cases kq with
  | zero => exact absurd HA.out (by simp [soritesref10_Greater.j0])
  | succ kj2 =>
   have H := HA.out
   clear HA
   simp only [soritesref10_Greater.j0] at H
   by_cases c20 : x16_2 = true
   ·subst c20
    have H1 : (some false) = some r := by rw [if_pos rfl] at H; exact H
    clear H
    have H := H1
    clear H1
    obtain rfl := Option.some.inj H
    go_wp2
    go_ret
    exact ⟨by first | rfl | (simp [yad_, yac_] <;> rfl) | (simp [*, yad_, yac_] <;> rfl), bq2_ HB GE321 GE322⟩
   ·replace c20 := Bool.eq_false_iff.mpr c20
    subst c20
    have H1 : ((soritesref06_Flat.f kj2 a0_0 l0_1).bind fun t325 => ((soritesref06_Flat.f kj2 a1_0 l1_1).bind fun t328 => (if (t325.length : Int) = (t328.length : Int) then (if a0_0 < 0 then (soritesref10_Greater.j1 kj2 (t325.length : Int) (t328.length : Int) true a0_0 l0_1 a1_0 l1_1) else (soritesref10_Greater.j1 kj2 (t325.length : Int) (t328.length : Int) (decide (a1_0 < 0)) a0_0 l0_1 a1_0 l1_1)) else (soritesref10_Greater.j1 kj2 (t325.length : Int) (t328.length : Int) true a0_0 l0_1 a1_0 l1_1)))) = some r := by rw [if_neg (show ¬ (false = true) by decide)] at H; exact H
    clear H
    have H := H1
    clear H1
    replace H := Option.bind_eq_some_iff.mp H
    obtain ⟨t325, A210, H⟩ := H
    replace H : ((soritesref06_Flat.f kj2 a1_0 l1_1).bind fun t328 => (if (t325.length : Int) = (t328.length : Int) then (if a0_0 < 0 then (soritesref10_Greater.j1 kj2 (t325.length : Int) (t328.length : Int) true a0_0 l0_1 a1_0 l1_1) else (soritesref10_Greater.j1 kj2 (t325.length : Int) (t328.length : Int) (decide (a1_0 < 0)) a0_0 l0_1 a1_0 l1_1)) else (soritesref10_Greater.j1 kj2 (t325.length : Int) (t328.length : Int) true a0_0 l0_1 a1_0 l1_1))) = some r := H
    have A21 := Az_.mk A210
    clear A210
    replace H := Option.bind_eq_some_iff.mp H
    obtain ⟨t328, A220, H⟩ := H
    replace H : (if (t325.length : Int) = (t328.length : Int) then (if a0_0 < 0 then (soritesref10_Greater.j1 kj2 (t325.length : Int) (t328.length : Int) true a0_0 l0_1 a1_0 l1_1) else (soritesref10_Greater.j1 kj2 (t325.length : Int) (t328.length : Int) (decide (a1_0 < 0)) a0_0 l0_1 a1_0 l1_1)) else (soritesref10_Greater.j1 kj2 (t325.length : Int) (t328.length : Int) true a0_0 l0_1 a1_0 l1_1)) = some r := H
    have A22 := Az_.mk A220
    clear A220
    have HC23 := Az_.mk H
    clear H
    try go_wp2
    replace BK321 := Az_.mk (kD_ BK321.out)
    replace BK322 := Az_.mk (kD_ BK322.out)
    replace HB := Az_.mk (bD_ HB.out)
    refine start_ (n := 8) (S := fun w' => w'.cell? ⟨gb321, 0, none⟩ = some (.int .i64 a0_0) ∧ w'.cell? ⟨gb321, 1, none⟩ = some (.slice A0_1 l0_1.length c0_1) ∧ w'.cell? ⟨gb322, 0, none⟩ = some (.int .i64 a1_0) ∧ w'.cell? ⟨gb322, 1, none⟩ = some (.slice A1_1 l1_1.length c1_1)) (ds := []) #[false, false, false, false, false, false, false, false] (by kernel_rfl) rfl rfl ⟨(yaa_ BK321.out 0).trans rfl, (yaa_ BK321.out 1).trans rfl, (yaa_ BK322.out 0).trans rfl, (yaa_ BK322.out 1).trans rfl⟩ (fun hHeld => ?_); refine with_tabW soritesref10_Greater.tab3 soritesref10_Greater.bits3 (fun HT_ HW_ => ?_)
    generalize wc.drew = w24 at BK321 BK322 HB hHeld ⊢
    refine ta4_ 0 17 HT_ HW_ hHeld ?_
    refine ta4_ 3 20 HT_ HW_ hHeld ?_
    refine one_ (i := 1) (N := some 18) #[true, true, false, true, false, false, false, false] rfl rfl (one_of HT_.out (by kernel_rfl)) (by decide) (fun K hK => ?_)
    refine goes_ Try.func26 (by kernel_rfl) rfl #[.agg #[.int .i64 a0_0, .slice A0_1 l0_1.length c0_1]] (by rfl) rfl rfl mq_ ?_
    with_reducible refine (soritesref06_Flat.calls kj2 a0_0 (fun k_ => k_ < w.heap.size) _ _ l0_1 t325 _ ?side1 A21.out).mono ?_
    (case side1 => exact Kd.V_mk HC0_1.out (Kd.F_below (Kd.C_F k24_heap HR0_1.out) (bq2_ HB GE321 GE322)))
    rintro e w25 ⟨v326, rfl, ho0, hb⟩
    refine ⟨_, rfl, ?_⟩
    have HO327 := Az_.mk (Kd.N_lower (Kd.N_mono (ok' := fun k_ => k_ ≠ gb321 ∧ k_ ≠ gb322) ho0 (fun k_ hk_ => ⟨Or.elim hk_ (fun hs_ => fun e_ => Nat.not_le.2 hs_ (by rw [e_]; exact GW321.out)) (fun hn_ => (Kd.freshB (g := gb321) (o := .cells #[.int .i64 a0_0, .slice A0_1 l0_1.length c0_1] 24 (0, 0)) (kq_ BK321) k_ hn_)), Or.elim hk_ (fun hs_ => fun e_ => Nat.not_le.2 hs_ (by rw [e_]; exact GW322.out)) (fun hn_ => (Kd.freshB (g := gb322) (o := .cells #[.int .i64 a1_0, .slice A1_1 l1_1.length c1_1] 24 (0, 0)) (kq_ BK322) k_ hn_))⟩)) (bZ_ (bq2_ HB GE321 GE322)))
    replace BK321 := kb_ BK321 hb
    replace BK322 := kb_ BK322 hb
    replace HB := Az_.mk (bT_ (bq2_ HB GE321 GE322) hb)
    (try clear hb)
    (try clear hb2)
    (try clear hk)
    (try clear hi)
    (try clear ho0)
    obtain ⟨Ao26, co26, eo26⟩ := Kd.N_slice HO327.out
    (first | subst eo26 | (injection eo26 with f1_ f2_ f3_; have f4_ := f1_.symm; have f5_ := f3_.symm; clear f1_ f2_ f3_; subst f4_; subst f5_))
    refine hK.out _ _ ⟨(yaa_ BK321.out 0).trans rfl, (yaa_ BK321.out 1).trans rfl, (yaa_ BK322.out 0).trans rfl, (yaa_ BK322.out 1).trans rfl⟩ (fun hHeld => ?_)
    clear hK K
    refine norm_ (a' := ?_) ?_ ?_
    rotate_left
    ·show Act.put _ (some 18) _ = _
     simp only [Act.put, sA_, sZ_, sS_, i64_w, i32_w]
     rfl
    refine pa_ 2 19 HT_ ?_
    refine one_ (i := 4) (N := some 21) #[true, true, true, true, true, false, false, false] rfl rfl (one_of HT_.out (by kernel_rfl)) (by decide) (fun K hK => ?_)
    refine goes_ Try.func26 (by kernel_rfl) rfl #[.agg #[.int .i64 a1_0, .slice A1_1 l1_1.length c1_1]] (by rfl) rfl rfl mq_ ?_
    with_reducible refine (soritesref06_Flat.calls kj2 a1_0 (fun k_ => k_ < w.heap.size) _ _ l1_1 t328 _ ?side1 A22.out).mono ?_
    (case side1 => exact Kd.V_mk HC1_1.out (Kd.F_below (Kd.C_F k24_heap HR1_1.out) (bq2_ HB GE321 GE322)))
    rintro e w27 ⟨v329, rfl, ho0, hb⟩
    refine ⟨_, rfl, ?_⟩
    have HO330 := Az_.mk (Kd.N_lower (Kd.N_mono (ok' := fun k_ => some k_ ≠ (.slice Ao26 t325.length co26 : Value).ownBlock ∧ k_ ≠ gb321 ∧ k_ ≠ gb322) ho0 (fun k_ hk_ => ⟨Or.elim hk_ (fun hs_ => fun e_ => Nat.not_le.2 hs_ (Kd.N_base HO327.out k_ e_.symm)) (fun hn_ => (Kd.fresh' (Kd.N_lt (nq_ HO327)) k_ hn_)), Or.elim hk_ (fun hs_ => fun e_ => Nat.not_le.2 hs_ (by rw [e_]; exact GW321.out)) (fun hn_ => (Kd.freshB (g := gb321) (o := .cells #[.int .i64 a0_0, .slice A0_1 l0_1.length c0_1] 24 (0, 0)) (kq_ BK321) k_ hn_)), Or.elim hk_ (fun hs_ => fun e_ => Nat.not_le.2 hs_ (by rw [e_]; exact GW322.out)) (fun hn_ => (Kd.freshB (g := gb322) (o := .cells #[.int .i64 a1_0, .slice A1_1 l1_1.length c1_1] 24 (0, 0)) (kq_ BK322) k_ hn_))⟩)) (bZ_ (bq2_ HB GE321 GE322)))
    replace HO327 := Az_.mk (Kd.N_elder' (nq_ HO327) (Kd.N_base ho0) hb)
    replace BK321 := kb_ BK321 hb
    replace BK322 := kb_ BK322 hb
    replace HB := Az_.mk (bT_ (bq2_ HB GE321 GE322) hb)
    (try clear hb)
    (try clear hb2)
    (try clear hk)
    (try clear hi)
    (try clear ho0)
    obtain ⟨Ao28, co28, eo28⟩ := Kd.N_slice HO330.out
    (first | subst eo28 | (injection eo28 with f1_ f2_ f3_; have f4_ := f1_.symm; have f5_ := f3_.symm; clear f1_ f2_ f3_; subst f4_; subst f5_))
    refine hK.out _ _ ⟨(yaa_ BK321.out 0).trans rfl, (yaa_ BK321.out 1).trans rfl, (yaa_ BK322.out 0).trans rfl, (yaa_ BK322.out 1).trans rfl⟩ (fun hHeld => ?_)
    clear hK K
    refine norm_ (a' := ?_) ?_ ?_
    rotate_left
    ·show Act.put _ (some 21) _ = _
     simp only [Act.put, sA_, sZ_, sS_, i64_w, i32_w]
     rfl
    refine pa_ 5 22 HT_ ?_
    refine pa_ 6 5 HT_ ?_
    refine pa_ 7 6 HT_ ?_
    refine done_ (done_of HT_.out (by kernel_rfl)) ?_
    go_upto_region 4 with (fail)
    go_cut [35] (fun v35 wc => ∃ (kq : Nat) (x35_22 : Bool), v35 = .bool x35_22 ∧ Az_ (soritesref10_Greater.j1 kq (t325.length : Int) (t328.length : Int) x35_22 a0_0 l0_1 a1_0 l1_1 = some r) ∧ Az_ (kq ≤ kj2) ∧ Az_ (wc.heap[gb321]? = some (.cells #[.int .i64 a0_0, (.slice A0_1 l0_1.length c0_1)] 24 (0, 0))) ∧ Az_ (wc.heap[gb322]? = some (.cells #[.int .i64 a1_0, (.slice A1_1 l1_1.length c1_1)] 24 (0, 0))) ∧ Az_ (Below w.heap.size w wc))
    case first =>
     have H := HC23.out
     clear HC23
     by_cases c29 : (t325.length : Int) = (t328.length : Int)
     ·rw [if_pos c29] at H
      have c29b0 : ((t325.length : Int) == (t328.length : Int)) = true := beq_iff_eq.mpr c29
      have c29b1 : ((t325.length : Int) != (t328.length : Int)) = false := bne_eq_false_iff_eq.mpr c29
      have c29b2 : (t325.length == t328.length) = true := by first | simpa using c29 | (simp at c29 ⊢; omega)
      clear c29
      (first | rw [c29b0] | (simp only [i64_w, i32_w]; rw [c29b0]) | skip)
      by_cases c30 : a0_0 < 0
      ·rw [if_pos c30] at H
       have c30b0 : decide (a0_0 < 0) = true := decide_eq_true c30
       clear c30
       have H' := Az_.mk H
       clear H
       have hnb31 := NB321_322.out
       have hnc31 := NB322_321.out
       obtain ⟨hcz32_0, hcz32_1, hfz32_0, hfz32_1⟩ := cz2_ BK321
       go_wp2
       go_meet
       case rel => exact ⟨_, (true), sq_, H', ⟨by have := HJ2.out; first | omega | exact Nat.le_refl _⟩, ⟨kq_ BK321⟩, ⟨kq_ BK322⟩, ⟨bq2_ HB GE321 GE322⟩⟩
      ·rw [if_neg c30] at H
       have c30b0 : decide (a0_0 < 0) = false := decide_eq_false c30
       clear c30
       have H' := Az_.mk H
       clear H
       have hnb33 := NB321_322.out
       have hnc33 := NB322_321.out
       obtain ⟨hcz34_0, hcz34_1, hfz34_0, hfz34_1⟩ := cz2_ BK321
       obtain ⟨hcz35_0, hcz35_1, hfz35_0, hfz35_1⟩ := cz2_ BK322
       go_wp2
       go_meet
       case rel => exact ⟨_, (decide (a1_0 < 0)), sq_, H', ⟨by have := HJ2.out; first | omega | exact Nat.le_refl _⟩, ⟨kq_ BK321⟩, ⟨kq_ BK322⟩, ⟨bq2_ HB GE321 GE322⟩⟩
     ·rw [if_neg c29] at H
      have c29b0 : ((t325.length : Int) == (t328.length : Int)) = false := beq_eq_false_iff_ne.mpr c29
      have c29b1 : ((t325.length : Int) != (t328.length : Int)) = true := bne_iff_ne.mpr c29
      have c29b2 : (t325.length == t328.length) = false := by first | simpa using c29 | (simp at c29 ⊢; omega)
      (first | rw [c29b0] | (simp only [i64_w, i32_w]; rw [c29b0]) | skip)
      have H' := Az_.mk H
      clear H
      go_wp2
      go_meet
      case rel => exact ⟨_, (true), sq_, H', ⟨by have := HJ2.out; first | omega | exact Nat.le_refl _⟩, ⟨kq_ BK321⟩, ⟨kq_ BK322⟩, ⟨bq2_ HB GE321 GE322⟩⟩
    case rest =>
     clear HC23
     try clear c1
     try clear c2
     try clear p2
     try clear c3
     try clear c4
     try clear c7
     try clear c8
     try clear c13
     try clear c20
     try clear c26
     try clear c28
     try clear c29
     try clear c29b0
     try clear c29b1
     try clear c29b2
     try clear c30
     try clear c30b0
     try clear c31
     try clear c33
     try clear hcz10_0
     try clear hcz10_1
     try clear hcz14_0
     try clear hcz14_1
     try clear hcz15_0
     try clear hcz15_1
     try clear hcz17_0
     try clear hcz17_1
     try clear hcz18_0
     try clear hcz18_1
     try clear hcz32_0
     try clear hcz32_1
     try clear hcz34_0
     try clear hcz34_1
     try clear hcz35_0
     try clear hcz35_1
     try clear hcz9_0
     try clear hcz9_1
     try clear hfz10_0
     try clear hfz10_1
     try clear hfz14_0
     try clear hfz14_1
     try clear hfz15_0
     try clear hfz15_1
     try clear hfz17_0
     try clear hfz17_1
     try clear hfz18_0
     try clear hfz18_1
     try clear hfz32_0
     try clear hfz32_1
     try clear hfz34_0
     try clear hfz34_1
     try clear hfz35_0
     try clear hfz35_1
     try clear hfz9_0
     try clear hfz9_1
     try clear p2
     obtain ⟨kq, x35_22, rfl, HA, HJ22, BK321, BK322, HB⟩ := hcut
     cases kq with
     | zero => exact absurd HA.out (by simp [soritesref10_Greater.j1])
     | succ kj22 =>
      have H := HA.out
      clear HA
      simp only [soritesref10_Greater.j1] at H
      by_cases c36 : x35_22 = true
      ·subst c36
       have H1 : (some (decide ((t325.length : Int) > (t328.length : Int)))) = some r := by rw [if_pos rfl] at H; exact H
       clear H
       have H := H1
       clear H1
       obtain rfl := Option.some.inj H
       go_wp2
       go_ret
       exact ⟨by first | rfl | (simp [yad_, yac_] <;> rfl) | (simp [*, yad_, yac_] <;> rfl), bq2_ HB GE321 GE322⟩
      ·replace c36 := Bool.eq_false_iff.mpr c36
       subst c36
       have H1 : (if a0_0 = a1_0 then (if (l0_1.length : Int) = (l1_1.length : Int) then (soritesref10_Greater.l0 kj22 0 a0_0 l0_1 a1_0 l1_1) else (some (decide ((l0_1.length : Int) > (l1_1.length : Int))))) else (some (decide (a0_0 > a1_0)))) = some r := by rw [if_neg (show ¬ (false = true) by decide)] at H; exact H
       clear H
       have H := H1
       clear H1
       by_cases c37 : a0_0 = a1_0
       ·rw [if_pos c37] at H
        have c37b0 : (a0_0 == a1_0) = true := beq_iff_eq.mpr c37
        have c37b1 : (a0_0 != a1_0) = false := bne_eq_false_iff_eq.mpr c37
        clear c37
        by_cases c38 : (l0_1.length : Int) = (l1_1.length : Int)
        ·rw [if_pos c38] at H
         have c38b0 : ((l0_1.length : Int) == (l1_1.length : Int)) = true := beq_iff_eq.mpr c38
         have c38b1 : ((l0_1.length : Int) != (l1_1.length : Int)) = false := bne_eq_false_iff_eq.mpr c38
         have c38b2 : (l0_1.length == l1_1.length) = true := by first | simpa using c38 | (simp at c38 ⊢; omega)
         clear c38
         have H' := Az_.mk H
         clear H
         have hnb39 := NB321_322.out
         have hnc39 := NB322_321.out
         obtain ⟨hcz40_0, hcz40_1, hfz40_0, hfz40_1⟩ := cz2_ BK321
         obtain ⟨hcz41_0, hcz41_1, hfz41_0, hfz41_1⟩ := cz2_ BK322
         go_wp2
         go_loopg [7] kj22 (fun kq v7 w' => ∃ (x7_3 : Int), v7 = .int .i64 x7_3 ∧ Az_ (soritesref10_Greater.l0 kq x7_3 a0_0 l0_1 a1_0 l1_1 = some r) ∧ Az_ (kq ≤ kj22) ∧ Az_ (w'.heap[gb321]? = some (.cells #[.int .i64 a0_0, (.slice A0_1 l0_1.length c0_1)] 24 (0, 0))) ∧ Az_ (w'.heap[gb322]? = some (.cells #[.int .i64 a1_0, (.slice A1_1 l1_1.length c1_1)] 24 (0, 0))) ∧ Az_ (Below w.heap.size w w'))
         case atStart => exact ⟨(0), sq_, H', ⟨Nat.le_refl _⟩, ⟨kq_ BK321⟩, ⟨kq_ BK322⟩, ⟨bq2_ HB GE321 GE322⟩⟩
         case round =>
          clear H'
          try clear c1
          try clear c2
          try clear p2
          try clear c3
          try clear c4
          try clear c7
          try clear c8
          try clear c13
          try clear c20
          try clear c26
          try clear c28
          try clear c29
          try clear c29b0
          try clear c29b1
          try clear c29b2
          try clear c30
          try clear c30b0
          try clear c31
          try clear c33
          try clear c36
          try clear c37
          try clear c37b0
          try clear c37b1
          try clear c38
          try clear c38b0
          try clear c38b1
          try clear c38b2
          try clear c39
          try clear hcz10_0
          try clear hcz10_1
          try clear hcz14_0
          try clear hcz14_1
          try clear hcz15_0
          try clear hcz15_1
          try clear hcz17_0
          try clear hcz17_1
          try clear hcz18_0
          try clear hcz18_1
          try clear hcz32_0
          try clear hcz32_1
          try clear hcz34_0
          try clear hcz34_1
          try clear hcz35_0
          try clear hcz35_1
          try clear hcz40_0
          try clear hcz40_1
          try clear hcz41_0
          try clear hcz41_1
          try clear hcz9_0
          try clear hcz9_1
          try clear hfz10_0
          try clear hfz10_1
          try clear hfz14_0
          try clear hfz14_1
          try clear hfz15_0
          try clear hfz15_1
          try clear hfz17_0
          try clear hfz17_1
          try clear hfz18_0
          try clear hfz18_1
          try clear hfz32_0
          try clear hfz32_1
          try clear hfz34_0
          try clear hfz34_1
          try clear hfz35_0
          try clear hfz35_1
          try clear hfz40_0
          try clear hfz40_1
          try clear hfz41_0
          try clear hfz41_1
          try clear hfz9_0
          try clear hfz9_1
          try clear p2
          obtain ⟨x7_3, rfl, HA, HK3, BK321, BK322, HB⟩ := hrel
          cases gk with
          | zero => exact absurd HA.out (by simp [soritesref10_Greater.l0])
          | succ k3 =>
           have H := HA.out
           clear HA
           simp only [soritesref10_Greater.l0] at H
           by_cases c42 : 0 ≤ x7_3
           ·rw [if_pos c42] at H
            have c42b0 : decide (0 ≤ x7_3) = true := decide_eq_true c42
            clear c42
            by_cases c43 : x7_3 < (l0_1.length : Int)
            ·rw [if_pos c43] at H
             have c43b0 : decide (x7_3 < (l0_1.length : Int)) = true := decide_eq_true c43
             clear c43
             by_cases c44 : x7_3 < (l1_1.length : Int)
             ·rw [if_pos c44] at H
              have c44b0 : decide (x7_3 < (l1_1.length : Int)) = true := decide_eq_true c44
              clear c44
              replace H := Option.bind_eq_some_iff.mp H
              obtain ⟨t333, A450, H⟩ := H
              replace H : (if t333 = true then (soritesref10_Greater.l0 k3 (wrap64 (x7_3 + 1)) a0_0 l0_1 a1_0 l1_1) else ((soritesref10_Greater.f k3 ((rd_T24 l0_1 x7_3).f0) ((rd_T24 l0_1 x7_3).f1) ((rd_T24 l1_1 x7_3).f0) ((rd_T24 l1_1 x7_3).f1)).bind fun t336 => (some t336))) = some r := H
              have A45 := Az_.mk A450
              clear A450
              by_cases c46 : t333 = true
              ·subst c46
               have H1 : (soritesref10_Greater.l0 k3 (wrap64 (x7_3 + 1)) a0_0 l0_1 a1_0 l1_1) = some r := by rw [if_pos rfl] at H; exact H
               clear H
               have H := H1
               clear H1
               have H' := Az_.mk H
               clear H
               try go_wp2
               replace BK321 := Az_.mk (kD_ BK321.out)
               replace BK322 := Az_.mk (kD_ BK322.out)
               replace HB := Az_.mk (bD_ HB.out)
               have p331 : 0 ≤ (x7_3 : Int) := of_decide_eq_true (by first | (with_reducible assumption) | assumption)
               have q331 : x7_3 < (l0_1.length : Int) := of_decide_eq_true (by first | (with_reducible assumption) | assumption)
               obtain ⟨ad331, A331_1, c331_1, e331, hx331_0, hx331_1, hl331_1, hi331_1⟩ := at_T24 HR0_1.out x7_3 p331 q331
               have hw331_1 := hx331_1
               have hw331_0 := hx331_0
               cases e331
               replace hx331_0 := (HB.out.cell (World.block_lt_of_cell? w _ hx331_0)).trans hx331_0
               replace hx331_1 := (HB.out.cell (World.block_lt_of_cell? w _ hx331_1)).trans hx331_1
               have HR331_1 := Az_.mk hi331_1
               have HC331_1 := Az_.mk hl331_1
               clear hi331_1 hl331_1
               replace p331 := eq_true p331
               replace q331 := eq_true q331
               have p332 : 0 ≤ (x7_3 : Int) := of_decide_eq_true (by first | (with_reducible assumption) | assumption)
               have q332 : x7_3 < (l1_1.length : Int) := of_decide_eq_true (by first | (with_reducible assumption) | assumption)
               obtain ⟨ad332, A332_1, c332_1, e332, hx332_0, hx332_1, hl332_1, hi332_1⟩ := at_T24 HR1_1.out x7_3 p332 q332
               have hw332_1 := hx332_1
               have hw332_0 := hx332_0
               cases e332
               replace hx332_0 := (HB.out.cell (World.block_lt_of_cell? w _ hx332_0)).trans hx332_0
               replace hx332_1 := (HB.out.cell (World.block_lt_of_cell? w _ hx332_1)).trans hx332_1
               have HR332_1 := Az_.mk hi332_1
               have HC332_1 := Az_.mk hl332_1
               clear hi332_1 hl332_1
               replace p332 := eq_true p332
               replace q332 := eq_true q332
               refine start_ (n := 11) (S := fun w' => w'.cell? ⟨gb321, 0, none⟩ = some (.int .i64 a0_0) ∧ w'.cell? ⟨gb321, 1, none⟩ = some (.slice (some ad331) l0_1.length c0_1) ∧ w'.cell? ⟨gb322, 0, none⟩ = some (.int .i64 a1_0) ∧ w'.cell? ⟨gb322, 1, none⟩ = some (.slice (some ad332) l1_1.length c1_1) ∧ w'.cell? (ad331.add ((x7_3).toNat * 2)) = some (.int .i64 ((rd_T24 l0_1 x7_3).f0)) ∧ w'.cell? ⟨(ad331.add ((x7_3).toNat * 2)).block, (ad331.add ((x7_3).toNat * 2)).off + 1, none⟩ = some (.slice A331_1 ((rd_T24 l0_1 x7_3).f1).length c331_1) ∧ w'.cell? (ad332.add ((x7_3).toNat * 2)) = some (.int .i64 ((rd_T24 l1_1 x7_3).f0)) ∧ w'.cell? ⟨(ad332.add ((x7_3).toNat * 2)).block, (ad332.add ((x7_3).toNat * 2)).off + 1, none⟩ = some (.slice A332_1 ((rd_T24 l1_1 x7_3).f1).length c332_1)) (ds := []) #[false, false, false, false, false, false, false, false, false, false, false] (by kernel_rfl) rfl rfl ⟨(yaa_ BK321.out 0).trans rfl, (yaa_ BK321.out 1).trans rfl, (yaa_ BK322.out 0).trans rfl, (yaa_ BK322.out 1).trans rfl, ((HB.out.cell (World.block_lt_of_cell? w _ hw331_0)).trans hw331_0), ((HB.out.cell (World.block_lt_of_cell? w _ hw331_1)).trans hw331_1), ((HB.out.cell (World.block_lt_of_cell? w _ hw332_0)).trans hw332_0), ((HB.out.cell (World.block_lt_of_cell? w _ hw332_1)).trans hw332_1)⟩ (fun hHeld => ?_); refine with_tabW soritesref10_Greater.tab11 soritesref10_Greater.bits11 (fun HT_ HW_ => ?_)
               generalize wr.drew = w47 at BK321 BK322 HB HR331_1 HR332_1 hx331_0 hx331_1 hx332_0 hx332_1 hHeld ⊢
               refine pa_ 0 63 HT_ ?_
               refine pa_ 2 65 HT_ ?_
               refine pa_ 5 68 HT_ ?_
               refine pa_ 7 70 HT_ ?_
               refine ta8_ 1 64 HT_ HW_ hHeld ?_
               refine pa_ 3 66 HT_ ?_
               refine ta8_ 4 67 HT_ HW_ hHeld ?_
               refine ta8_ 6 69 HT_ HW_ hHeld ?_
               refine pa_ 8 71 HT_ ?_
               refine ta8_ 9 72 HT_ HW_ hHeld ?_
               refine one_ (i := 10) (N := some 73) #[true, true, true, true, true, true, true, true, true, true, true] rfl rfl (one_of HT_.out (by kernel_rfl)) (by decide) (fun K hK => ?_)
               refine goes_ Try.func28 (by kernel_rfl) rfl #[.agg #[.int .i64 ((rd_T24 l0_1 x7_3).f0), .slice A331_1 ((rd_T24 l0_1 x7_3).f1).length c331_1], .agg #[.int .i64 ((rd_T24 l1_1 x7_3).f0), .slice A332_1 ((rd_T24 l1_1 x7_3).f1).length c332_1]] (by rfl) rfl rfl mq_ ?_
               with_reducible refine (soritesref06_Same.calls k3 ((rd_T24 l0_1 x7_3).f0) _ _ ((rd_T24 l0_1 x7_3).f1) ((rd_T24 l1_1 x7_3).f0) _ _ ((rd_T24 l1_1 x7_3).f1) true _ ?side1 ?side2 ?side3 ?side4 A45.out).mono ?_
               (case side1 => exact cq_ (Kd.C_below HR331_1.out HB.out))
               (case side2 => exact HC331_1.out)
               (case side3 => exact cq_ (Kd.C_below HR332_1.out HB.out))
               (case side4 => exact HC332_1.out)
               rintro e w48 ⟨rfl, hb⟩
               refine ⟨_, rfl, ?_⟩
               replace BK321 := kb_ BK321 hb
               replace BK322 := kb_ BK322 hb
               replace HB := Az_.mk (bT_ (bq2_ HB GE321 GE322) hb)
               (try clear hb)
               (try clear hb2)
               (try clear hk)
               (try clear hi)
               refine hK.out _ _ ⟨(yaa_ BK321.out 0).trans rfl, (yaa_ BK321.out 1).trans rfl, (yaa_ BK322.out 0).trans rfl, (yaa_ BK322.out 1).trans rfl, ((HB.out.cell (World.block_lt_of_cell? w _ hw331_0)).trans hw331_0), ((HB.out.cell (World.block_lt_of_cell? w _ hw331_1)).trans hw331_1), ((HB.out.cell (World.block_lt_of_cell? w _ hw332_0)).trans hw332_0), ((HB.out.cell (World.block_lt_of_cell? w _ hw332_1)).trans hw332_1)⟩ (fun hHeld => ?_)
               clear hK K
               refine norm_ (a' := ?_) ?_ ?_
               rotate_left
               ·show Act.put _ (some 73) _ = _
                simp only [Act.put, sA_, sZ_, sS_, i64_w, i32_w]
                rfl
               refine done_ (done_of HT_.out (by kernel_rfl)) ?_
               try go_wp2
               go_roundg k3
               case measure => have := HJ2.out; have := HJ22.out; have := HK3.out; omega
               case rel => exact ⟨(wrap64 (x7_3 + 1)), sq_, H', ⟨by have := HJ2.out; have := HJ22.out; have := HK3.out; omega⟩, ⟨kq_ BK321⟩, ⟨kq_ BK322⟩, ⟨bq2_ HB GE321 GE322⟩⟩
              ·replace c46 := Bool.eq_false_iff.mpr c46
               subst c46
               have H1 : ((soritesref10_Greater.f k3 ((rd_T24 l0_1 x7_3).f0) ((rd_T24 l0_1 x7_3).f1) ((rd_T24 l1_1 x7_3).f0) ((rd_T24 l1_1 x7_3).f1)).bind fun t336 => (some t336)) = some r := by rw [if_neg (show ¬ (false = true) by decide)] at H; exact H
               clear H
               have H := H1
               clear H1
               replace H := Option.bind_eq_some_iff.mp H
               obtain ⟨t336, A490, H⟩ := H
               replace H : (some t336) = some r := H
               have A49 := Az_.mk A490
               clear A490
               obtain rfl := Option.some.inj H
               try go_wp2
               replace BK321 := Az_.mk (kD_ BK321.out)
               replace BK322 := Az_.mk (kD_ BK322.out)
               replace HB := Az_.mk (bD_ HB.out)
               have p331 : 0 ≤ (x7_3 : Int) := of_decide_eq_true (by first | (with_reducible assumption) | assumption)
               have q331 : x7_3 < (l0_1.length : Int) := of_decide_eq_true (by first | (with_reducible assumption) | assumption)
               obtain ⟨ad331, A331_1, c331_1, e331, hx331_0, hx331_1, hl331_1, hi331_1⟩ := at_T24 HR0_1.out x7_3 p331 q331
               have hw331_1 := hx331_1
               have hw331_0 := hx331_0
               cases e331
               replace hx331_0 := (HB.out.cell (World.block_lt_of_cell? w _ hx331_0)).trans hx331_0
               replace hx331_1 := (HB.out.cell (World.block_lt_of_cell? w _ hx331_1)).trans hx331_1
               have HR331_1 := Az_.mk hi331_1
               have HC331_1 := Az_.mk hl331_1
               clear hi331_1 hl331_1
               replace p331 := eq_true p331
               replace q331 := eq_true q331
               have p332 : 0 ≤ (x7_3 : Int) := of_decide_eq_true (by first | (with_reducible assumption) | assumption)
               have q332 : x7_3 < (l1_1.length : Int) := of_decide_eq_true (by first | (with_reducible assumption) | assumption)
               obtain ⟨ad332, A332_1, c332_1, e332, hx332_0, hx332_1, hl332_1, hi332_1⟩ := at_T24 HR1_1.out x7_3 p332 q332
               have hw332_1 := hx332_1
               have hw332_0 := hx332_0
               cases e332
               replace hx332_0 := (HB.out.cell (World.block_lt_of_cell? w _ hx332_0)).trans hx332_0
               replace hx332_1 := (HB.out.cell (World.block_lt_of_cell? w _ hx332_1)).trans hx332_1
               have HR332_1 := Az_.mk hi332_1
               have HC332_1 := Az_.mk hl332_1
               clear hi332_1 hl332_1
               replace p332 := eq_true p332
               replace q332 := eq_true q332
               refine start_ (n := 11) (S := fun w' => w'.cell? ⟨gb321, 0, none⟩ = some (.int .i64 a0_0) ∧ w'.cell? ⟨gb321, 1, none⟩ = some (.slice (some ad331) l0_1.length c0_1) ∧ w'.cell? ⟨gb322, 0, none⟩ = some (.int .i64 a1_0) ∧ w'.cell? ⟨gb322, 1, none⟩ = some (.slice (some ad332) l1_1.length c1_1) ∧ w'.cell? (ad331.add ((x7_3).toNat * 2)) = some (.int .i64 ((rd_T24 l0_1 x7_3).f0)) ∧ w'.cell? ⟨(ad331.add ((x7_3).toNat * 2)).block, (ad331.add ((x7_3).toNat * 2)).off + 1, none⟩ = some (.slice A331_1 ((rd_T24 l0_1 x7_3).f1).length c331_1) ∧ w'.cell? (ad332.add ((x7_3).toNat * 2)) = some (.int .i64 ((rd_T24 l1_1 x7_3).f0)) ∧ w'.cell? ⟨(ad332.add ((x7_3).toNat * 2)).block, (ad332.add ((x7_3).toNat * 2)).off + 1, none⟩ = some (.slice A332_1 ((rd_T24 l1_1 x7_3).f1).length c332_1)) (ds := []) #[false, false, false, false, false, false, false, false, false, false, false] (by kernel_rfl) rfl rfl ⟨(yaa_ BK321.out 0).trans rfl, (yaa_ BK321.out 1).trans rfl, (yaa_ BK322.out 0).trans rfl, (yaa_ BK322.out 1).trans rfl, ((HB.out.cell (World.block_lt_of_cell? w _ hw331_0)).trans hw331_0), ((HB.out.cell (World.block_lt_of_cell? w _ hw331_1)).trans hw331_1), ((HB.out.cell (World.block_lt_of_cell? w _ hw332_0)).trans hw332_0), ((HB.out.cell (World.block_lt_of_cell? w _ hw332_1)).trans hw332_1)⟩ (fun hHeld => ?_); refine with_tabW soritesref10_Greater.tab11 soritesref10_Greater.bits11 (fun HT_ HW_ => ?_)
               generalize wr.drew = w50 at BK321 BK322 HB HR331_1 HR332_1 hx331_0 hx331_1 hx332_0 hx332_1 hHeld ⊢
               refine pa_ 0 63 HT_ ?_
               refine pa_ 2 65 HT_ ?_
               refine pa_ 5 68 HT_ ?_
               refine pa_ 7 70 HT_ ?_
               refine ta8_ 1 64 HT_ HW_ hHeld ?_
               refine pa_ 3 66 HT_ ?_
               refine ta8_ 4 67 HT_ HW_ hHeld ?_
               refine ta8_ 6 69 HT_ HW_ hHeld ?_
               refine pa_ 8 71 HT_ ?_
               refine ta8_ 9 72 HT_ HW_ hHeld ?_
               refine one_ (i := 10) (N := some 73) #[true, true, true, true, true, true, true, true, true, true, true] rfl rfl (one_of HT_.out (by kernel_rfl)) (by decide) (fun K hK => ?_)
               refine goes_ Try.func28 (by kernel_rfl) rfl #[.agg #[.int .i64 ((rd_T24 l0_1 x7_3).f0), .slice A331_1 ((rd_T24 l0_1 x7_3).f1).length c331_1], .agg #[.int .i64 ((rd_T24 l1_1 x7_3).f0), .slice A332_1 ((rd_T24 l1_1 x7_3).f1).length c332_1]] (by rfl) rfl rfl mq_ ?_
               with_reducible refine (soritesref06_Same.calls k3 ((rd_T24 l0_1 x7_3).f0) _ _ ((rd_T24 l0_1 x7_3).f1) ((rd_T24 l1_1 x7_3).f0) _ _ ((rd_T24 l1_1 x7_3).f1) false _ ?side1 ?side2 ?side3 ?side4 A45.out).mono ?_
               (case side1 => exact cq_ (Kd.C_below HR331_1.out HB.out))
               (case side2 => exact HC331_1.out)
               (case side3 => exact cq_ (Kd.C_below HR332_1.out HB.out))
               (case side4 => exact HC332_1.out)
               rintro e w51 ⟨rfl, hb⟩
               refine ⟨_, rfl, ?_⟩
               replace BK321 := kb_ BK321 hb
               replace BK322 := kb_ BK322 hb
               replace HB := Az_.mk (bT_ (bq2_ HB GE321 GE322) hb)
               (try clear hb)
               (try clear hb2)
               (try clear hk)
               (try clear hi)
               refine hK.out _ _ ⟨(yaa_ BK321.out 0).trans rfl, (yaa_ BK321.out 1).trans rfl, (yaa_ BK322.out 0).trans rfl, (yaa_ BK322.out 1).trans rfl, ((HB.out.cell (World.block_lt_of_cell? w _ hw331_0)).trans hw331_0), ((HB.out.cell (World.block_lt_of_cell? w _ hw331_1)).trans hw331_1), ((HB.out.cell (World.block_lt_of_cell? w _ hw332_0)).trans hw332_0), ((HB.out.cell (World.block_lt_of_cell? w _ hw332_1)).trans hw332_1)⟩ (fun hHeld => ?_)
               clear hK K
               refine norm_ (a' := ?_) ?_ ?_
               rotate_left
               ·show Act.put _ (some 73) _ = _
                simp only [Act.put, sA_, sZ_, sS_, i64_w, i32_w]
                rfl
               refine done_ (done_of HT_.out (by kernel_rfl)) ?_
               try go_wp2
               replace BK321 := Az_.mk (kD_ BK321.out)
               replace BK322 := Az_.mk (kD_ BK322.out)
               replace HB := Az_.mk (bD_ HB.out)
               have p334 : 0 ≤ (x7_3 : Int) := of_decide_eq_true (by first | (with_reducible assumption) | assumption)
               have q334 : x7_3 < (l0_1.length : Int) := of_decide_eq_true (by first | (with_reducible assumption) | assumption)
               obtain ⟨ad334, A334_1, c334_1, e334, hx334_0, hx334_1, hl334_1, hi334_1⟩ := at_T24 HR0_1.out x7_3 p334 q334
               have hw334_1 := hx334_1
               have hw334_0 := hx334_0
               obtain rfl : ad331 = ad334 := (by injection e334)
               replace hx334_0 := (HB.out.cell (World.block_lt_of_cell? w _ hx334_0)).trans hx334_0
               replace hx334_1 := (HB.out.cell (World.block_lt_of_cell? w _ hx334_1)).trans hx334_1
               have HR334_1 := Az_.mk hi334_1
               have HC334_1 := Az_.mk hl334_1
               clear hi334_1 hl334_1
               replace p334 := eq_true p334
               replace q334 := eq_true q334
               have p335 : 0 ≤ (x7_3 : Int) := of_decide_eq_true (by first | (with_reducible assumption) | assumption)
               have q335 : x7_3 < (l1_1.length : Int) := of_decide_eq_true (by first | (with_reducible assumption) | assumption)
               obtain ⟨ad335, A335_1, c335_1, e335, hx335_0, hx335_1, hl335_1, hi335_1⟩ := at_T24 HR1_1.out x7_3 p335 q335
               have hw335_1 := hx335_1
               have hw335_0 := hx335_0
               obtain rfl : ad332 = ad335 := (by injection e335)
               replace hx335_0 := (HB.out.cell (World.block_lt_of_cell? w _ hx335_0)).trans hx335_0
               replace hx335_1 := (HB.out.cell (World.block_lt_of_cell? w _ hx335_1)).trans hx335_1
               have HR335_1 := Az_.mk hi335_1
               have HC335_1 := Az_.mk hl335_1
               clear hi335_1 hl335_1
               replace p335 := eq_true p335
               replace q335 := eq_true q335
               refine start_ (n := 12) (S := fun w' => w'.cell? ⟨gb321, 0, none⟩ = some (.int .i64 a0_0) ∧ w'.cell? ⟨gb321, 1, none⟩ = some (.slice (some ad331) l0_1.length c0_1) ∧ w'.cell? ⟨gb322, 0, none⟩ = some (.int .i64 a1_0) ∧ w'.cell? ⟨gb322, 1, none⟩ = some (.slice (some ad332) l1_1.length c1_1) ∧ w'.cell? (ad331.add ((x7_3).toNat * 2)) = some (.int .i64 ((rd_T24 l0_1 x7_3).f0)) ∧ w'.cell? ⟨(ad331.add ((x7_3).toNat * 2)).block, (ad331.add ((x7_3).toNat * 2)).off + 1, none⟩ = some (.slice A334_1 ((rd_T24 l0_1 x7_3).f1).length c334_1) ∧ w'.cell? (ad332.add ((x7_3).toNat * 2)) = some (.int .i64 ((rd_T24 l1_1 x7_3).f0)) ∧ w'.cell? ⟨(ad332.add ((x7_3).toNat * 2)).block, (ad332.add ((x7_3).toNat * 2)).off + 1, none⟩ = some (.slice A335_1 ((rd_T24 l1_1 x7_3).f1).length c335_1)) (ds := []) #[false, false, false, false, false, false, false, false, false, false, false, false] (by kernel_rfl) rfl rfl ⟨(yaa_ BK321.out 0).trans rfl, (yaa_ BK321.out 1).trans rfl, (yaa_ BK322.out 0).trans rfl, (yaa_ BK322.out 1).trans rfl, ((HB.out.cell (World.block_lt_of_cell? w _ hw334_0)).trans hw334_0), ((HB.out.cell (World.block_lt_of_cell? w _ hw334_1)).trans hw334_1), ((HB.out.cell (World.block_lt_of_cell? w _ hw335_0)).trans hw335_0), ((HB.out.cell (World.block_lt_of_cell? w _ hw335_1)).trans hw335_1)⟩ (fun hHeld => ?_); refine with_tabW soritesref10_Greater.tab13 soritesref10_Greater.bits13 (fun HT_ HW_ => ?_)
               generalize w51.drew = w52 at BK321 BK322 HB HR334_1 HR335_1 hx334_0 hx334_1 hx335_0 hx335_1 hHeld ⊢
               refine pa_ 0 76 HT_ ?_
               refine pa_ 2 78 HT_ ?_
               refine pa_ 5 81 HT_ ?_
               refine pa_ 7 83 HT_ ?_
               refine ta8_ 1 77 HT_ HW_ hHeld ?_
               refine pa_ 3 79 HT_ ?_
               refine ta8_ 4 80 HT_ HW_ hHeld ?_
               refine ta8_ 6 82 HT_ HW_ hHeld ?_
               refine pa_ 8 84 HT_ ?_
               refine ta8_ 9 85 HT_ HW_ hHeld ?_
               refine one_ (i := 10) (N := some 86) #[true, true, true, true, true, true, true, true, true, true, true, false] rfl rfl (one_of HT_.out (by kernel_rfl)) (by decide) (fun K hK => ?_)
               refine goes_ Try.func42 (by kernel_rfl) rfl #[.agg #[.int .i64 ((rd_T24 l0_1 x7_3).f0), .slice A334_1 ((rd_T24 l0_1 x7_3).f1).length c334_1], .agg #[.int .i64 ((rd_T24 l1_1 x7_3).f0), .slice A335_1 ((rd_T24 l1_1 x7_3).f1).length c335_1]] (by rfl) rfl rfl mq_ ?_
               with_reducible refine (ih k3 (by have := HJ2.out; have := HJ22.out; have := HK3.out; omega) ((rd_T24 l0_1 x7_3).f0) _ _ ((rd_T24 l0_1 x7_3).f1) ((rd_T24 l1_1 x7_3).f0) _ _ ((rd_T24 l1_1 x7_3).f1) t336 _ ?side1 ?side2 ?side3 ?side4 A49.out).mono ?_
               (case side1 => exact cq_ (Kd.C_below HR334_1.out HB.out))
               (case side2 => exact HC334_1.out)
               (case side3 => exact cq_ (Kd.C_below HR335_1.out HB.out))
               (case side4 => exact HC335_1.out)
               rintro e w53 ⟨rfl, hb⟩
               refine ⟨_, rfl, ?_⟩
               replace BK321 := kb_ BK321 hb
               replace BK322 := kb_ BK322 hb
               replace HB := Az_.mk (bT_ (bq2_ HB GE321 GE322) hb)
               (try clear hb)
               (try clear hb2)
               (try clear hk)
               (try clear hi)
               refine hK.out _ _ ⟨(yaa_ BK321.out 0).trans rfl, (yaa_ BK321.out 1).trans rfl, (yaa_ BK322.out 0).trans rfl, (yaa_ BK322.out 1).trans rfl, ((HB.out.cell (World.block_lt_of_cell? w _ hw334_0)).trans hw334_0), ((HB.out.cell (World.block_lt_of_cell? w _ hw334_1)).trans hw334_1), ((HB.out.cell (World.block_lt_of_cell? w _ hw335_0)).trans hw335_0), ((HB.out.cell (World.block_lt_of_cell? w _ hw335_1)).trans hw335_1)⟩ (fun hHeld => ?_)
               clear hK K
               refine norm_ (a' := ?_) ?_ ?_
               rotate_left
               ·show Act.put _ (some 86) _ = _
                simp only [Act.put, sA_, sZ_, sS_, i64_w, i32_w]
                rfl
               refine pa_ 11 4 HT_ ?_
               refine done_ (done_of HT_.out (by kernel_rfl)) ?_
               try go_wp2
               go_ret
               exact ⟨by first | rfl | (simp [yad_, yac_] <;> rfl) | (simp [*, yad_, yac_] <;> rfl), bq2_ HB GE321 GE322⟩
             ·rw [if_neg c44] at H
              exact absurd H (by simp)
            ·rw [if_neg c43] at H
             exact absurd H (by simp)
           ·rw [if_neg c42] at H
            exact absurd H (by simp)
        ·rw [if_neg c38] at H
         have c38b0 : ((l0_1.length : Int) == (l1_1.length : Int)) = false := beq_eq_false_iff_ne.mpr c38
         have c38b1 : ((l0_1.length : Int) != (l1_1.length : Int)) = true := bne_iff_ne.mpr c38
         have c38b2 : (l0_1.length == l1_1.length) = false := by first | simpa using c38 | (simp at c38 ⊢; omega)
         obtain rfl := Option.some.inj H
         have hnb54 := NB321_322.out
         have hnc54 := NB322_321.out
         obtain ⟨hcz55_0, hcz55_1, hfz55_0, hfz55_1⟩ := cz2_ BK321
         obtain ⟨hcz56_0, hcz56_1, hfz56_0, hfz56_1⟩ := cz2_ BK322
         go_wp2
         go_ret
         exact ⟨by first | rfl | (simp [yad_, yac_] <;> rfl) | (simp [*, yad_, yac_] <;> rfl), bq2_ HB GE321 GE322⟩
       ·rw [if_neg c37] at H
        have c37b0 : (a0_0 == a1_0) = false := beq_eq_false_iff_ne.mpr c37
        have c37b1 : (a0_0 != a1_0) = true := bne_iff_ne.mpr c37
        obtain rfl := Option.some.inj H
        have hnb57 := NB321_322.out
        have hnc57 := NB322_321.out
        obtain ⟨hcz58_0, hcz58_1, hfz58_0, hfz58_1⟩ := cz2_ BK321
        obtain ⟨hcz59_0, hcz59_1, hfz59_0, hfz59_1⟩ := cz2_ BK322
        go_wp2
        go_ret
        exact ⟨by first | rfl | (simp [yad_, yac_] <;> rfl) | (simp [*, yad_, yac_] <;> rfl), bq2_ HB GE321 GE322⟩
end
section
attribute [local go_sem] max2_int min2_int max_two min_two yal_ yak_ max_four min_four
def soritesref10_Compare.f (k : Nat) (a0_0 : Int) (l0_1 : List (S24)) (a1_0 : Int) (l1_1 : List (S24)) : Option (Int) := (soritesref06_Same.f k a0_0 l0_1 a1_0 l1_1).bind fun t339 => (if t339 = true then (some 0) else ((soritesref10_Greater.f k a0_0 l0_1 a1_0 l1_1).bind fun t340 => (if t340 = true then (some 1) else ((soritesref10_Greater.f k a1_0 l1_1 a0_0 l0_1).bind fun t341 => (if t341 = true then (some (-1)) else (some 2))))))
set_option maxHeartbeats 8000000 in
set_option maxRecDepth 100000 in
theorem soritesref10_Compare.calls (k : Nat) (a0_0 : Int) (A0_1 : Option Addr) (c0_1 : Nat) (l0_1 : List (S24)) (a1_0 : Int) (A1_1 : Option Addr) (c1_1 : Nat) (l1_1 : List (S24)) (r : Int) (w : World) (hr0_1 : Kd.C k24 w A0_1 l0_1.length l0_1) (hc0_1 : l0_1.length ≤ c0_1) (hr1_1 : Kd.C k24 w A1_1 l1_1.length l1_1) (hc1_1 : l1_1.length ≤ c1_1) (h : soritesref10_Compare.f k a0_0 l0_1 a1_0 l1_1 = some r) :
  Calls Try.prog 44 #[.agg #[.int .i64 a0_0, .slice A0_1 l0_1.length c0_1], .agg #[.int .i64 a1_0, .slice A1_1 l1_1.length c1_1]] w fun e w' => e = .returned (.int .i64 r) ∧ Below w.heap.size w w' := by
 have hu24 := Try.underlying24
 have HR0_1 := Az_.mk hr0_1
 have HC0_1 := Az_.mk hc0_1
 clear hr0_1 hc0_1
 have HR1_1 := Az_.mk hr1_1
 have HC1_1 := Az_.mk hc1_1
 clear hr1_1 hc1_1
 have HB := Az_.mk (Below.refl w.heap.size w)
 have H : ((soritesref06_Same.f k a0_0 l0_1 a1_0 l1_1).bind fun t339 => (if t339 = true then (some 0) else ((soritesref10_Greater.f k a0_0 l0_1 a1_0 l1_1).bind fun t340 => (if t340 = true then (some 1) else ((soritesref10_Greater.f k a1_0 l1_1 a0_0 l0_1).bind fun t341 => (if t341 = true then (some (-1)) else (some 2))))))) = some r := h
 clear h
 replace H := Option.bind_eq_some_iff.mp H
 obtain ⟨t339, A30, H⟩ := H
 replace H : (if t339 = true then (some 0) else ((soritesref10_Greater.f k a0_0 l0_1 a1_0 l1_1).bind fun t340 => (if t340 = true then (some 1) else ((soritesref10_Greater.f k a1_0 l1_1 a0_0 l0_1).bind fun t341 => (if t341 = true then (some (-1)) else (some 2)))))) = some r := H
 have A3 := Az_.mk A30
 clear A30
 by_cases c4 : t339 = true
 ·subst c4
  have H1 : (some 0) = some r := by rw [if_pos rfl] at H; exact H
  clear H
  have H := H1
  clear H1
  obtain rfl := Option.some.inj H
  go_enter Try.func44, Try.ntmps44
  go_wp2_with (first | ((with_reducible refine yag_ (N := 2) rfl ?_); refine yah_ ?hg (N := 2) ?hd (cs := #[.int .i64 a0_0, .slice A0_1 l0_1.length c0_1]) (t := 24) ?hr ?_; (case hd => rfl); (case hg => rfl); (case hr => exact rq_); intro gb337 hg w5 hbox hb; have BK337 := Az_.mk (hbox); have GW337 := Az_.mk ((by rw [hg]; exact (bZ_ (bq_ HB)) : w.heap.size ≤ gb337)); have GE337 := Az_.mk ((by rw [hg]; exact (bZ_ (bq_ HB)) : w.heap.size ≤ gb337)); replace HB := Az_.mk (bT_ (bq_ HB) hb); clear hb hbox hg) | ((with_reducible refine yag_ (N := 3) rfl ?_); refine yah_ ?hg (N := 3) ?hd (cs := #[.int .i64 a1_0, .slice A1_1 l1_1.length c1_1]) (t := 24) ?hr ?_; (case hd => rfl); (case hg => rfl); (case hr => exact rq_); intro gb338 hg w6 hbox hb; have BK338 := Az_.mk (hbox); have GW338 := Az_.mk ((by rw [hg]; exact (bZ_ (bq1_ HB GE337)) : w.heap.size ≤ gb338)); have GE338 := Az_.mk ((by rw [hg]; exact (bZ_ (bq1_ HB GE337)) : w.heap.size ≤ gb338)); replace HB := Az_.mk (bT_ (bq1_ HB GE337) hb); have NB337_338 := Az_.mk ((by rw [hg]; exact Nat.ne_of_lt (blk_lt (g := gb337) (o := .cells #[.int .i64 a0_0, .slice A0_1 l0_1.length c0_1] 24 (0, 0)) (kq_ BK337)) : gb337 ≠ gb338)); have NB338_337 := Az_.mk ((by rw [hg]; exact Nat.ne_of_gt (blk_lt (g := gb337) (o := .cells #[.int .i64 a0_0, .slice A0_1 l0_1.length c0_1] 24 (0, 0)) (kq_ BK337)) : gb338 ≠ gb337)); replace BK337 := kb_ BK337 hb; clear hb hbox hg; have hnb7 := NB337_338.out; have hnc7 := NB338_337.out; obtain ⟨hcz8_0, hcz8_1, hfz8_0, hfz8_1⟩ := cz2_ BK337; obtain ⟨hcz9_0, hcz9_1, hfz9_0, hfz9_1⟩ := cz2_ BK338) | ((with_reducible refine yaf_ (f := 28) rfl ?_); refine goesL_ (some 7) rfl rfl Try.func28 (by kernel_rfl) rfl #[.agg #[.int .i64 a0_0, .slice A0_1 l0_1.length c0_1], .agg #[.int .i64 a1_0, .slice A1_1 l1_1.length c1_1]] rfl mq_ ?_; (with_reducible refine (soritesref06_Same.calls k a0_0 _ _ l0_1 a1_0 _ _ l1_1 true _ ?side1 ?side2 ?side3 ?side4 A3.out).mono ?_); (case side1 => exact cq_ (Kd.C_below HR0_1.out HB.out)); (case side2 => exact HC0_1.out); (case side3 => exact cq_ (Kd.C_below HR1_1.out HB.out)); (case side4 => exact HC1_1.out); rintro e w10 ⟨rfl, hb⟩; refine ⟨_, rfl, ?_⟩; replace BK337 := kb_ BK337 hb; replace BK338 := kb_ BK338 hb; replace HB := Az_.mk (bT_ (bq2_ HB GE337 GE338) hb); (try clear hb); (try clear hb2); (try clear hk); (try clear hi)))
  go_ret
  exact ⟨by first | rfl | (simp [yad_, yac_] <;> rfl) | (simp [*, yad_, yac_] <;> rfl), bq2_ HB GE337 GE338⟩
 ·replace c4 := Bool.eq_false_iff.mpr c4
  subst c4
  have H1 : ((soritesref10_Greater.f k a0_0 l0_1 a1_0 l1_1).bind fun t340 => (if t340 = true then (some 1) else ((soritesref10_Greater.f k a1_0 l1_1 a0_0 l0_1).bind fun t341 => (if t341 = true then (some (-1)) else (some 2))))) = some r := by rw [if_neg (show ¬ (false = true) by decide)] at H; exact H
  clear H
  have H := H1
  clear H1
  replace H := Option.bind_eq_some_iff.mp H
  obtain ⟨t340, A110, H⟩ := H
  replace H : (if t340 = true then (some 1) else ((soritesref10_Greater.f k a1_0 l1_1 a0_0 l0_1).bind fun t341 => (if t341 = true then (some (-1)) else (some 2)))) = some r := H
  have A11 := Az_.mk A110
  clear A110
  by_cases c12 : t340 = true
  ·subst c12
   have H1 : (some 1) = some r := by rw [if_pos rfl] at H; exact H
   clear H
   have H := H1
   clear H1
   obtain rfl := Option.some.inj H
   go_enter Try.func44, Try.ntmps44
   go_wp2_with (first | ((with_reducible refine yag_ (N := 2) rfl ?_); refine yah_ ?hg (N := 2) ?hd (cs := #[.int .i64 a0_0, .slice A0_1 l0_1.length c0_1]) (t := 24) ?hr ?_; (case hd => rfl); (case hg => rfl); (case hr => exact rq_); intro gb337 hg w13 hbox hb; have BK337 := Az_.mk (hbox); have GW337 := Az_.mk ((by rw [hg]; exact (bZ_ (bq_ HB)) : w.heap.size ≤ gb337)); have GE337 := Az_.mk ((by rw [hg]; exact (bZ_ (bq_ HB)) : w.heap.size ≤ gb337)); replace HB := Az_.mk (bT_ (bq_ HB) hb); clear hb hbox hg) | ((with_reducible refine yag_ (N := 3) rfl ?_); refine yah_ ?hg (N := 3) ?hd (cs := #[.int .i64 a1_0, .slice A1_1 l1_1.length c1_1]) (t := 24) ?hr ?_; (case hd => rfl); (case hg => rfl); (case hr => exact rq_); intro gb338 hg w14 hbox hb; have BK338 := Az_.mk (hbox); have GW338 := Az_.mk ((by rw [hg]; exact (bZ_ (bq1_ HB GE337)) : w.heap.size ≤ gb338)); have GE338 := Az_.mk ((by rw [hg]; exact (bZ_ (bq1_ HB GE337)) : w.heap.size ≤ gb338)); replace HB := Az_.mk (bT_ (bq1_ HB GE337) hb); have NB337_338 := Az_.mk ((by rw [hg]; exact Nat.ne_of_lt (blk_lt (g := gb337) (o := .cells #[.int .i64 a0_0, .slice A0_1 l0_1.length c0_1] 24 (0, 0)) (kq_ BK337)) : gb337 ≠ gb338)); have NB338_337 := Az_.mk ((by rw [hg]; exact Nat.ne_of_gt (blk_lt (g := gb337) (o := .cells #[.int .i64 a0_0, .slice A0_1 l0_1.length c0_1] 24 (0, 0)) (kq_ BK337)) : gb338 ≠ gb337)); replace BK337 := kb_ BK337 hb; clear hb hbox hg; have hnb15 := NB337_338.out; have hnc15 := NB338_337.out; obtain ⟨hcz16_0, hcz16_1, hfz16_0, hfz16_1⟩ := cz2_ BK337; obtain ⟨hcz17_0, hcz17_1, hfz17_0, hfz17_1⟩ := cz2_ BK338) | ((with_reducible refine yaf_ (f := 28) rfl ?_); refine goesL_ (some 7) rfl rfl Try.func28 (by kernel_rfl) rfl #[.agg #[.int .i64 a0_0, .slice A0_1 l0_1.length c0_1], .agg #[.int .i64 a1_0, .slice A1_1 l1_1.length c1_1]] rfl mq_ ?_; (with_reducible refine (soritesref06_Same.calls k a0_0 _ _ l0_1 a1_0 _ _ l1_1 false _ ?side1 ?side2 ?side3 ?side4 A3.out).mono ?_); (case side1 => exact cq_ (Kd.C_below HR0_1.out HB.out)); (case side2 => exact HC0_1.out); (case side3 => exact cq_ (Kd.C_below HR1_1.out HB.out)); (case side4 => exact HC1_1.out); rintro e w18 ⟨rfl, hb⟩; refine ⟨_, rfl, ?_⟩; replace BK337 := kb_ BK337 hb; replace BK338 := kb_ BK338 hb; replace HB := Az_.mk (bT_ (bq2_ HB GE337 GE338) hb); (try clear hb); (try clear hb2); (try clear hk); (try clear hi); obtain ⟨hcz19_0, hcz19_1, hfz19_0, hfz19_1⟩ := cz2_ BK337; obtain ⟨hcz20_0, hcz20_1, hfz20_0, hfz20_1⟩ := cz2_ BK338) | ((with_reducible refine yaf_ (f := 42) rfl ?_); refine goesL_ (some 10) rfl rfl Try.func42 (by kernel_rfl) rfl #[.agg #[.int .i64 a0_0, .slice A0_1 l0_1.length c0_1], .agg #[.int .i64 a1_0, .slice A1_1 l1_1.length c1_1]] rfl mq_ ?_; (with_reducible refine (soritesref10_Greater.calls k a0_0 _ _ l0_1 a1_0 _ _ l1_1 true _ ?side1 ?side2 ?side3 ?side4 A11.out).mono ?_); (case side1 => exact cq_ (Kd.C_below HR0_1.out HB.out)); (case side2 => exact HC0_1.out); (case side3 => exact cq_ (Kd.C_below HR1_1.out HB.out)); (case side4 => exact HC1_1.out); rintro e w21 ⟨rfl, hb⟩; refine ⟨_, rfl, ?_⟩; replace BK337 := kb_ BK337 hb; replace BK338 := kb_ BK338 hb; replace HB := Az_.mk (bT_ (bq2_ HB GE337 GE338) hb); (try clear hb); (try clear hb2); (try clear hk); (try clear hi)))
   go_ret
   exact ⟨by first | rfl | (simp [yad_, yac_] <;> rfl) | (simp [*, yad_, yac_] <;> rfl), bq2_ HB GE337 GE338⟩
  ·replace c12 := Bool.eq_false_iff.mpr c12
   subst c12
   have H1 : ((soritesref10_Greater.f k a1_0 l1_1 a0_0 l0_1).bind fun t341 => (if t341 = true then (some (-1)) else (some 2))) = some r := by rw [if_neg (show ¬ (false = true) by decide)] at H; exact H
   clear H
   have H := H1
   clear H1
   replace H := Option.bind_eq_some_iff.mp H
   obtain ⟨t341, A220, H⟩ := H
   replace H : (if t341 = true then (some (-1)) else (some 2)) = some r := H
   have A22 := Az_.mk A220
   clear A220
   by_cases c23 : t341 = true
   ·subst c23
    have H1 : (some (-1)) = some r := by rw [if_pos rfl] at H; exact H
    clear H
    have H := H1
    clear H1
    obtain rfl := Option.some.inj H
    go_enter Try.func44, Try.ntmps44
    go_wp2_with (first | ((with_reducible refine yag_ (N := 2) rfl ?_); refine yah_ ?hg (N := 2) ?hd (cs := #[.int .i64 a0_0, .slice A0_1 l0_1.length c0_1]) (t := 24) ?hr ?_; (case hd => rfl); (case hg => rfl); (case hr => exact rq_); intro gb337 hg w24 hbox hb; have BK337 := Az_.mk (hbox); have GW337 := Az_.mk ((by rw [hg]; exact (bZ_ (bq_ HB)) : w.heap.size ≤ gb337)); have GE337 := Az_.mk ((by rw [hg]; exact (bZ_ (bq_ HB)) : w.heap.size ≤ gb337)); replace HB := Az_.mk (bT_ (bq_ HB) hb); clear hb hbox hg) | ((with_reducible refine yag_ (N := 3) rfl ?_); refine yah_ ?hg (N := 3) ?hd (cs := #[.int .i64 a1_0, .slice A1_1 l1_1.length c1_1]) (t := 24) ?hr ?_; (case hd => rfl); (case hg => rfl); (case hr => exact rq_); intro gb338 hg w25 hbox hb; have BK338 := Az_.mk (hbox); have GW338 := Az_.mk ((by rw [hg]; exact (bZ_ (bq1_ HB GE337)) : w.heap.size ≤ gb338)); have GE338 := Az_.mk ((by rw [hg]; exact (bZ_ (bq1_ HB GE337)) : w.heap.size ≤ gb338)); replace HB := Az_.mk (bT_ (bq1_ HB GE337) hb); have NB337_338 := Az_.mk ((by rw [hg]; exact Nat.ne_of_lt (blk_lt (g := gb337) (o := .cells #[.int .i64 a0_0, .slice A0_1 l0_1.length c0_1] 24 (0, 0)) (kq_ BK337)) : gb337 ≠ gb338)); have NB338_337 := Az_.mk ((by rw [hg]; exact Nat.ne_of_gt (blk_lt (g := gb337) (o := .cells #[.int .i64 a0_0, .slice A0_1 l0_1.length c0_1] 24 (0, 0)) (kq_ BK337)) : gb338 ≠ gb337)); replace BK337 := kb_ BK337 hb; clear hb hbox hg; have hnb26 := NB337_338.out; have hnc26 := NB338_337.out; obtain ⟨hcz27_0, hcz27_1, hfz27_0, hfz27_1⟩ := cz2_ BK337; obtain ⟨hcz28_0, hcz28_1, hfz28_0, hfz28_1⟩ := cz2_ BK338) | ((with_reducible refine yaf_ (f := 28) rfl ?_); refine goesL_ (some 7) rfl rfl Try.func28 (by kernel_rfl) rfl #[.agg #[.int .i64 a0_0, .slice A0_1 l0_1.length c0_1], .agg #[.int .i64 a1_0, .slice A1_1 l1_1.length c1_1]] rfl mq_ ?_; (with_reducible refine (soritesref06_Same.calls k a0_0 _ _ l0_1 a1_0 _ _ l1_1 false _ ?side1 ?side2 ?side3 ?side4 A3.out).mono ?_); (case side1 => exact cq_ (Kd.C_below HR0_1.out HB.out)); (case side2 => exact HC0_1.out); (case side3 => exact cq_ (Kd.C_below HR1_1.out HB.out)); (case side4 => exact HC1_1.out); rintro e w29 ⟨rfl, hb⟩; refine ⟨_, rfl, ?_⟩; replace BK337 := kb_ BK337 hb; replace BK338 := kb_ BK338 hb; replace HB := Az_.mk (bT_ (bq2_ HB GE337 GE338) hb); (try clear hb); (try clear hb2); (try clear hk); (try clear hi); obtain ⟨hcz30_0, hcz30_1, hfz30_0, hfz30_1⟩ := cz2_ BK337; obtain ⟨hcz31_0, hcz31_1, hfz31_0, hfz31_1⟩ := cz2_ BK338) | ((with_reducible refine yaf_ (f := 42) rfl ?_); refine goesL_ (some 10) rfl rfl Try.func42 (by kernel_rfl) rfl #[.agg #[.int .i64 a0_0, .slice A0_1 l0_1.length c0_1], .agg #[.int .i64 a1_0, .slice A1_1 l1_1.length c1_1]] rfl mq_ ?_; (with_reducible refine (soritesref10_Greater.calls k a0_0 _ _ l0_1 a1_0 _ _ l1_1 false _ ?side1 ?side2 ?side3 ?side4 A11.out).mono ?_); (case side1 => exact cq_ (Kd.C_below HR0_1.out HB.out)); (case side2 => exact HC0_1.out); (case side3 => exact cq_ (Kd.C_below HR1_1.out HB.out)); (case side4 => exact HC1_1.out); rintro e w32 ⟨rfl, hb⟩; refine ⟨_, rfl, ?_⟩; replace BK337 := kb_ BK337 hb; replace BK338 := kb_ BK338 hb; replace HB := Az_.mk (bT_ (bq2_ HB GE337 GE338) hb); (try clear hb); (try clear hb2); (try clear hk); (try clear hi); obtain ⟨hcz33_0, hcz33_1, hfz33_0, hfz33_1⟩ := cz2_ BK338; obtain ⟨hcz34_0, hcz34_1, hfz34_0, hfz34_1⟩ := cz2_ BK337) | ((with_reducible refine yaf_ (f := 42) rfl ?_); refine goesL_ (some 13) rfl rfl Try.func42 (by kernel_rfl) rfl #[.agg #[.int .i64 a1_0, .slice A1_1 l1_1.length c1_1], .agg #[.int .i64 a0_0, .slice A0_1 l0_1.length c0_1]] rfl mq_ ?_; (with_reducible refine (soritesref10_Greater.calls k a1_0 _ _ l1_1 a0_0 _ _ l0_1 true _ ?side1 ?side2 ?side3 ?side4 A22.out).mono ?_); (case side1 => exact cq_ (Kd.C_below HR1_1.out HB.out)); (case side2 => exact HC1_1.out); (case side3 => exact cq_ (Kd.C_below HR0_1.out HB.out)); (case side4 => exact HC0_1.out); rintro e w35 ⟨rfl, hb⟩; refine ⟨_, rfl, ?_⟩; replace BK337 := kb_ BK337 hb; replace BK338 := kb_ BK338 hb; replace HB := Az_.mk (bT_ (bq2_ HB GE337 GE338) hb); (try clear hb); (try clear hb2); (try clear hk); (try clear hi)))
    go_ret
    exact ⟨by first | rfl | (simp [yad_, yac_] <;> rfl) | (simp [*, yad_, yac_] <;> rfl), bq2_ HB GE337 GE338⟩
   ·replace c23 := Bool.eq_false_iff.mpr c23
    subst c23
    have H1 : (some 2) = some r := by rw [if_neg (show ¬ (false = true) by decide)] at H; exact H
    clear H
    have H := H1
    clear H1
    obtain rfl := Option.some.inj H
    go_enter Try.func44, Try.ntmps44
    go_wp2_with (first | ((with_reducible refine yag_ (N := 2) rfl ?_); refine yah_ ?hg (N := 2) ?hd (cs := #[.int .i64 a0_0, .slice A0_1 l0_1.length c0_1]) (t := 24) ?hr ?_; (case hd => rfl); (case hg => rfl); (case hr => exact rq_); intro gb337 hg w36 hbox hb; have BK337 := Az_.mk (hbox); have GW337 := Az_.mk ((by rw [hg]; exact (bZ_ (bq_ HB)) : w.heap.size ≤ gb337)); have GE337 := Az_.mk ((by rw [hg]; exact (bZ_ (bq_ HB)) : w.heap.size ≤ gb337)); replace HB := Az_.mk (bT_ (bq_ HB) hb); clear hb hbox hg) | ((with_reducible refine yag_ (N := 3) rfl ?_); refine yah_ ?hg (N := 3) ?hd (cs := #[.int .i64 a1_0, .slice A1_1 l1_1.length c1_1]) (t := 24) ?hr ?_; (case hd => rfl); (case hg => rfl); (case hr => exact rq_); intro gb338 hg w37 hbox hb; have BK338 := Az_.mk (hbox); have GW338 := Az_.mk ((by rw [hg]; exact (bZ_ (bq1_ HB GE337)) : w.heap.size ≤ gb338)); have GE338 := Az_.mk ((by rw [hg]; exact (bZ_ (bq1_ HB GE337)) : w.heap.size ≤ gb338)); replace HB := Az_.mk (bT_ (bq1_ HB GE337) hb); have NB337_338 := Az_.mk ((by rw [hg]; exact Nat.ne_of_lt (blk_lt (g := gb337) (o := .cells #[.int .i64 a0_0, .slice A0_1 l0_1.length c0_1] 24 (0, 0)) (kq_ BK337)) : gb337 ≠ gb338)); have NB338_337 := Az_.mk ((by rw [hg]; exact Nat.ne_of_gt (blk_lt (g := gb337) (o := .cells #[.int .i64 a0_0, .slice A0_1 l0_1.length c0_1] 24 (0, 0)) (kq_ BK337)) : gb338 ≠ gb337)); replace BK337 := kb_ BK337 hb; clear hb hbox hg; have hnb38 := NB337_338.out; have hnc38 := NB338_337.out; obtain ⟨hcz39_0, hcz39_1, hfz39_0, hfz39_1⟩ := cz2_ BK337; obtain ⟨hcz40_0, hcz40_1, hfz40_0, hfz40_1⟩ := cz2_ BK338) | ((with_reducible refine yaf_ (f := 28) rfl ?_); refine goesL_ (some 7) rfl rfl Try.func28 (by kernel_rfl) rfl #[.agg #[.int .i64 a0_0, .slice A0_1 l0_1.length c0_1], .agg #[.int .i64 a1_0, .slice A1_1 l1_1.length c1_1]] rfl mq_ ?_; (with_reducible refine (soritesref06_Same.calls k a0_0 _ _ l0_1 a1_0 _ _ l1_1 false _ ?side1 ?side2 ?side3 ?side4 A3.out).mono ?_); (case side1 => exact cq_ (Kd.C_below HR0_1.out HB.out)); (case side2 => exact HC0_1.out); (case side3 => exact cq_ (Kd.C_below HR1_1.out HB.out)); (case side4 => exact HC1_1.out); rintro e w41 ⟨rfl, hb⟩; refine ⟨_, rfl, ?_⟩; replace BK337 := kb_ BK337 hb; replace BK338 := kb_ BK338 hb; replace HB := Az_.mk (bT_ (bq2_ HB GE337 GE338) hb); (try clear hb); (try clear hb2); (try clear hk); (try clear hi); obtain ⟨hcz42_0, hcz42_1, hfz42_0, hfz42_1⟩ := cz2_ BK337; obtain ⟨hcz43_0, hcz43_1, hfz43_0, hfz43_1⟩ := cz2_ BK338) | ((with_reducible refine yaf_ (f := 42) rfl ?_); refine goesL_ (some 10) rfl rfl Try.func42 (by kernel_rfl) rfl #[.agg #[.int .i64 a0_0, .slice A0_1 l0_1.length c0_1], .agg #[.int .i64 a1_0, .slice A1_1 l1_1.length c1_1]] rfl mq_ ?_; (with_reducible refine (soritesref10_Greater.calls k a0_0 _ _ l0_1 a1_0 _ _ l1_1 false _ ?side1 ?side2 ?side3 ?side4 A11.out).mono ?_); (case side1 => exact cq_ (Kd.C_below HR0_1.out HB.out)); (case side2 => exact HC0_1.out); (case side3 => exact cq_ (Kd.C_below HR1_1.out HB.out)); (case side4 => exact HC1_1.out); rintro e w44 ⟨rfl, hb⟩; refine ⟨_, rfl, ?_⟩; replace BK337 := kb_ BK337 hb; replace BK338 := kb_ BK338 hb; replace HB := Az_.mk (bT_ (bq2_ HB GE337 GE338) hb); (try clear hb); (try clear hb2); (try clear hk); (try clear hi); obtain ⟨hcz45_0, hcz45_1, hfz45_0, hfz45_1⟩ := cz2_ BK338; obtain ⟨hcz46_0, hcz46_1, hfz46_0, hfz46_1⟩ := cz2_ BK337) | ((with_reducible refine yaf_ (f := 42) rfl ?_); refine goesL_ (some 13) rfl rfl Try.func42 (by kernel_rfl) rfl #[.agg #[.int .i64 a1_0, .slice A1_1 l1_1.length c1_1], .agg #[.int .i64 a0_0, .slice A0_1 l0_1.length c0_1]] rfl mq_ ?_; (with_reducible refine (soritesref10_Greater.calls k a1_0 _ _ l1_1 a0_0 _ _ l0_1 false _ ?side1 ?side2 ?side3 ?side4 A22.out).mono ?_); (case side1 => exact cq_ (Kd.C_below HR1_1.out HB.out)); (case side2 => exact HC1_1.out); (case side3 => exact cq_ (Kd.C_below HR0_1.out HB.out)); (case side4 => exact HC0_1.out); rintro e w47 ⟨rfl, hb⟩; refine ⟨_, rfl, ?_⟩; replace BK337 := kb_ BK337 hb; replace BK338 := kb_ BK338 hb; replace HB := Az_.mk (bT_ (bq2_ HB GE337 GE338) hb); (try clear hb); (try clear hb2); (try clear hk); (try clear hi)))
    go_ret
    exact ⟨by first | rfl | (simp [yad_, yac_] <;> rfl) | (simp [*, yad_, yac_] <;> rfl), bq2_ HB GE337 GE338⟩
end
end Go.Proofs.Ytpfddihcikiofaa.P
