/-
  NARROWER THAN 'FOR EVERY INPUT', by the rows' own cells (each row's printed sentence says how): TermPlaces: loops · TermCounts: loops · TermOrder: loops · TermSame: loops · TermPuts: loops · KboTells: loops · TermIs: loops · KboSizes: loops · KboRules: loops · KboTotal: loops · KboPlaces: loops · KboStable: loops · OrderLooks: loops · OrderMulti: loops · OrderTells: loops · OrderAtoms: loops · OrderRules: loops.
  DERIVED. THE GIVEN ROWS OF THIS SEAT. 17 by the template 'for every input the law returns true; each argument reads behind the call as it read before'; 0 by the template 'total and deterministic' (their statements: YtpfddihcikiofaaTotals.lean).
  GIVEN WITH THE SEED: the statements are not yours to turn. If you find one false, say at which input.
  Laid BY PROGRAM, IN A SANDBOX (cutbox-rows.mjs): the forced cells as the released guide's own fill.sh prints them over the translation 066e6207eef11afd… (all of the seat's roots in one cut). By AI agents, Wed Nov 11 2026. No macro, syntax, notation, axiom, sorry.
-/
import Derived.Test.YtpfddihcikiofaaChecked
import GoSem.Claim
import GoSem.ClaimJoined
import GoSem.ClaimMapViews
import Derived.JoinedTies
import Derived.KernelRfl
namespace Go.Proofs.Ytpfddihcikiofaa
/- THE CELL 'sum', in the pinned program and in every row, IS THE sha256 OF THE DUMP (.gsa) THAT YtpfddihcikiofaaProg.lean LOADS. Nothing in Lean hashes anything: it is a label: what it is worth is what the hold of that sum in a sandbox is worth. -/
noncomputable def Try.pinned : Pinned := { name := "ytpfddihcikiofaa", sum := "066e6207eef11afdb57e8e44530a8e34dfb1ee47533556ddd962993ea18df130", checked := Try.checked }
namespace Rows
def none {H : Type} : Left H := { results := [], args := [] }

/-- 'soriteslaw06.TermPlaces': WHATEVER THE INPUT: true; the input reads as it did. -/
def termPlacesSpec : ChangeSpec := { name := "termPlaces", fn := fun _ => fun
  | [d1, d2, d3, d4] => { results := [.lit (.bool true)], args := [d1, d2, d3, d4] }
  | _ => none }
def termPlacesRow : OpenClaim := { program := "ytpfddihcikiofaa", sum := "066e6207eef11afdb57e8e44530a8e34dfb1ee47533556ddd962993ea18df130", func := "sorites/soriteslaw06.TermPlaces", spec := "termPlaces", unfollowed := true, recurses := true, loops := true, apart := false }
def TermPlacesSaid : Prop := termPlacesRow.holds Try.pinned (OpenSpec.ofChange termPlacesSpec)

/-- ITS FALSE NEIGHBOUR: 'it returns false'. Refute it at one input. -/
def termPlacesWrong : ChangeSpec := { name := "termPlaces", fn := fun _ => fun
  | [d1, d2, d3, d4] => { results := [.lit (.bool false)], args := [d1, d2, d3, d4] }
  | _ => none }
def TermPlacesWrongFalsely : Prop := termPlacesRow.holds Try.pinned (OpenSpec.ofChange termPlacesWrong)

/-- 'soriteslaw06.TermCounts': WHATEVER THE INPUT: true; the input reads as it did. -/
def termCountsSpec : ChangeSpec := { name := "termCounts", fn := fun _ => fun
  | [d1, d2, d3] => { results := [.lit (.bool true)], args := [d1, d2, d3] }
  | _ => none }
def termCountsRow : OpenClaim := { program := "ytpfddihcikiofaa", sum := "066e6207eef11afdb57e8e44530a8e34dfb1ee47533556ddd962993ea18df130", func := "sorites/soriteslaw06.TermCounts", spec := "termCounts", unfollowed := true, recurses := true, loops := true, apart := false }
def TermCountsSaid : Prop := termCountsRow.holds Try.pinned (OpenSpec.ofChange termCountsSpec)

/-- ITS FALSE NEIGHBOUR: 'it returns false'. Refute it at one input. -/
def termCountsWrong : ChangeSpec := { name := "termCounts", fn := fun _ => fun
  | [d1, d2, d3] => { results := [.lit (.bool false)], args := [d1, d2, d3] }
  | _ => none }
def TermCountsWrongFalsely : Prop := termCountsRow.holds Try.pinned (OpenSpec.ofChange termCountsWrong)

/-- 'soriteslaw06.TermOrder': WHATEVER THE INPUT: true; the input reads as it did. -/
def termOrderSpec : ChangeSpec := { name := "termOrder", fn := fun _ => fun
  | [d1, d2, d3] => { results := [.lit (.bool true)], args := [d1, d2, d3] }
  | _ => none }
def termOrderRow : OpenClaim := { program := "ytpfddihcikiofaa", sum := "066e6207eef11afdb57e8e44530a8e34dfb1ee47533556ddd962993ea18df130", func := "sorites/soriteslaw06.TermOrder", spec := "termOrder", unfollowed := true, recurses := true, loops := true, apart := false }
def TermOrderSaid : Prop := termOrderRow.holds Try.pinned (OpenSpec.ofChange termOrderSpec)

/-- ITS FALSE NEIGHBOUR: 'it returns false'. Refute it at one input. -/
def termOrderWrong : ChangeSpec := { name := "termOrder", fn := fun _ => fun
  | [d1, d2, d3] => { results := [.lit (.bool false)], args := [d1, d2, d3] }
  | _ => none }
def TermOrderWrongFalsely : Prop := termOrderRow.holds Try.pinned (OpenSpec.ofChange termOrderWrong)

/-- 'soriteslaw06.TermSame': WHATEVER THE INPUT: true; the input reads as it did. -/
def termSameSpec : ChangeSpec := { name := "termSame", fn := fun _ => fun
  | [d1, d2, d3] => { results := [.lit (.bool true)], args := [d1, d2, d3] }
  | _ => none }
def termSameRow : OpenClaim := { program := "ytpfddihcikiofaa", sum := "066e6207eef11afdb57e8e44530a8e34dfb1ee47533556ddd962993ea18df130", func := "sorites/soriteslaw06.TermSame", spec := "termSame", unfollowed := true, recurses := true, loops := true, apart := false }
def TermSameSaid : Prop := termSameRow.holds Try.pinned (OpenSpec.ofChange termSameSpec)

/-- ITS FALSE NEIGHBOUR: 'it returns false'. Refute it at one input. -/
def termSameWrong : ChangeSpec := { name := "termSame", fn := fun _ => fun
  | [d1, d2, d3] => { results := [.lit (.bool false)], args := [d1, d2, d3] }
  | _ => none }
def TermSameWrongFalsely : Prop := termSameRow.holds Try.pinned (OpenSpec.ofChange termSameWrong)

/-- 'soriteslaw06.TermPuts': WHATEVER THE INPUT: true; the input reads as it did. -/
def termPutsSpec : ChangeSpec := { name := "termPuts", fn := fun _ => fun
  | [d1, d2, d3] => { results := [.lit (.bool true)], args := [d1, d2, d3] }
  | _ => none }
def termPutsRow : OpenClaim := { program := "ytpfddihcikiofaa", sum := "066e6207eef11afdb57e8e44530a8e34dfb1ee47533556ddd962993ea18df130", func := "sorites/soriteslaw06.TermPuts", spec := "termPuts", unfollowed := true, recurses := true, loops := true, apart := false }
def TermPutsSaid : Prop := termPutsRow.holds Try.pinned (OpenSpec.ofChange termPutsSpec)

/-- ITS FALSE NEIGHBOUR: 'it returns false'. Refute it at one input. -/
def termPutsWrong : ChangeSpec := { name := "termPuts", fn := fun _ => fun
  | [d1, d2, d3] => { results := [.lit (.bool false)], args := [d1, d2, d3] }
  | _ => none }
def TermPutsWrongFalsely : Prop := termPutsRow.holds Try.pinned (OpenSpec.ofChange termPutsWrong)

/-- 'soriteslaw10.KboTells': WHATEVER THE INPUT: true; the input reads as it did. -/
def kboTellsSpec : ChangeSpec := { name := "kboTells", fn := fun _ => fun
  | [d1, d2] => { results := [.lit (.bool true)], args := [d1, d2] }
  | _ => none }
def kboTellsRow : OpenClaim := { program := "ytpfddihcikiofaa", sum := "066e6207eef11afdb57e8e44530a8e34dfb1ee47533556ddd962993ea18df130", func := "sorites/soriteslaw10.KboTells", spec := "kboTells", unfollowed := true, recurses := true, loops := true, apart := false }
def KboTellsSaid : Prop := kboTellsRow.holds Try.pinned (OpenSpec.ofChange kboTellsSpec)

/-- ITS FALSE NEIGHBOUR: 'it returns false'. Refute it at one input. -/
def kboTellsWrong : ChangeSpec := { name := "kboTells", fn := fun _ => fun
  | [d1, d2] => { results := [.lit (.bool false)], args := [d1, d2] }
  | _ => none }
def KboTellsWrongFalsely : Prop := kboTellsRow.holds Try.pinned (OpenSpec.ofChange kboTellsWrong)

/-- 'soriteslaw06.TermIs': WHATEVER THE INPUT: true; the input reads as it did. -/
def termIsSpec : ChangeSpec := { name := "termIs", fn := fun _ => fun
  | [d1, d2, d3] => { results := [.lit (.bool true)], args := [d1, d2, d3] }
  | _ => none }
def termIsRow : OpenClaim := { program := "ytpfddihcikiofaa", sum := "066e6207eef11afdb57e8e44530a8e34dfb1ee47533556ddd962993ea18df130", func := "sorites/soriteslaw06.TermIs", spec := "termIs", unfollowed := true, recurses := true, loops := true, apart := false }
def TermIsSaid : Prop := termIsRow.holds Try.pinned (OpenSpec.ofChange termIsSpec)

/-- ITS FALSE NEIGHBOUR: 'it returns false'. Refute it at one input. -/
def termIsWrong : ChangeSpec := { name := "termIs", fn := fun _ => fun
  | [d1, d2, d3] => { results := [.lit (.bool false)], args := [d1, d2, d3] }
  | _ => none }
def TermIsWrongFalsely : Prop := termIsRow.holds Try.pinned (OpenSpec.ofChange termIsWrong)

/-- 'soriteslaw10.KboSizes': WHATEVER THE INPUT: true; the input reads as it did. -/
def kboSizesSpec : ChangeSpec := { name := "kboSizes", fn := fun _ => fun
  | [d1, d2, d3] => { results := [.lit (.bool true)], args := [d1, d2, d3] }
  | _ => none }
def kboSizesRow : OpenClaim := { program := "ytpfddihcikiofaa", sum := "066e6207eef11afdb57e8e44530a8e34dfb1ee47533556ddd962993ea18df130", func := "sorites/soriteslaw10.KboSizes", spec := "kboSizes", unfollowed := true, recurses := true, loops := true, apart := false }
def KboSizesSaid : Prop := kboSizesRow.holds Try.pinned (OpenSpec.ofChange kboSizesSpec)

/-- ITS FALSE NEIGHBOUR: 'it returns false'. Refute it at one input. -/
def kboSizesWrong : ChangeSpec := { name := "kboSizes", fn := fun _ => fun
  | [d1, d2, d3] => { results := [.lit (.bool false)], args := [d1, d2, d3] }
  | _ => none }
def KboSizesWrongFalsely : Prop := kboSizesRow.holds Try.pinned (OpenSpec.ofChange kboSizesWrong)

/-- 'soriteslaw10.KboRules': WHATEVER THE INPUT: true; the input reads as it did. -/
def kboRulesSpec : ChangeSpec := { name := "kboRules", fn := fun _ => fun
  | [d1, d2, d3] => { results := [.lit (.bool true)], args := [d1, d2, d3] }
  | _ => none }
def kboRulesRow : OpenClaim := { program := "ytpfddihcikiofaa", sum := "066e6207eef11afdb57e8e44530a8e34dfb1ee47533556ddd962993ea18df130", func := "sorites/soriteslaw10.KboRules", spec := "kboRules", unfollowed := true, recurses := true, loops := true, apart := false }
def KboRulesSaid : Prop := kboRulesRow.holds Try.pinned (OpenSpec.ofChange kboRulesSpec)

/-- ITS FALSE NEIGHBOUR: 'it returns false'. Refute it at one input. -/
def kboRulesWrong : ChangeSpec := { name := "kboRules", fn := fun _ => fun
  | [d1, d2, d3] => { results := [.lit (.bool false)], args := [d1, d2, d3] }
  | _ => none }
def KboRulesWrongFalsely : Prop := kboRulesRow.holds Try.pinned (OpenSpec.ofChange kboRulesWrong)

/-- 'soriteslaw10.KboTotal': WHATEVER THE INPUT: true; the input reads as it did. -/
def kboTotalSpec : ChangeSpec := { name := "kboTotal", fn := fun _ => fun
  | [d1, d2] => { results := [.lit (.bool true)], args := [d1, d2] }
  | _ => none }
def kboTotalRow : OpenClaim := { program := "ytpfddihcikiofaa", sum := "066e6207eef11afdb57e8e44530a8e34dfb1ee47533556ddd962993ea18df130", func := "sorites/soriteslaw10.KboTotal", spec := "kboTotal", unfollowed := true, recurses := true, loops := true, apart := false }
def KboTotalSaid : Prop := kboTotalRow.holds Try.pinned (OpenSpec.ofChange kboTotalSpec)

/-- ITS FALSE NEIGHBOUR: 'it returns false'. Refute it at one input. -/
def kboTotalWrong : ChangeSpec := { name := "kboTotal", fn := fun _ => fun
  | [d1, d2] => { results := [.lit (.bool false)], args := [d1, d2] }
  | _ => none }
def KboTotalWrongFalsely : Prop := kboTotalRow.holds Try.pinned (OpenSpec.ofChange kboTotalWrong)

/-- 'soriteslaw10.KboPlaces': WHATEVER THE INPUT: true; the input reads as it did. -/
def kboPlacesSpec : ChangeSpec := { name := "kboPlaces", fn := fun _ => fun
  | [d1, d2, d3] => { results := [.lit (.bool true)], args := [d1, d2, d3] }
  | _ => none }
def kboPlacesRow : OpenClaim := { program := "ytpfddihcikiofaa", sum := "066e6207eef11afdb57e8e44530a8e34dfb1ee47533556ddd962993ea18df130", func := "sorites/soriteslaw10.KboPlaces", spec := "kboPlaces", unfollowed := true, recurses := true, loops := true, apart := false }
def KboPlacesSaid : Prop := kboPlacesRow.holds Try.pinned (OpenSpec.ofChange kboPlacesSpec)

/-- ITS FALSE NEIGHBOUR: 'it returns false'. Refute it at one input. -/
def kboPlacesWrong : ChangeSpec := { name := "kboPlaces", fn := fun _ => fun
  | [d1, d2, d3] => { results := [.lit (.bool false)], args := [d1, d2, d3] }
  | _ => none }
def KboPlacesWrongFalsely : Prop := kboPlacesRow.holds Try.pinned (OpenSpec.ofChange kboPlacesWrong)

/-- 'soriteslaw10.KboStable': WHATEVER THE INPUT: true; the input reads as it did. -/
def kboStableSpec : ChangeSpec := { name := "kboStable", fn := fun _ => fun
  | [d1, d2, d3, d4, d5] => { results := [.lit (.bool true)], args := [d1, d2, d3, d4, d5] }
  | _ => none }
def kboStableRow : OpenClaim := { program := "ytpfddihcikiofaa", sum := "066e6207eef11afdb57e8e44530a8e34dfb1ee47533556ddd962993ea18df130", func := "sorites/soriteslaw10.KboStable", spec := "kboStable", unfollowed := true, recurses := true, loops := true, apart := false }
def KboStableSaid : Prop := kboStableRow.holds Try.pinned (OpenSpec.ofChange kboStableSpec)

/-- ITS FALSE NEIGHBOUR: 'it returns false'. Refute it at one input. -/
def kboStableWrong : ChangeSpec := { name := "kboStable", fn := fun _ => fun
  | [d1, d2, d3, d4, d5] => { results := [.lit (.bool false)], args := [d1, d2, d3, d4, d5] }
  | _ => none }
def KboStableWrongFalsely : Prop := kboStableRow.holds Try.pinned (OpenSpec.ofChange kboStableWrong)

/-- 'soriteslaw14.OrderLooks': WHATEVER THE INPUT: true; the input reads as it did. -/
def orderLooksSpec : ChangeSpec := { name := "orderLooks", fn := fun _ => fun
  | [d1, d2] => { results := [.lit (.bool true)], args := [d1, d2] }
  | _ => none }
def orderLooksRow : OpenClaim := { program := "ytpfddihcikiofaa", sum := "066e6207eef11afdb57e8e44530a8e34dfb1ee47533556ddd962993ea18df130", func := "sorites/soriteslaw14.OrderLooks", spec := "orderLooks", unfollowed := true, recurses := true, loops := true, apart := false }
def OrderLooksSaid : Prop := orderLooksRow.holds Try.pinned (OpenSpec.ofChange orderLooksSpec)

/-- ITS FALSE NEIGHBOUR: 'it returns false'. Refute it at one input. -/
def orderLooksWrong : ChangeSpec := { name := "orderLooks", fn := fun _ => fun
  | [d1, d2] => { results := [.lit (.bool false)], args := [d1, d2] }
  | _ => none }
def OrderLooksWrongFalsely : Prop := orderLooksRow.holds Try.pinned (OpenSpec.ofChange orderLooksWrong)

/-- 'soriteslaw14.OrderMulti': WHATEVER THE INPUT: true; the input reads as it did. -/
def orderMultiSpec : ChangeSpec := { name := "orderMulti", fn := fun _ => fun
  | [d1, d2, d3, d4] => { results := [.lit (.bool true)], args := [d1, d2, d3, d4] }
  | _ => none }
def orderMultiRow : OpenClaim := { program := "ytpfddihcikiofaa", sum := "066e6207eef11afdb57e8e44530a8e34dfb1ee47533556ddd962993ea18df130", func := "sorites/soriteslaw14.OrderMulti", spec := "orderMulti", unfollowed := true, recurses := true, loops := true, apart := false }
def OrderMultiSaid : Prop := orderMultiRow.holds Try.pinned (OpenSpec.ofChange orderMultiSpec)

/-- ITS FALSE NEIGHBOUR: 'it returns false'. Refute it at one input. -/
def orderMultiWrong : ChangeSpec := { name := "orderMulti", fn := fun _ => fun
  | [d1, d2, d3, d4] => { results := [.lit (.bool false)], args := [d1, d2, d3, d4] }
  | _ => none }
def OrderMultiWrongFalsely : Prop := orderMultiRow.holds Try.pinned (OpenSpec.ofChange orderMultiWrong)

/-- 'soriteslaw14.OrderTells': WHATEVER THE INPUT: true; the input reads as it did. -/
def orderTellsSpec : ChangeSpec := { name := "orderTells", fn := fun _ => fun
  | [d1, d2, d3] => { results := [.lit (.bool true)], args := [d1, d2, d3] }
  | _ => none }
def orderTellsRow : OpenClaim := { program := "ytpfddihcikiofaa", sum := "066e6207eef11afdb57e8e44530a8e34dfb1ee47533556ddd962993ea18df130", func := "sorites/soriteslaw14.OrderTells", spec := "orderTells", unfollowed := true, recurses := true, loops := true, apart := false }
def OrderTellsSaid : Prop := orderTellsRow.holds Try.pinned (OpenSpec.ofChange orderTellsSpec)

/-- ITS FALSE NEIGHBOUR: 'it returns false'. Refute it at one input. -/
def orderTellsWrong : ChangeSpec := { name := "orderTells", fn := fun _ => fun
  | [d1, d2, d3] => { results := [.lit (.bool false)], args := [d1, d2, d3] }
  | _ => none }
def OrderTellsWrongFalsely : Prop := orderTellsRow.holds Try.pinned (OpenSpec.ofChange orderTellsWrong)

/-- 'soriteslaw14.OrderAtoms': WHATEVER THE INPUT: true; the input reads as it did. -/
def orderAtomsSpec : ChangeSpec := { name := "orderAtoms", fn := fun _ => fun
  | [d1, d2] => { results := [.lit (.bool true)], args := [d1, d2] }
  | _ => none }
def orderAtomsRow : OpenClaim := { program := "ytpfddihcikiofaa", sum := "066e6207eef11afdb57e8e44530a8e34dfb1ee47533556ddd962993ea18df130", func := "sorites/soriteslaw14.OrderAtoms", spec := "orderAtoms", unfollowed := true, recurses := true, loops := true, apart := false }
def OrderAtomsSaid : Prop := orderAtomsRow.holds Try.pinned (OpenSpec.ofChange orderAtomsSpec)

/-- ITS FALSE NEIGHBOUR: 'it returns false'. Refute it at one input. -/
def orderAtomsWrong : ChangeSpec := { name := "orderAtoms", fn := fun _ => fun
  | [d1, d2] => { results := [.lit (.bool false)], args := [d1, d2] }
  | _ => none }
def OrderAtomsWrongFalsely : Prop := orderAtomsRow.holds Try.pinned (OpenSpec.ofChange orderAtomsWrong)

/-- 'soriteslaw14.OrderRules': WHATEVER THE INPUT: true; the input reads as it did. -/
def orderRulesSpec : ChangeSpec := { name := "orderRules", fn := fun _ => fun
  | [d1, d2] => { results := [.lit (.bool true)], args := [d1, d2] }
  | _ => none }
def orderRulesRow : OpenClaim := { program := "ytpfddihcikiofaa", sum := "066e6207eef11afdb57e8e44530a8e34dfb1ee47533556ddd962993ea18df130", func := "sorites/soriteslaw14.OrderRules", spec := "orderRules", unfollowed := true, recurses := true, loops := true, apart := false }
def OrderRulesSaid : Prop := orderRulesRow.holds Try.pinned (OpenSpec.ofChange orderRulesSpec)

/-- ITS FALSE NEIGHBOUR: 'it returns false'. Refute it at one input. -/
def orderRulesWrong : ChangeSpec := { name := "orderRules", fn := fun _ => fun
  | [d1, d2] => { results := [.lit (.bool false)], args := [d1, d2] }
  | _ => none }
def OrderRulesWrongFalsely : Prop := orderRulesRow.holds Try.pinned (OpenSpec.ofChange orderRulesWrong)

/- THE SECOND FORM. 'bulk': how many values and letters a reading holds, each counted each time it is reached (what is shared counts as often as it is met; a slice's spare places count too). A statement '..UptoSaid' is the law's where the arguments, and the package variables that the reading takes, are together of bulk at most 1048576: NARROWER than '..Said'. Prove '..Said' where nothing that the law and all that it calls make is longer than what came in: it says more and counts as full. Else prove '..UptoSaid'. A law counts once. -/
mutual
def uptoBulk {H : Type} : DataW H → Nat
  | .lit (.string bytes) => bytes.length + 1
  | .lit _ => 1
  | .nil => 1
  | .ptr d => uptoBulk d + 1
  | .slice elems spare => uptoBulkAll elems + uptoBulkAll spare + 1
  | .agg parts => uptoBulkAll parts + 1
  | .iface _ d => uptoBulk d + 1
  | .map entries => uptoBulkEntries entries + 1
  | .held _ => 1
def uptoBulkAll {H : Type} : List (DataW H) → Nat
  | [] => 0
  | d :: r => uptoBulk d + uptoBulkAll r
def uptoBulkEntries {H : Type} : List (Lit × DataW H) → Nat
  | [] => 0
  | x :: r => uptoBulkEntry x + uptoBulkEntries r
def uptoBulkEntry {H : Type} : Lit × DataW H → Nat
  | (.string bytes, d) => bytes.length + uptoBulk d + 1
  | (_, d) => uptoBulk d + 1
 end
def uptoSmall : (H : Type) → List (DataW H) → Bool := fun _ ds => decide (uptoBulkAll ds ≤ 1048576)
def OpenSpec.upto (s : _root_.Go.ChangeSpec) : _root_.Go.OpenSpec := { _root_.Go.OpenSpec.ofChange s with cond := some uptoSmall }

/-- 'soriteslaw06.TermPlaces', WHERE WHAT IT READS IS OF BULK AT MOST 1048576: true; the input reads as it did. -/
def termPlacesUptoRow : OpenClaim := { program := "ytpfddihcikiofaa", sum := "066e6207eef11afdb57e8e44530a8e34dfb1ee47533556ddd962993ea18df130", func := "sorites/soriteslaw06.TermPlaces", spec := "termPlaces", unfollowed := true, recurses := true, loops := true, apart := false, narrowed := true }
def TermPlacesUptoSaid : Prop := termPlacesUptoRow.holds Try.pinned (OpenSpec.upto termPlacesSpec)

/-- 'soriteslaw06.TermCounts', WHERE WHAT IT READS IS OF BULK AT MOST 1048576: true; the input reads as it did. -/
def termCountsUptoRow : OpenClaim := { program := "ytpfddihcikiofaa", sum := "066e6207eef11afdb57e8e44530a8e34dfb1ee47533556ddd962993ea18df130", func := "sorites/soriteslaw06.TermCounts", spec := "termCounts", unfollowed := true, recurses := true, loops := true, apart := false, narrowed := true }
def TermCountsUptoSaid : Prop := termCountsUptoRow.holds Try.pinned (OpenSpec.upto termCountsSpec)

/-- 'soriteslaw06.TermOrder', WHERE WHAT IT READS IS OF BULK AT MOST 1048576: true; the input reads as it did. -/
def termOrderUptoRow : OpenClaim := { program := "ytpfddihcikiofaa", sum := "066e6207eef11afdb57e8e44530a8e34dfb1ee47533556ddd962993ea18df130", func := "sorites/soriteslaw06.TermOrder", spec := "termOrder", unfollowed := true, recurses := true, loops := true, apart := false, narrowed := true }
def TermOrderUptoSaid : Prop := termOrderUptoRow.holds Try.pinned (OpenSpec.upto termOrderSpec)

/-- 'soriteslaw06.TermSame', WHERE WHAT IT READS IS OF BULK AT MOST 1048576: true; the input reads as it did. -/
def termSameUptoRow : OpenClaim := { program := "ytpfddihcikiofaa", sum := "066e6207eef11afdb57e8e44530a8e34dfb1ee47533556ddd962993ea18df130", func := "sorites/soriteslaw06.TermSame", spec := "termSame", unfollowed := true, recurses := true, loops := true, apart := false, narrowed := true }
def TermSameUptoSaid : Prop := termSameUptoRow.holds Try.pinned (OpenSpec.upto termSameSpec)

/-- 'soriteslaw06.TermPuts', WHERE WHAT IT READS IS OF BULK AT MOST 1048576: true; the input reads as it did. -/
def termPutsUptoRow : OpenClaim := { program := "ytpfddihcikiofaa", sum := "066e6207eef11afdb57e8e44530a8e34dfb1ee47533556ddd962993ea18df130", func := "sorites/soriteslaw06.TermPuts", spec := "termPuts", unfollowed := true, recurses := true, loops := true, apart := false, narrowed := true }
def TermPutsUptoSaid : Prop := termPutsUptoRow.holds Try.pinned (OpenSpec.upto termPutsSpec)

/-- 'soriteslaw10.KboTells', WHERE WHAT IT READS IS OF BULK AT MOST 1048576: true; the input reads as it did. -/
def kboTellsUptoRow : OpenClaim := { program := "ytpfddihcikiofaa", sum := "066e6207eef11afdb57e8e44530a8e34dfb1ee47533556ddd962993ea18df130", func := "sorites/soriteslaw10.KboTells", spec := "kboTells", unfollowed := true, recurses := true, loops := true, apart := false, narrowed := true }
def KboTellsUptoSaid : Prop := kboTellsUptoRow.holds Try.pinned (OpenSpec.upto kboTellsSpec)

/-- 'soriteslaw06.TermIs', WHERE WHAT IT READS IS OF BULK AT MOST 1048576: true; the input reads as it did. -/
def termIsUptoRow : OpenClaim := { program := "ytpfddihcikiofaa", sum := "066e6207eef11afdb57e8e44530a8e34dfb1ee47533556ddd962993ea18df130", func := "sorites/soriteslaw06.TermIs", spec := "termIs", unfollowed := true, recurses := true, loops := true, apart := false, narrowed := true }
def TermIsUptoSaid : Prop := termIsUptoRow.holds Try.pinned (OpenSpec.upto termIsSpec)

/-- 'soriteslaw10.KboSizes', WHERE WHAT IT READS IS OF BULK AT MOST 1048576: true; the input reads as it did. -/
def kboSizesUptoRow : OpenClaim := { program := "ytpfddihcikiofaa", sum := "066e6207eef11afdb57e8e44530a8e34dfb1ee47533556ddd962993ea18df130", func := "sorites/soriteslaw10.KboSizes", spec := "kboSizes", unfollowed := true, recurses := true, loops := true, apart := false, narrowed := true }
def KboSizesUptoSaid : Prop := kboSizesUptoRow.holds Try.pinned (OpenSpec.upto kboSizesSpec)

/-- 'soriteslaw10.KboRules', WHERE WHAT IT READS IS OF BULK AT MOST 1048576: true; the input reads as it did. -/
def kboRulesUptoRow : OpenClaim := { program := "ytpfddihcikiofaa", sum := "066e6207eef11afdb57e8e44530a8e34dfb1ee47533556ddd962993ea18df130", func := "sorites/soriteslaw10.KboRules", spec := "kboRules", unfollowed := true, recurses := true, loops := true, apart := false, narrowed := true }
def KboRulesUptoSaid : Prop := kboRulesUptoRow.holds Try.pinned (OpenSpec.upto kboRulesSpec)

/-- 'soriteslaw10.KboTotal', WHERE WHAT IT READS IS OF BULK AT MOST 1048576: true; the input reads as it did. -/
def kboTotalUptoRow : OpenClaim := { program := "ytpfddihcikiofaa", sum := "066e6207eef11afdb57e8e44530a8e34dfb1ee47533556ddd962993ea18df130", func := "sorites/soriteslaw10.KboTotal", spec := "kboTotal", unfollowed := true, recurses := true, loops := true, apart := false, narrowed := true }
def KboTotalUptoSaid : Prop := kboTotalUptoRow.holds Try.pinned (OpenSpec.upto kboTotalSpec)

/-- 'soriteslaw10.KboPlaces', WHERE WHAT IT READS IS OF BULK AT MOST 1048576: true; the input reads as it did. -/
def kboPlacesUptoRow : OpenClaim := { program := "ytpfddihcikiofaa", sum := "066e6207eef11afdb57e8e44530a8e34dfb1ee47533556ddd962993ea18df130", func := "sorites/soriteslaw10.KboPlaces", spec := "kboPlaces", unfollowed := true, recurses := true, loops := true, apart := false, narrowed := true }
def KboPlacesUptoSaid : Prop := kboPlacesUptoRow.holds Try.pinned (OpenSpec.upto kboPlacesSpec)

/-- 'soriteslaw10.KboStable', WHERE WHAT IT READS IS OF BULK AT MOST 1048576: true; the input reads as it did. -/
def kboStableUptoRow : OpenClaim := { program := "ytpfddihcikiofaa", sum := "066e6207eef11afdb57e8e44530a8e34dfb1ee47533556ddd962993ea18df130", func := "sorites/soriteslaw10.KboStable", spec := "kboStable", unfollowed := true, recurses := true, loops := true, apart := false, narrowed := true }
def KboStableUptoSaid : Prop := kboStableUptoRow.holds Try.pinned (OpenSpec.upto kboStableSpec)

/-- 'soriteslaw14.OrderLooks', WHERE WHAT IT READS IS OF BULK AT MOST 1048576: true; the input reads as it did. -/
def orderLooksUptoRow : OpenClaim := { program := "ytpfddihcikiofaa", sum := "066e6207eef11afdb57e8e44530a8e34dfb1ee47533556ddd962993ea18df130", func := "sorites/soriteslaw14.OrderLooks", spec := "orderLooks", unfollowed := true, recurses := true, loops := true, apart := false, narrowed := true }
def OrderLooksUptoSaid : Prop := orderLooksUptoRow.holds Try.pinned (OpenSpec.upto orderLooksSpec)

/-- 'soriteslaw14.OrderMulti', WHERE WHAT IT READS IS OF BULK AT MOST 1048576: true; the input reads as it did. -/
def orderMultiUptoRow : OpenClaim := { program := "ytpfddihcikiofaa", sum := "066e6207eef11afdb57e8e44530a8e34dfb1ee47533556ddd962993ea18df130", func := "sorites/soriteslaw14.OrderMulti", spec := "orderMulti", unfollowed := true, recurses := true, loops := true, apart := false, narrowed := true }
def OrderMultiUptoSaid : Prop := orderMultiUptoRow.holds Try.pinned (OpenSpec.upto orderMultiSpec)

/-- 'soriteslaw14.OrderTells', WHERE WHAT IT READS IS OF BULK AT MOST 1048576: true; the input reads as it did. -/
def orderTellsUptoRow : OpenClaim := { program := "ytpfddihcikiofaa", sum := "066e6207eef11afdb57e8e44530a8e34dfb1ee47533556ddd962993ea18df130", func := "sorites/soriteslaw14.OrderTells", spec := "orderTells", unfollowed := true, recurses := true, loops := true, apart := false, narrowed := true }
def OrderTellsUptoSaid : Prop := orderTellsUptoRow.holds Try.pinned (OpenSpec.upto orderTellsSpec)

/-- 'soriteslaw14.OrderAtoms', WHERE WHAT IT READS IS OF BULK AT MOST 1048576: true; the input reads as it did. -/
def orderAtomsUptoRow : OpenClaim := { program := "ytpfddihcikiofaa", sum := "066e6207eef11afdb57e8e44530a8e34dfb1ee47533556ddd962993ea18df130", func := "sorites/soriteslaw14.OrderAtoms", spec := "orderAtoms", unfollowed := true, recurses := true, loops := true, apart := false, narrowed := true }
def OrderAtomsUptoSaid : Prop := orderAtomsUptoRow.holds Try.pinned (OpenSpec.upto orderAtomsSpec)

/-- 'soriteslaw14.OrderRules', WHERE WHAT IT READS IS OF BULK AT MOST 1048576: true; the input reads as it did. -/
def orderRulesUptoRow : OpenClaim := { program := "ytpfddihcikiofaa", sum := "066e6207eef11afdb57e8e44530a8e34dfb1ee47533556ddd962993ea18df130", func := "sorites/soriteslaw14.OrderRules", spec := "orderRules", unfollowed := true, recurses := true, loops := true, apart := false, narrowed := true }
def OrderRulesUptoSaid : Prop := orderRulesUptoRow.holds Try.pinned (OpenSpec.upto orderRulesSpec)

end Rows
end Go.Proofs.Ytpfddihcikiofaa
