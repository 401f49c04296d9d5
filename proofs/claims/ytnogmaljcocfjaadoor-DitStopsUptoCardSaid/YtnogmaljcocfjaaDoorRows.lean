/-
  NARROWER THAN 'FOR EVERY INPUT', by the rows' own cells (each row's printed sentence says how): DitBuilds: laid · DitRefuses: laid · DitOrder: laid · DitAnyOrder: laid · DitSubtree: laid · DitFinds: laid · DitStops: laid · DitFamily: laid.
  DERIVED. THE GIVEN ROWS OF THIS SEAT. 8 by the template 'for every input the law returns true; each argument reads behind the call as it read before'; 0 by the template 'total and deterministic' (their statements: YtnogmaljcocfjaaDoorTotals.lean).
  GIVEN WITH THE SEED: the statements are not yours to turn. If you find one false, say at which input.
  Laid BY PROGRAM, IN A SANDBOX (cutbox-rows.mjs): the forced cells as the released guide's own fill.sh prints them over the translation b08c9ac184d0f4bd… (all of the seat's roots in one cut). By AI agents, Wed Nov 11 2026. No macro, syntax, notation, axiom, sorry.
-/
import Derived.Test.YtnogmaljcocfjaaDoorChecked
import GoSem.Claim
import GoSem.ClaimJoined
import GoSem.ClaimMapViews
import Derived.JoinedTies
import Derived.KernelRfl
namespace Go.Proofs.YtnogmaljcocfjaaDoor
/- THE CELL 'sum', in the pinned program and in every row, IS THE sha256 OF THE DUMP (.gsa) THAT YtnogmaljcocfjaaDoorProg.lean LOADS. Nothing in Lean hashes anything: it is a label: what it is worth is what the hold of that sum in a sandbox is worth. -/
noncomputable def Tryd.pinned : Pinned := { name := "ytnogmaljcocfjaadoor", sum := "b08c9ac184d0f4bd5c5ece54ab65e86793e4ac61cc96b673f1c1e02c6196e50a", checked := Tryd.checked }
namespace Rows
def none {H : Type} : Left H := { results := [], args := [] }

/- WHAT THE LISTED PACKAGE-LEVEL VARIABLES READ AS WHEN THE CALL BEGINS. Each datum BY PROGRAM (the guide's laid-datum.mjs) off the statement by which the dump's own 'gosem.cut.vars' lays the variable. In a bare row this is a premise. The card (YtnogmaljcocfjaaDoorCards.lean) ties it to the program's text. -/
def laid_math_bits_deBruijn32tab {H : Type} : DataW H := .agg [.lit (.int .u8 0), .lit (.int .u8 1), .lit (.int .u8 28), .lit (.int .u8 2), .lit (.int .u8 29), .lit (.int .u8 14), .lit (.int .u8 24), .lit (.int .u8 3), .lit (.int .u8 30), .lit (.int .u8 22), .lit (.int .u8 20), .lit (.int .u8 15), .lit (.int .u8 25), .lit (.int .u8 17), .lit (.int .u8 4), .lit (.int .u8 8), .lit (.int .u8 31), .lit (.int .u8 27), .lit (.int .u8 13), .lit (.int .u8 23), .lit (.int .u8 21), .lit (.int .u8 19), .lit (.int .u8 16), .lit (.int .u8 7), .lit (.int .u8 26), .lit (.int .u8 12), .lit (.int .u8 18), .lit (.int .u8 6), .lit (.int .u8 11), .lit (.int .u8 5), .lit (.int .u8 10), .lit (.int .u8 9)]
def laid_math_bits_deBruijn64tab {H : Type} : DataW H := .agg [.lit (.int .u8 0), .lit (.int .u8 1), .lit (.int .u8 56), .lit (.int .u8 2), .lit (.int .u8 57), .lit (.int .u8 49), .lit (.int .u8 28), .lit (.int .u8 3), .lit (.int .u8 61), .lit (.int .u8 58), .lit (.int .u8 42), .lit (.int .u8 50), .lit (.int .u8 38), .lit (.int .u8 29), .lit (.int .u8 17), .lit (.int .u8 4), .lit (.int .u8 62), .lit (.int .u8 47), .lit (.int .u8 59), .lit (.int .u8 36), .lit (.int .u8 45), .lit (.int .u8 43), .lit (.int .u8 51), .lit (.int .u8 22), .lit (.int .u8 53), .lit (.int .u8 39), .lit (.int .u8 33), .lit (.int .u8 30), .lit (.int .u8 24), .lit (.int .u8 18), .lit (.int .u8 12), .lit (.int .u8 5), .lit (.int .u8 63), .lit (.int .u8 55), .lit (.int .u8 48), .lit (.int .u8 27), .lit (.int .u8 60), .lit (.int .u8 41), .lit (.int .u8 37), .lit (.int .u8 16), .lit (.int .u8 46), .lit (.int .u8 35), .lit (.int .u8 44), .lit (.int .u8 21), .lit (.int .u8 52), .lit (.int .u8 32), .lit (.int .u8 23), .lit (.int .u8 11), .lit (.int .u8 54), .lit (.int .u8 26), .lit (.int .u8 40), .lit (.int .u8 15), .lit (.int .u8 34), .lit (.int .u8 20), .lit (.int .u8 31), .lit (.int .u8 10), .lit (.int .u8 25), .lit (.int .u8 14), .lit (.int .u8 19), .lit (.int .u8 9), .lit (.int .u8 13), .lit (.int .u8 8), .lit (.int .u8 7), .lit (.int .u8 6)]
def laid_internal_strconv_uint64pow10 {H : Type} : DataW H := .agg [.lit (.int .u64 1), .lit (.int .u64 10), .lit (.int .u64 100), .lit (.int .u64 1000), .lit (.int .u64 10000), .lit (.int .u64 100000), .lit (.int .u64 1000000), .lit (.int .u64 10000000), .lit (.int .u64 100000000), .lit (.int .u64 1000000000), .lit (.int .u64 10000000000), .lit (.int .u64 100000000000), .lit (.int .u64 1000000000000), .lit (.int .u64 10000000000000), .lit (.int .u64 100000000000000), .lit (.int .u64 1000000000000000), .lit (.int .u64 10000000000000000), .lit (.int .u64 100000000000000000), .lit (.int .u64 1000000000000000000), .lit (.int .u64 10000000000000000000)]

/-- 'rosterlaw09.DitBuilds': WHATEVER THE INPUT: true; the input reads as it did. -/
def ditBuildsSpec : ChangeSpec := { name := "ditBuilds", fn := fun _ => fun
  | [d] => { results := [.lit (.bool true)], args := [d] }
  | _ => none }
def ditBuildsRow : OpenClaim := { program := "ytnogmaljcocfjaadoor", sum := "b08c9ac184d0f4bd5c5ece54ab65e86793e4ac61cc96b673f1c1e02c6196e50a", func := "roster/rosterlaw09.DitBuilds", spec := "ditBuilds", unfollowed := true, recurses := true, named := ["internal/strconv.uint64pow10", "math/bits.deBruijn32tab", "math/bits.deBruijn64tab"], apart := false, laid := [("math/bits.deBruijn32tab", laid_math_bits_deBruijn32tab), ("math/bits.deBruijn64tab", laid_math_bits_deBruijn64tab), ("internal/strconv.uint64pow10", laid_internal_strconv_uint64pow10)] }
def DitBuildsSaid : Prop := ditBuildsRow.holds Tryd.pinned (OpenSpec.ofChange ditBuildsSpec)

/-- ITS FALSE NEIGHBOUR: 'it returns false'. Refute it at one input. -/
def ditBuildsWrong : ChangeSpec := { name := "ditBuilds", fn := fun _ => fun
  | [d] => { results := [.lit (.bool false)], args := [d] }
  | _ => none }
def DitBuildsWrongFalsely : Prop := ditBuildsRow.holds Tryd.pinned (OpenSpec.ofChange ditBuildsWrong)

/-- 'rosterlaw09.DitRefuses': WHATEVER THE INPUT: true; the input reads as it did. -/
def ditRefusesSpec : ChangeSpec := { name := "ditRefuses", fn := fun _ => fun
  | [d1, d2, d3, d4] => { results := [.lit (.bool true)], args := [d1, d2, d3, d4] }
  | _ => none }
def ditRefusesRow : OpenClaim := { program := "ytnogmaljcocfjaadoor", sum := "b08c9ac184d0f4bd5c5ece54ab65e86793e4ac61cc96b673f1c1e02c6196e50a", func := "roster/rosterlaw09.DitRefuses", spec := "ditRefuses", unfollowed := true, recurses := true, named := ["internal/strconv.uint64pow10", "math/bits.deBruijn32tab", "math/bits.deBruijn64tab"], apart := false, laid := [("math/bits.deBruijn32tab", laid_math_bits_deBruijn32tab), ("math/bits.deBruijn64tab", laid_math_bits_deBruijn64tab), ("internal/strconv.uint64pow10", laid_internal_strconv_uint64pow10)] }
def DitRefusesSaid : Prop := ditRefusesRow.holds Tryd.pinned (OpenSpec.ofChange ditRefusesSpec)

/-- ITS FALSE NEIGHBOUR: 'it returns false'. Refute it at one input. -/
def ditRefusesWrong : ChangeSpec := { name := "ditRefuses", fn := fun _ => fun
  | [d1, d2, d3, d4] => { results := [.lit (.bool false)], args := [d1, d2, d3, d4] }
  | _ => none }
def DitRefusesWrongFalsely : Prop := ditRefusesRow.holds Tryd.pinned (OpenSpec.ofChange ditRefusesWrong)

/-- 'rosterlaw09.DitOrder': WHATEVER THE INPUT: true; the input reads as it did. -/
def ditOrderSpec : ChangeSpec := { name := "ditOrder", fn := fun _ => fun
  | [d1, d2] => { results := [.lit (.bool true)], args := [d1, d2] }
  | _ => none }
def ditOrderRow : OpenClaim := { program := "ytnogmaljcocfjaadoor", sum := "b08c9ac184d0f4bd5c5ece54ab65e86793e4ac61cc96b673f1c1e02c6196e50a", func := "roster/rosterlaw09.DitOrder", spec := "ditOrder", unfollowed := true, recurses := true, named := ["internal/strconv.uint64pow10", "math/bits.deBruijn32tab", "math/bits.deBruijn64tab"], apart := false, laid := [("math/bits.deBruijn32tab", laid_math_bits_deBruijn32tab), ("math/bits.deBruijn64tab", laid_math_bits_deBruijn64tab), ("internal/strconv.uint64pow10", laid_internal_strconv_uint64pow10)] }
def DitOrderSaid : Prop := ditOrderRow.holds Tryd.pinned (OpenSpec.ofChange ditOrderSpec)

/-- ITS FALSE NEIGHBOUR: 'it returns false'. Refute it at one input. -/
def ditOrderWrong : ChangeSpec := { name := "ditOrder", fn := fun _ => fun
  | [d1, d2] => { results := [.lit (.bool false)], args := [d1, d2] }
  | _ => none }
def DitOrderWrongFalsely : Prop := ditOrderRow.holds Tryd.pinned (OpenSpec.ofChange ditOrderWrong)

/-- 'rosterlaw09.DitAnyOrder': WHATEVER THE INPUT: true; the input reads as it did. -/
def ditAnyOrderSpec : ChangeSpec := { name := "ditAnyOrder", fn := fun _ => fun
  | [d1, d2] => { results := [.lit (.bool true)], args := [d1, d2] }
  | _ => none }
def ditAnyOrderRow : OpenClaim := { program := "ytnogmaljcocfjaadoor", sum := "b08c9ac184d0f4bd5c5ece54ab65e86793e4ac61cc96b673f1c1e02c6196e50a", func := "roster/rosterlaw09.DitAnyOrder", spec := "ditAnyOrder", unfollowed := true, recurses := true, named := ["internal/strconv.uint64pow10", "math/bits.deBruijn32tab", "math/bits.deBruijn64tab"], apart := false, laid := [("math/bits.deBruijn32tab", laid_math_bits_deBruijn32tab), ("math/bits.deBruijn64tab", laid_math_bits_deBruijn64tab), ("internal/strconv.uint64pow10", laid_internal_strconv_uint64pow10)] }
def DitAnyOrderSaid : Prop := ditAnyOrderRow.holds Tryd.pinned (OpenSpec.ofChange ditAnyOrderSpec)

/-- ITS FALSE NEIGHBOUR: 'it returns false'. Refute it at one input. -/
def ditAnyOrderWrong : ChangeSpec := { name := "ditAnyOrder", fn := fun _ => fun
  | [d1, d2] => { results := [.lit (.bool false)], args := [d1, d2] }
  | _ => none }
def DitAnyOrderWrongFalsely : Prop := ditAnyOrderRow.holds Tryd.pinned (OpenSpec.ofChange ditAnyOrderWrong)

/-- 'rosterlaw09.DitSubtree': WHATEVER THE INPUT: true; the input reads as it did. -/
def ditSubtreeSpec : ChangeSpec := { name := "ditSubtree", fn := fun _ => fun
  | [d1, d2] => { results := [.lit (.bool true)], args := [d1, d2] }
  | _ => none }
def ditSubtreeRow : OpenClaim := { program := "ytnogmaljcocfjaadoor", sum := "b08c9ac184d0f4bd5c5ece54ab65e86793e4ac61cc96b673f1c1e02c6196e50a", func := "roster/rosterlaw09.DitSubtree", spec := "ditSubtree", unfollowed := true, recurses := true, named := ["internal/strconv.uint64pow10", "math/bits.deBruijn32tab", "math/bits.deBruijn64tab"], apart := false, laid := [("math/bits.deBruijn32tab", laid_math_bits_deBruijn32tab), ("math/bits.deBruijn64tab", laid_math_bits_deBruijn64tab), ("internal/strconv.uint64pow10", laid_internal_strconv_uint64pow10)] }
def DitSubtreeSaid : Prop := ditSubtreeRow.holds Tryd.pinned (OpenSpec.ofChange ditSubtreeSpec)

/-- ITS FALSE NEIGHBOUR: 'it returns false'. Refute it at one input. -/
def ditSubtreeWrong : ChangeSpec := { name := "ditSubtree", fn := fun _ => fun
  | [d1, d2] => { results := [.lit (.bool false)], args := [d1, d2] }
  | _ => none }
def DitSubtreeWrongFalsely : Prop := ditSubtreeRow.holds Tryd.pinned (OpenSpec.ofChange ditSubtreeWrong)

/-- 'rosterlaw09.DitFinds': WHATEVER THE INPUT: true; the input reads as it did. -/
def ditFindsSpec : ChangeSpec := { name := "ditFinds", fn := fun _ => fun
  | [d1, d2, d3] => { results := [.lit (.bool true)], args := [d1, d2, d3] }
  | _ => none }
def ditFindsRow : OpenClaim := { program := "ytnogmaljcocfjaadoor", sum := "b08c9ac184d0f4bd5c5ece54ab65e86793e4ac61cc96b673f1c1e02c6196e50a", func := "roster/rosterlaw09.DitFinds", spec := "ditFinds", unfollowed := true, recurses := true, named := ["internal/strconv.uint64pow10", "math/bits.deBruijn32tab", "math/bits.deBruijn64tab"], apart := false, laid := [("math/bits.deBruijn32tab", laid_math_bits_deBruijn32tab), ("math/bits.deBruijn64tab", laid_math_bits_deBruijn64tab), ("internal/strconv.uint64pow10", laid_internal_strconv_uint64pow10)] }
def DitFindsSaid : Prop := ditFindsRow.holds Tryd.pinned (OpenSpec.ofChange ditFindsSpec)

/-- ITS FALSE NEIGHBOUR: 'it returns false'. Refute it at one input. -/
def ditFindsWrong : ChangeSpec := { name := "ditFinds", fn := fun _ => fun
  | [d1, d2, d3] => { results := [.lit (.bool false)], args := [d1, d2, d3] }
  | _ => none }
def DitFindsWrongFalsely : Prop := ditFindsRow.holds Tryd.pinned (OpenSpec.ofChange ditFindsWrong)

/-- 'rosterlaw09.DitStops': WHATEVER THE INPUT: true; the input reads as it did. -/
def ditStopsSpec : ChangeSpec := { name := "ditStops", fn := fun _ => fun
  | [d1, d2, d3, d4] => { results := [.lit (.bool true)], args := [d1, d2, d3, d4] }
  | _ => none }
def ditStopsRow : OpenClaim := { program := "ytnogmaljcocfjaadoor", sum := "b08c9ac184d0f4bd5c5ece54ab65e86793e4ac61cc96b673f1c1e02c6196e50a", func := "roster/rosterlaw09.DitStops", spec := "ditStops", unfollowed := true, recurses := true, named := ["internal/strconv.uint64pow10", "math/bits.deBruijn32tab", "math/bits.deBruijn64tab"], apart := false, laid := [("math/bits.deBruijn32tab", laid_math_bits_deBruijn32tab), ("math/bits.deBruijn64tab", laid_math_bits_deBruijn64tab), ("internal/strconv.uint64pow10", laid_internal_strconv_uint64pow10)] }
def DitStopsSaid : Prop := ditStopsRow.holds Tryd.pinned (OpenSpec.ofChange ditStopsSpec)

/-- ITS FALSE NEIGHBOUR: 'it returns false'. Refute it at one input. -/
def ditStopsWrong : ChangeSpec := { name := "ditStops", fn := fun _ => fun
  | [d1, d2, d3, d4] => { results := [.lit (.bool false)], args := [d1, d2, d3, d4] }
  | _ => none }
def DitStopsWrongFalsely : Prop := ditStopsRow.holds Tryd.pinned (OpenSpec.ofChange ditStopsWrong)

/-- 'rosterlaw09.DitFamily': WHATEVER THE INPUT: true; the input reads as it did. -/
def ditFamilySpec : ChangeSpec := { name := "ditFamily", fn := fun _ => fun
  | [d1, d2] => { results := [.lit (.bool true)], args := [d1, d2] }
  | _ => none }
def ditFamilyRow : OpenClaim := { program := "ytnogmaljcocfjaadoor", sum := "b08c9ac184d0f4bd5c5ece54ab65e86793e4ac61cc96b673f1c1e02c6196e50a", func := "roster/rosterlaw09.DitFamily", spec := "ditFamily", unfollowed := true, recurses := true, named := ["internal/strconv.uint64pow10", "math/bits.deBruijn32tab", "math/bits.deBruijn64tab"], apart := false, laid := [("math/bits.deBruijn32tab", laid_math_bits_deBruijn32tab), ("math/bits.deBruijn64tab", laid_math_bits_deBruijn64tab), ("internal/strconv.uint64pow10", laid_internal_strconv_uint64pow10)] }
def DitFamilySaid : Prop := ditFamilyRow.holds Tryd.pinned (OpenSpec.ofChange ditFamilySpec)

/-- ITS FALSE NEIGHBOUR: 'it returns false'. Refute it at one input. -/
def ditFamilyWrong : ChangeSpec := { name := "ditFamily", fn := fun _ => fun
  | [d1, d2] => { results := [.lit (.bool false)], args := [d1, d2] }
  | _ => none }
def DitFamilyWrongFalsely : Prop := ditFamilyRow.holds Tryd.pinned (OpenSpec.ofChange ditFamilyWrong)

/- THE SECOND FORM. 'bulk': how many values and letters a reading holds, each counted each time it is reached (what is shared counts as often as it is met; a slice's spare places count too). A statement '..UptoSaid' is the law's where the arguments, and the package variables that the reading takes, are together of bulk at most 1048576: NARROWER than '..Said'. Prove '..Said' where nothing that the law and all that it calls make is longer than what came in: it says more and counts as full. Else prove '..UptoSaid'. A law counts once. -/
mutual
def uptoBulk {H : Type} : DataW H → Nat
  | .lit (.string bytes) => bytes.length + 1
  | .lit _ => 1
  | .nil => 1
  | .ptr d => uptoBulk d + 1
  | .slice elems spare => uptoBulkAll elems + uptoBulkAll spare + 1
  | .agg parts => uptoBulkAll parts + 1
  | .iface _ d => uptoBulk d + 1
  | .map entries => uptoBulkEntries entries + 1
  | .held _ => 1
def uptoBulkAll {H : Type} : List (DataW H) → Nat
  | [] => 0
  | d :: r => uptoBulk d + uptoBulkAll r
def uptoBulkEntries {H : Type} : List (Lit × DataW H) → Nat
  | [] => 0
  | x :: r => uptoBulkEntry x + uptoBulkEntries r
def uptoBulkEntry {H : Type} : Lit × DataW H → Nat
  | (.string bytes, d) => bytes.length + uptoBulk d + 1
  | (_, d) => uptoBulk d + 1
 end
def uptoSmall : (H : Type) → List (DataW H) → Bool := fun _ ds => decide (uptoBulkAll ds ≤ 1048576)
def OpenSpec.upto (s : _root_.Go.ChangeSpec) : _root_.Go.OpenSpec := { _root_.Go.OpenSpec.ofChange s with cond := some uptoSmall }

/-- 'rosterlaw09.DitBuilds', WHERE WHAT IT READS IS OF BULK AT MOST 1048576: true; the input reads as it did. -/
def ditBuildsUptoRow : OpenClaim := { program := "ytnogmaljcocfjaadoor", sum := "b08c9ac184d0f4bd5c5ece54ab65e86793e4ac61cc96b673f1c1e02c6196e50a", func := "roster/rosterlaw09.DitBuilds", spec := "ditBuilds", unfollowed := true, recurses := true, named := ["internal/strconv.uint64pow10", "math/bits.deBruijn32tab", "math/bits.deBruijn64tab"], apart := false, laid := [("math/bits.deBruijn32tab", laid_math_bits_deBruijn32tab), ("math/bits.deBruijn64tab", laid_math_bits_deBruijn64tab), ("internal/strconv.uint64pow10", laid_internal_strconv_uint64pow10)], narrowed := true }
def DitBuildsUptoSaid : Prop := ditBuildsUptoRow.holds Tryd.pinned (OpenSpec.upto ditBuildsSpec)

/-- 'rosterlaw09.DitRefuses', WHERE WHAT IT READS IS OF BULK AT MOST 1048576: true; the input reads as it did. -/
def ditRefusesUptoRow : OpenClaim := { program := "ytnogmaljcocfjaadoor", sum := "b08c9ac184d0f4bd5c5ece54ab65e86793e4ac61cc96b673f1c1e02c6196e50a", func := "roster/rosterlaw09.DitRefuses", spec := "ditRefuses", unfollowed := true, recurses := true, named := ["internal/strconv.uint64pow10", "math/bits.deBruijn32tab", "math/bits.deBruijn64tab"], apart := false, laid := [("math/bits.deBruijn32tab", laid_math_bits_deBruijn32tab), ("math/bits.deBruijn64tab", laid_math_bits_deBruijn64tab), ("internal/strconv.uint64pow10", laid_internal_strconv_uint64pow10)], narrowed := true }
def DitRefusesUptoSaid : Prop := ditRefusesUptoRow.holds Tryd.pinned (OpenSpec.upto ditRefusesSpec)

/-- 'rosterlaw09.DitOrder', WHERE WHAT IT READS IS OF BULK AT MOST 1048576: true; the input reads as it did. -/
def ditOrderUptoRow : OpenClaim := { program := "ytnogmaljcocfjaadoor", sum := "b08c9ac184d0f4bd5c5ece54ab65e86793e4ac61cc96b673f1c1e02c6196e50a", func := "roster/rosterlaw09.DitOrder", spec := "ditOrder", unfollowed := true, recurses := true, named := ["internal/strconv.uint64pow10", "math/bits.deBruijn32tab", "math/bits.deBruijn64tab"], apart := false, laid := [("math/bits.deBruijn32tab", laid_math_bits_deBruijn32tab), ("math/bits.deBruijn64tab", laid_math_bits_deBruijn64tab), ("internal/strconv.uint64pow10", laid_internal_strconv_uint64pow10)], narrowed := true }
def DitOrderUptoSaid : Prop := ditOrderUptoRow.holds Tryd.pinned (OpenSpec.upto ditOrderSpec)

/-- 'rosterlaw09.DitAnyOrder', WHERE WHAT IT READS IS OF BULK AT MOST 1048576: true; the input reads as it did. -/
def ditAnyOrderUptoRow : OpenClaim := { program := "ytnogmaljcocfjaadoor", sum := "b08c9ac184d0f4bd5c5ece54ab65e86793e4ac61cc96b673f1c1e02c6196e50a", func := "roster/rosterlaw09.DitAnyOrder", spec := "ditAnyOrder", unfollowed := true, recurses := true, named := ["internal/strconv.uint64pow10", "math/bits.deBruijn32tab", "math/bits.deBruijn64tab"], apart := false, laid := [("math/bits.deBruijn32tab", laid_math_bits_deBruijn32tab), ("math/bits.deBruijn64tab", laid_math_bits_deBruijn64tab), ("internal/strconv.uint64pow10", laid_internal_strconv_uint64pow10)], narrowed := true }
def DitAnyOrderUptoSaid : Prop := ditAnyOrderUptoRow.holds Tryd.pinned (OpenSpec.upto ditAnyOrderSpec)

/-- 'rosterlaw09.DitSubtree', WHERE WHAT IT READS IS OF BULK AT MOST 1048576: true; the input reads as it did. -/
def ditSubtreeUptoRow : OpenClaim := { program := "ytnogmaljcocfjaadoor", sum := "b08c9ac184d0f4bd5c5ece54ab65e86793e4ac61cc96b673f1c1e02c6196e50a", func := "roster/rosterlaw09.DitSubtree", spec := "ditSubtree", unfollowed := true, recurses := true, named := ["internal/strconv.uint64pow10", "math/bits.deBruijn32tab", "math/bits.deBruijn64tab"], apart := false, laid := [("math/bits.deBruijn32tab", laid_math_bits_deBruijn32tab), ("math/bits.deBruijn64tab", laid_math_bits_deBruijn64tab), ("internal/strconv.uint64pow10", laid_internal_strconv_uint64pow10)], narrowed := true }
def DitSubtreeUptoSaid : Prop := ditSubtreeUptoRow.holds Tryd.pinned (OpenSpec.upto ditSubtreeSpec)

/-- 'rosterlaw09.DitFinds', WHERE WHAT IT READS IS OF BULK AT MOST 1048576: true; the input reads as it did. -/
def ditFindsUptoRow : OpenClaim := { program := "ytnogmaljcocfjaadoor", sum := "b08c9ac184d0f4bd5c5ece54ab65e86793e4ac61cc96b673f1c1e02c6196e50a", func := "roster/rosterlaw09.DitFinds", spec := "ditFinds", unfollowed := true, recurses := true, named := ["internal/strconv.uint64pow10", "math/bits.deBruijn32tab", "math/bits.deBruijn64tab"], apart := false, laid := [("math/bits.deBruijn32tab", laid_math_bits_deBruijn32tab), ("math/bits.deBruijn64tab", laid_math_bits_deBruijn64tab), ("internal/strconv.uint64pow10", laid_internal_strconv_uint64pow10)], narrowed := true }
def DitFindsUptoSaid : Prop := ditFindsUptoRow.holds Tryd.pinned (OpenSpec.upto ditFindsSpec)

/-- 'rosterlaw09.DitStops', WHERE WHAT IT READS IS OF BULK AT MOST 1048576: true; the input reads as it did. -/
def ditStopsUptoRow : OpenClaim := { program := "ytnogmaljcocfjaadoor", sum := "b08c9ac184d0f4bd5c5ece54ab65e86793e4ac61cc96b673f1c1e02c6196e50a", func := "roster/rosterlaw09.DitStops", spec := "ditStops", unfollowed := true, recurses := true, named := ["internal/strconv.uint64pow10", "math/bits.deBruijn32tab", "math/bits.deBruijn64tab"], apart := false, laid := [("math/bits.deBruijn32tab", laid_math_bits_deBruijn32tab), ("math/bits.deBruijn64tab", laid_math_bits_deBruijn64tab), ("internal/strconv.uint64pow10", laid_internal_strconv_uint64pow10)], narrowed := true }
def DitStopsUptoSaid : Prop := ditStopsUptoRow.holds Tryd.pinned (OpenSpec.upto ditStopsSpec)

/-- 'rosterlaw09.DitFamily', WHERE WHAT IT READS IS OF BULK AT MOST 1048576: true; the input reads as it did. -/
def ditFamilyUptoRow : OpenClaim := { program := "ytnogmaljcocfjaadoor", sum := "b08c9ac184d0f4bd5c5ece54ab65e86793e4ac61cc96b673f1c1e02c6196e50a", func := "roster/rosterlaw09.DitFamily", spec := "ditFamily", unfollowed := true, recurses := true, named := ["internal/strconv.uint64pow10", "math/bits.deBruijn32tab", "math/bits.deBruijn64tab"], apart := false, laid := [("math/bits.deBruijn32tab", laid_math_bits_deBruijn32tab), ("math/bits.deBruijn64tab", laid_math_bits_deBruijn64tab), ("internal/strconv.uint64pow10", laid_internal_strconv_uint64pow10)], narrowed := true }
def DitFamilyUptoSaid : Prop := ditFamilyUptoRow.holds Tryd.pinned (OpenSpec.upto ditFamilySpec)

end Rows
end Go.Proofs.YtnogmaljcocfjaaDoor
