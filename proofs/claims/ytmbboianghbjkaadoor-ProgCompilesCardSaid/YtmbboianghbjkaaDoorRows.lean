/-
  NARROWER THAN 'FOR EVERY INPUT', by the rows' own cells (each row's printed sentence says how): ProgLooks: laid · ProgSides: laid · ProgKeeps: laid · ProgChecks: laid · ProgCompiles: laid · ProgFinds: laid.
  DERIVED. THE GIVEN ROWS OF THIS SEAT. 6 by the template 'for every input the law returns true; each argument reads behind the call as it read before'; 0 by the template 'total and deterministic' (their statements: YtmbboianghbjkaaDoorTotals.lean).
  GIVEN WITH THE SEED: the statements are not yours to turn. If you find one false, say at which input.
  Laid BY PROGRAM, IN A SANDBOX (cutbox-rows.mjs): the forced cells as the released guide's own fill.sh prints them over the translation e755e884dd0a70e5… (all of the seat's roots in one cut). By AI agents, Wed Nov 11 2026. No macro, syntax, notation, axiom, sorry.
-/
import Derived.Test.YtmbboianghbjkaaDoorChecked
import GoSem.PinnedTables
import GoSem.Claim
import GoSem.ClaimJoined
import GoSem.ClaimMapViews
import Derived.JoinedTies
import Derived.KernelRfl
namespace Go.Proofs.YtmbboianghbjkaaDoor
/- THE CELL 'sum', in the pinned program and in every row, IS THE sha256 OF THE DUMP (.gsa) THAT YtmbboianghbjkaaDoorProg.lean LOADS. Nothing in Lean hashes anything: it is a label: what it is worth is what the hold of that sum in a sandbox is worth. -/
noncomputable def Tryd.pinned : Pinned := { name := "ytmbboianghbjkaadoor", sum := "e755e884dd0a70e5f91b58ae2e0fb0e7339ff2bcde8b05f9b0ede3f181b11801", checked := Tryd.checked }
namespace Rows
def none {H : Type} : Left H := { results := [], args := [] }

/- WHAT THE LISTED PACKAGE-LEVEL VARIABLES READ AS WHEN THE CALL BEGINS. Each datum BY PROGRAM (the guide's laid-datum.mjs) off the statement by which the dump's own 'gosem.cut.vars' lays the variable. In a bare row this is a premise. The card (YtmbboianghbjkaaDoorCards.lean) ties it to the program's text. -/
def laid_unicode_utf8_acceptRanges {H : Type} : DataW H := .agg [.agg [.lit (.int .u8 128), .lit (.int .u8 191)], .agg [.lit (.int .u8 160), .lit (.int .u8 191)], .agg [.lit (.int .u8 128), .lit (.int .u8 159)], .agg [.lit (.int .u8 144), .lit (.int .u8 191)], .agg [.lit (.int .u8 128), .lit (.int .u8 143)], .agg [.lit (.int .u8 0), .lit (.int .u8 0)], .agg [.lit (.int .u8 0), .lit (.int .u8 0)], .agg [.lit (.int .u8 0), .lit (.int .u8 0)], .agg [.lit (.int .u8 0), .lit (.int .u8 0)], .agg [.lit (.int .u8 0), .lit (.int .u8 0)], .agg [.lit (.int .u8 0), .lit (.int .u8 0)], .agg [.lit (.int .u8 0), .lit (.int .u8 0)], .agg [.lit (.int .u8 0), .lit (.int .u8 0)], .agg [.lit (.int .u8 0), .lit (.int .u8 0)], .agg [.lit (.int .u8 0), .lit (.int .u8 0)], .agg [.lit (.int .u8 0), .lit (.int .u8 0)]]
def laid_thistle_sets_bands {H : Type} : DataW H := .agg [.agg [.lit (.int .i32 0), .lit (.int .i32 55295)], .agg [.lit (.int .i32 57344), .lit (.int .i32 1114111)], .agg [.lit (.int .i32 1114240), .lit (.int .i32 1114367)]]
/-- One of Go's own tables, pinned by name: the form's constant. -/
def laid_unicode_utf8_first : DataW Unit := Go.Pinned.utf8First

/-- 'thistlelaw12.ProgLooks': WHATEVER THE INPUT: true; the input reads as it did. -/
def progLooksSpec : ChangeSpec := { name := "progLooks", fn := fun _ => fun
  | [d1, d2, d3] => { results := [.lit (.bool true)], args := [d1, d2, d3] }
  | _ => none }
def progLooksRow : OpenClaim := { program := "ytmbboianghbjkaadoor", sum := "e755e884dd0a70e5f91b58ae2e0fb0e7339ff2bcde8b05f9b0ede3f181b11801", func := "thistle/thistlelaw12.ProgLooks", spec := "progLooks", unfollowed := true, recurses := true, named := ["thistle/sets.bands", "unicode/utf8.first", "unicode/utf8.acceptRanges"], apart := false, laid := [("unicode/utf8.acceptRanges", laid_unicode_utf8_acceptRanges), ("thistle/sets.bands", laid_thistle_sets_bands), ("unicode/utf8.first", laid_unicode_utf8_first)] }
def ProgLooksSaid : Prop := progLooksRow.holds Tryd.pinned (OpenSpec.ofChange progLooksSpec)

/-- ITS FALSE NEIGHBOUR: 'it returns false'. Refute it at one input. -/
def progLooksWrong : ChangeSpec := { name := "progLooks", fn := fun _ => fun
  | [d1, d2, d3] => { results := [.lit (.bool false)], args := [d1, d2, d3] }
  | _ => none }
def ProgLooksWrongFalsely : Prop := progLooksRow.holds Tryd.pinned (OpenSpec.ofChange progLooksWrong)

/-- 'thistlelaw12.ProgSides': WHATEVER THE INPUT: true; the input reads as it did. -/
def progSidesSpec : ChangeSpec := { name := "progSides", fn := fun _ => fun
  | [d1, d2] => { results := [.lit (.bool true)], args := [d1, d2] }
  | _ => none }
def progSidesRow : OpenClaim := { program := "ytmbboianghbjkaadoor", sum := "e755e884dd0a70e5f91b58ae2e0fb0e7339ff2bcde8b05f9b0ede3f181b11801", func := "thistle/thistlelaw12.ProgSides", spec := "progSides", unfollowed := true, recurses := true, named := ["thistle/sets.bands", "unicode/utf8.first", "unicode/utf8.acceptRanges"], apart := false, laid := [("unicode/utf8.acceptRanges", laid_unicode_utf8_acceptRanges), ("thistle/sets.bands", laid_thistle_sets_bands), ("unicode/utf8.first", laid_unicode_utf8_first)] }
def ProgSidesSaid : Prop := progSidesRow.holds Tryd.pinned (OpenSpec.ofChange progSidesSpec)

/-- ITS FALSE NEIGHBOUR: 'it returns false'. Refute it at one input. -/
def progSidesWrong : ChangeSpec := { name := "progSides", fn := fun _ => fun
  | [d1, d2] => { results := [.lit (.bool false)], args := [d1, d2] }
  | _ => none }
def ProgSidesWrongFalsely : Prop := progSidesRow.holds Tryd.pinned (OpenSpec.ofChange progSidesWrong)

/-- 'thistlelaw12.ProgKeeps': WHATEVER THE INPUT: true; the input reads as it did. -/
def progKeepsSpec : ChangeSpec := { name := "progKeeps", fn := fun _ => fun
  | [d1, d2] => { results := [.lit (.bool true)], args := [d1, d2] }
  | _ => none }
def progKeepsRow : OpenClaim := { program := "ytmbboianghbjkaadoor", sum := "e755e884dd0a70e5f91b58ae2e0fb0e7339ff2bcde8b05f9b0ede3f181b11801", func := "thistle/thistlelaw12.ProgKeeps", spec := "progKeeps", unfollowed := true, recurses := true, named := ["thistle/sets.bands", "unicode/utf8.first", "unicode/utf8.acceptRanges"], apart := false, laid := [("unicode/utf8.acceptRanges", laid_unicode_utf8_acceptRanges), ("thistle/sets.bands", laid_thistle_sets_bands), ("unicode/utf8.first", laid_unicode_utf8_first)] }
def ProgKeepsSaid : Prop := progKeepsRow.holds Tryd.pinned (OpenSpec.ofChange progKeepsSpec)

/-- ITS FALSE NEIGHBOUR: 'it returns false'. Refute it at one input. -/
def progKeepsWrong : ChangeSpec := { name := "progKeeps", fn := fun _ => fun
  | [d1, d2] => { results := [.lit (.bool false)], args := [d1, d2] }
  | _ => none }
def ProgKeepsWrongFalsely : Prop := progKeepsRow.holds Tryd.pinned (OpenSpec.ofChange progKeepsWrong)

/-- 'thistlelaw12.ProgChecks': WHATEVER THE INPUT: true; the input reads as it did. -/
def progChecksSpec : ChangeSpec := { name := "progChecks", fn := fun _ => fun
  | [d] => { results := [.lit (.bool true)], args := [d] }
  | _ => none }
def progChecksRow : OpenClaim := { program := "ytmbboianghbjkaadoor", sum := "e755e884dd0a70e5f91b58ae2e0fb0e7339ff2bcde8b05f9b0ede3f181b11801", func := "thistle/thistlelaw12.ProgChecks", spec := "progChecks", unfollowed := true, recurses := true, named := ["thistle/sets.bands", "unicode/utf8.first", "unicode/utf8.acceptRanges"], apart := false, laid := [("unicode/utf8.acceptRanges", laid_unicode_utf8_acceptRanges), ("thistle/sets.bands", laid_thistle_sets_bands), ("unicode/utf8.first", laid_unicode_utf8_first)] }
def ProgChecksSaid : Prop := progChecksRow.holds Tryd.pinned (OpenSpec.ofChange progChecksSpec)

/-- ITS FALSE NEIGHBOUR: 'it returns false'. Refute it at one input. -/
def progChecksWrong : ChangeSpec := { name := "progChecks", fn := fun _ => fun
  | [d] => { results := [.lit (.bool false)], args := [d] }
  | _ => none }
def ProgChecksWrongFalsely : Prop := progChecksRow.holds Tryd.pinned (OpenSpec.ofChange progChecksWrong)

/-- 'thistlelaw12.ProgCompiles': WHATEVER THE INPUT: true; the input reads as it did. -/
def progCompilesSpec : ChangeSpec := { name := "progCompiles", fn := fun _ => fun
  | [d] => { results := [.lit (.bool true)], args := [d] }
  | _ => none }
def progCompilesRow : OpenClaim := { program := "ytmbboianghbjkaadoor", sum := "e755e884dd0a70e5f91b58ae2e0fb0e7339ff2bcde8b05f9b0ede3f181b11801", func := "thistle/thistlelaw12.ProgCompiles", spec := "progCompiles", unfollowed := true, recurses := true, named := ["thistle/sets.bands", "unicode/utf8.first", "unicode/utf8.acceptRanges"], apart := false, laid := [("unicode/utf8.acceptRanges", laid_unicode_utf8_acceptRanges), ("thistle/sets.bands", laid_thistle_sets_bands), ("unicode/utf8.first", laid_unicode_utf8_first)] }
def ProgCompilesSaid : Prop := progCompilesRow.holds Tryd.pinned (OpenSpec.ofChange progCompilesSpec)

/-- ITS FALSE NEIGHBOUR: 'it returns false'. Refute it at one input. -/
def progCompilesWrong : ChangeSpec := { name := "progCompiles", fn := fun _ => fun
  | [d] => { results := [.lit (.bool false)], args := [d] }
  | _ => none }
def ProgCompilesWrongFalsely : Prop := progCompilesRow.holds Tryd.pinned (OpenSpec.ofChange progCompilesWrong)

/-- 'thistlelaw12.ProgFinds': WHATEVER THE INPUT: true; the input reads as it did. -/
def progFindsSpec : ChangeSpec := { name := "progFinds", fn := fun _ => fun
  | [d1, d2, d3] => { results := [.lit (.bool true)], args := [d1, d2, d3] }
  | _ => none }
def progFindsRow : OpenClaim := { program := "ytmbboianghbjkaadoor", sum := "e755e884dd0a70e5f91b58ae2e0fb0e7339ff2bcde8b05f9b0ede3f181b11801", func := "thistle/thistlelaw12.ProgFinds", spec := "progFinds", unfollowed := true, recurses := true, named := ["thistle/sets.bands", "unicode/utf8.first", "unicode/utf8.acceptRanges"], apart := false, laid := [("unicode/utf8.acceptRanges", laid_unicode_utf8_acceptRanges), ("thistle/sets.bands", laid_thistle_sets_bands), ("unicode/utf8.first", laid_unicode_utf8_first)] }
def ProgFindsSaid : Prop := progFindsRow.holds Tryd.pinned (OpenSpec.ofChange progFindsSpec)

/-- ITS FALSE NEIGHBOUR: 'it returns false'. Refute it at one input. -/
def progFindsWrong : ChangeSpec := { name := "progFinds", fn := fun _ => fun
  | [d1, d2, d3] => { results := [.lit (.bool false)], args := [d1, d2, d3] }
  | _ => none }
def ProgFindsWrongFalsely : Prop := progFindsRow.holds Tryd.pinned (OpenSpec.ofChange progFindsWrong)

/- THE SECOND FORM. 'bulk': how many values and letters a reading holds, each counted each time it is reached (what is shared counts as often as it is met; a slice's spare places count too). A statement '..UptoSaid' is the law's where the arguments, and the package variables that the reading takes, are together of bulk at most 1048576: NARROWER than '..Said'. Prove '..Said' where nothing that the law and all that it calls make is longer than what came in: it says more and counts as full. Else prove '..UptoSaid'. A law counts once. -/
mutual
def uptoBulk {H : Type} : DataW H → Nat
  | .lit (.string bytes) => bytes.length + 1
  | .lit _ => 1
  | .nil => 1
  | .ptr d => uptoBulk d + 1
  | .slice elems spare => uptoBulkAll elems + uptoBulkAll spare + 1
  | .agg parts => uptoBulkAll parts + 1
  | .iface _ d => uptoBulk d + 1
  | .map entries => uptoBulkEntries entries + 1
  | .held _ => 1
def uptoBulkAll {H : Type} : List (DataW H) → Nat
  | [] => 0
  | d :: r => uptoBulk d + uptoBulkAll r
def uptoBulkEntries {H : Type} : List (Lit × DataW H) → Nat
  | [] => 0
  | x :: r => uptoBulkEntry x + uptoBulkEntries r
def uptoBulkEntry {H : Type} : Lit × DataW H → Nat
  | (.string bytes, d) => bytes.length + uptoBulk d + 1
  | (_, d) => uptoBulk d + 1
 end
def uptoSmall : (H : Type) → List (DataW H) → Bool := fun _ ds => decide (uptoBulkAll ds ≤ 1048576)
def OpenSpec.upto (s : _root_.Go.ChangeSpec) : _root_.Go.OpenSpec := { _root_.Go.OpenSpec.ofChange s with cond := some uptoSmall }

/-- 'thistlelaw12.ProgLooks', WHERE WHAT IT READS IS OF BULK AT MOST 1048576: true; the input reads as it did. -/
def progLooksUptoRow : OpenClaim := { program := "ytmbboianghbjkaadoor", sum := "e755e884dd0a70e5f91b58ae2e0fb0e7339ff2bcde8b05f9b0ede3f181b11801", func := "thistle/thistlelaw12.ProgLooks", spec := "progLooks", unfollowed := true, recurses := true, named := ["thistle/sets.bands", "unicode/utf8.first", "unicode/utf8.acceptRanges"], apart := false, laid := [("unicode/utf8.acceptRanges", laid_unicode_utf8_acceptRanges), ("thistle/sets.bands", laid_thistle_sets_bands), ("unicode/utf8.first", laid_unicode_utf8_first)], narrowed := true }
def ProgLooksUptoSaid : Prop := progLooksUptoRow.holds Tryd.pinned (OpenSpec.upto progLooksSpec)

/-- 'thistlelaw12.ProgSides', WHERE WHAT IT READS IS OF BULK AT MOST 1048576: true; the input reads as it did. -/
def progSidesUptoRow : OpenClaim := { program := "ytmbboianghbjkaadoor", sum := "e755e884dd0a70e5f91b58ae2e0fb0e7339ff2bcde8b05f9b0ede3f181b11801", func := "thistle/thistlelaw12.ProgSides", spec := "progSides", unfollowed := true, recurses := true, named := ["thistle/sets.bands", "unicode/utf8.first", "unicode/utf8.acceptRanges"], apart := false, laid := [("unicode/utf8.acceptRanges", laid_unicode_utf8_acceptRanges), ("thistle/sets.bands", laid_thistle_sets_bands), ("unicode/utf8.first", laid_unicode_utf8_first)], narrowed := true }
def ProgSidesUptoSaid : Prop := progSidesUptoRow.holds Tryd.pinned (OpenSpec.upto progSidesSpec)

/-- 'thistlelaw12.ProgKeeps', WHERE WHAT IT READS IS OF BULK AT MOST 1048576: true; the input reads as it did. -/
def progKeepsUptoRow : OpenClaim := { program := "ytmbboianghbjkaadoor", sum := "e755e884dd0a70e5f91b58ae2e0fb0e7339ff2bcde8b05f9b0ede3f181b11801", func := "thistle/thistlelaw12.ProgKeeps", spec := "progKeeps", unfollowed := true, recurses := true, named := ["thistle/sets.bands", "unicode/utf8.first", "unicode/utf8.acceptRanges"], apart := false, laid := [("unicode/utf8.acceptRanges", laid_unicode_utf8_acceptRanges), ("thistle/sets.bands", laid_thistle_sets_bands), ("unicode/utf8.first", laid_unicode_utf8_first)], narrowed := true }
def ProgKeepsUptoSaid : Prop := progKeepsUptoRow.holds Tryd.pinned (OpenSpec.upto progKeepsSpec)

/-- 'thistlelaw12.ProgChecks', WHERE WHAT IT READS IS OF BULK AT MOST 1048576: true; the input reads as it did. -/
def progChecksUptoRow : OpenClaim := { program := "ytmbboianghbjkaadoor", sum := "e755e884dd0a70e5f91b58ae2e0fb0e7339ff2bcde8b05f9b0ede3f181b11801", func := "thistle/thistlelaw12.ProgChecks", spec := "progChecks", unfollowed := true, recurses := true, named := ["thistle/sets.bands", "unicode/utf8.first", "unicode/utf8.acceptRanges"], apart := false, laid := [("unicode/utf8.acceptRanges", laid_unicode_utf8_acceptRanges), ("thistle/sets.bands", laid_thistle_sets_bands), ("unicode/utf8.first", laid_unicode_utf8_first)], narrowed := true }
def ProgChecksUptoSaid : Prop := progChecksUptoRow.holds Tryd.pinned (OpenSpec.upto progChecksSpec)

/-- 'thistlelaw12.ProgCompiles', WHERE WHAT IT READS IS OF BULK AT MOST 1048576: true; the input reads as it did. -/
def progCompilesUptoRow : OpenClaim := { program := "ytmbboianghbjkaadoor", sum := "e755e884dd0a70e5f91b58ae2e0fb0e7339ff2bcde8b05f9b0ede3f181b11801", func := "thistle/thistlelaw12.ProgCompiles", spec := "progCompiles", unfollowed := true, recurses := true, named := ["thistle/sets.bands", "unicode/utf8.first", "unicode/utf8.acceptRanges"], apart := false, laid := [("unicode/utf8.acceptRanges", laid_unicode_utf8_acceptRanges), ("thistle/sets.bands", laid_thistle_sets_bands), ("unicode/utf8.first", laid_unicode_utf8_first)], narrowed := true }
def ProgCompilesUptoSaid : Prop := progCompilesUptoRow.holds Tryd.pinned (OpenSpec.upto progCompilesSpec)

/-- 'thistlelaw12.ProgFinds', WHERE WHAT IT READS IS OF BULK AT MOST 1048576: true; the input reads as it did. -/
def progFindsUptoRow : OpenClaim := { program := "ytmbboianghbjkaadoor", sum := "e755e884dd0a70e5f91b58ae2e0fb0e7339ff2bcde8b05f9b0ede3f181b11801", func := "thistle/thistlelaw12.ProgFinds", spec := "progFinds", unfollowed := true, recurses := true, named := ["thistle/sets.bands", "unicode/utf8.first", "unicode/utf8.acceptRanges"], apart := false, laid := [("unicode/utf8.acceptRanges", laid_unicode_utf8_acceptRanges), ("thistle/sets.bands", laid_thistle_sets_bands), ("unicode/utf8.first", laid_unicode_utf8_first)], narrowed := true }
def ProgFindsUptoSaid : Prop := progFindsUptoRow.holds Tryd.pinned (OpenSpec.upto progFindsSpec)

end Rows
end Go.Proofs.YtmbboianghbjkaaDoor
