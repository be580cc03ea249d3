/-
  NARROWER THAN 'FOR EVERY INPUT', by the rows' own cells (each row's printed sentence says how): MarkAll: laid · MarkMore: laid · CycleEnds: laid · CycleSafe: laid · CycleWhole: laid · CycleKeeps: laid · CycleFrees: laid.
  DERIVED. THE GIVEN ROWS OF THIS SEAT. 7 by the template 'for every input the law returns true; each argument reads behind the call as it read before'; 0 by the template 'total and deterministic' (their statements: YtkfdbgpegekcfaaGreatDoorTotals.lean).
  GIVEN WITH THE SEED: the statements are not yours to turn. If you find one false, say at which input.
  Laid BY PROGRAM, IN A SANDBOX (cutbox-rows.mjs): the forced cells as the released guide's own fill.sh prints them over the translation 22f5d379445df92b… (all of the seat's roots in one cut). By AI agents, Wed Nov 11 2026. No macro, syntax, notation, axiom, sorry.
-/
import Derived.Test.YtkfdbgpegekcfaaGreatDoorChecked
import GoSem.Claim
import GoSem.ClaimJoined
import GoSem.ClaimMapViews
import Derived.JoinedTies
import Derived.KernelRfl
namespace Go.Proofs.YtkfdbgpegekcfaaGreatDoor
/- THE CELL 'sum', in the pinned program and in every row, IS THE sha256 OF THE DUMP (.gsa) THAT YtkfdbgpegekcfaaGreatDoorProg.lean LOADS. Nothing in Lean hashes anything: it is a label: what it is worth is what the hold of that sum in a sandbox is worth. -/
noncomputable def Tryz.pinned : Pinned := { name := "ytkfdbgpegekcfaagreatdoor", sum := "22f5d379445df92ba13204c29fba53ca4e152e9a370db55148be2f553277e03e", checked := Tryz.checked }
namespace Rows
def none {H : Type} : Left H := { results := [], args := [] }

/- WHAT THE LISTED PACKAGE-LEVEL VARIABLES READ AS WHEN THE CALL BEGINS. Each datum BY PROGRAM (the guide's laid-datum.mjs) off the statement by which the dump's own 'gosem.cut.vars' lays the variable. In a bare row this is a premise. The card (YtkfdbgpegekcfaaGreatDoorCards.lean) ties it to the program's text. -/
def laid_math_bits_deBruijn64tab {H : Type} : DataW H := .agg [.lit (.int .u8 0), .lit (.int .u8 1), .lit (.int .u8 56), .lit (.int .u8 2), .lit (.int .u8 57), .lit (.int .u8 49), .lit (.int .u8 28), .lit (.int .u8 3), .lit (.int .u8 61), .lit (.int .u8 58), .lit (.int .u8 42), .lit (.int .u8 50), .lit (.int .u8 38), .lit (.int .u8 29), .lit (.int .u8 17), .lit (.int .u8 4), .lit (.int .u8 62), .lit (.int .u8 47), .lit (.int .u8 59), .lit (.int .u8 36), .lit (.int .u8 45), .lit (.int .u8 43), .lit (.int .u8 51), .lit (.int .u8 22), .lit (.int .u8 53), .lit (.int .u8 39), .lit (.int .u8 33), .lit (.int .u8 30), .lit (.int .u8 24), .lit (.int .u8 18), .lit (.int .u8 12), .lit (.int .u8 5), .lit (.int .u8 63), .lit (.int .u8 55), .lit (.int .u8 48), .lit (.int .u8 27), .lit (.int .u8 60), .lit (.int .u8 41), .lit (.int .u8 37), .lit (.int .u8 16), .lit (.int .u8 46), .lit (.int .u8 35), .lit (.int .u8 44), .lit (.int .u8 21), .lit (.int .u8 52), .lit (.int .u8 32), .lit (.int .u8 23), .lit (.int .u8 11), .lit (.int .u8 54), .lit (.int .u8 26), .lit (.int .u8 40), .lit (.int .u8 15), .lit (.int .u8 34), .lit (.int .u8 20), .lit (.int .u8 31), .lit (.int .u8 10), .lit (.int .u8 25), .lit (.int .u8 14), .lit (.int .u8 19), .lit (.int .u8 9), .lit (.int .u8 13), .lit (.int .u8 8), .lit (.int .u8 7), .lit (.int .u8 6)]

/-- 'gantlinelaw7.MarkAll': WHATEVER THE INPUT: true; the input reads as it did. -/
def markAllSpec : ChangeSpec := { name := "markAll", fn := fun _ => fun
  | [d1, d2] => { results := [.lit (.bool true)], args := [d1, d2] }
  | _ => none }
def markAllRow : OpenClaim := { program := "ytkfdbgpegekcfaagreatdoor", sum := "22f5d379445df92ba13204c29fba53ca4e152e9a370db55148be2f553277e03e", func := "gantline/gantlinelaw7.MarkAll", spec := "markAll", unfollowed := true, recurses := true, named := ["math/bits.deBruijn64tab"], plainKeys := false, apart := false, laid := [("math/bits.deBruijn64tab", laid_math_bits_deBruijn64tab)] }
def MarkAllSaid : Prop := markAllRow.holds Tryz.pinned (OpenSpec.ofChange markAllSpec)

/-- ITS FALSE NEIGHBOUR: 'it returns false'. Refute it at one input. -/
def markAllWrong : ChangeSpec := { name := "markAll", fn := fun _ => fun
  | [d1, d2] => { results := [.lit (.bool false)], args := [d1, d2] }
  | _ => none }
def MarkAllWrongFalsely : Prop := markAllRow.holds Tryz.pinned (OpenSpec.ofChange markAllWrong)

/-- 'gantlinelaw7.MarkMore': WHATEVER THE INPUT: true; the input reads as it did. -/
def markMoreSpec : ChangeSpec := { name := "markMore", fn := fun _ => fun
  | [d1, d2, d3] => { results := [.lit (.bool true)], args := [d1, d2, d3] }
  | _ => none }
def markMoreRow : OpenClaim := { program := "ytkfdbgpegekcfaagreatdoor", sum := "22f5d379445df92ba13204c29fba53ca4e152e9a370db55148be2f553277e03e", func := "gantline/gantlinelaw7.MarkMore", spec := "markMore", unfollowed := true, recurses := true, named := ["math/bits.deBruijn64tab"], plainKeys := false, apart := false, laid := [("math/bits.deBruijn64tab", laid_math_bits_deBruijn64tab)] }
def MarkMoreSaid : Prop := markMoreRow.holds Tryz.pinned (OpenSpec.ofChange markMoreSpec)

/-- ITS FALSE NEIGHBOUR: 'it returns false'. Refute it at one input. -/
def markMoreWrong : ChangeSpec := { name := "markMore", fn := fun _ => fun
  | [d1, d2, d3] => { results := [.lit (.bool false)], args := [d1, d2, d3] }
  | _ => none }
def MarkMoreWrongFalsely : Prop := markMoreRow.holds Tryz.pinned (OpenSpec.ofChange markMoreWrong)

/-- 'gantlinelaw8.CycleEnds': WHATEVER THE INPUT: true; the input reads as it did. -/
def cycleEndsSpec : ChangeSpec := { name := "cycleEnds", fn := fun _ => fun
  | [d1, d2, d3] => { results := [.lit (.bool true)], args := [d1, d2, d3] }
  | _ => none }
def cycleEndsRow : OpenClaim := { program := "ytkfdbgpegekcfaagreatdoor", sum := "22f5d379445df92ba13204c29fba53ca4e152e9a370db55148be2f553277e03e", func := "gantline/gantlinelaw8.CycleEnds", spec := "cycleEnds", unfollowed := true, recurses := true, named := ["math/bits.deBruijn64tab"], plainKeys := false, apart := false, laid := [("math/bits.deBruijn64tab", laid_math_bits_deBruijn64tab)] }
def CycleEndsSaid : Prop := cycleEndsRow.holds Tryz.pinned (OpenSpec.ofChange cycleEndsSpec)

/-- ITS FALSE NEIGHBOUR: 'it returns false'. Refute it at one input. -/
def cycleEndsWrong : ChangeSpec := { name := "cycleEnds", fn := fun _ => fun
  | [d1, d2, d3] => { results := [.lit (.bool false)], args := [d1, d2, d3] }
  | _ => none }
def CycleEndsWrongFalsely : Prop := cycleEndsRow.holds Tryz.pinned (OpenSpec.ofChange cycleEndsWrong)

/-- 'gantlinelaw8.CycleSafe': WHATEVER THE INPUT: true; the input reads as it did. -/
def cycleSafeSpec : ChangeSpec := { name := "cycleSafe", fn := fun _ => fun
  | [d1, d2] => { results := [.lit (.bool true)], args := [d1, d2] }
  | _ => none }
def cycleSafeRow : OpenClaim := { program := "ytkfdbgpegekcfaagreatdoor", sum := "22f5d379445df92ba13204c29fba53ca4e152e9a370db55148be2f553277e03e", func := "gantline/gantlinelaw8.CycleSafe", spec := "cycleSafe", unfollowed := true, recurses := true, named := ["math/bits.deBruijn64tab"], plainKeys := false, apart := false, laid := [("math/bits.deBruijn64tab", laid_math_bits_deBruijn64tab)] }
def CycleSafeSaid : Prop := cycleSafeRow.holds Tryz.pinned (OpenSpec.ofChange cycleSafeSpec)

/-- ITS FALSE NEIGHBOUR: 'it returns false'. Refute it at one input. -/
def cycleSafeWrong : ChangeSpec := { name := "cycleSafe", fn := fun _ => fun
  | [d1, d2] => { results := [.lit (.bool false)], args := [d1, d2] }
  | _ => none }
def CycleSafeWrongFalsely : Prop := cycleSafeRow.holds Tryz.pinned (OpenSpec.ofChange cycleSafeWrong)

/-- 'gantlinelaw8.CycleWhole': WHATEVER THE INPUT: true; the input reads as it did. -/
def cycleWholeSpec : ChangeSpec := { name := "cycleWhole", fn := fun _ => fun
  | [d1, d2] => { results := [.lit (.bool true)], args := [d1, d2] }
  | _ => none }
def cycleWholeRow : OpenClaim := { program := "ytkfdbgpegekcfaagreatdoor", sum := "22f5d379445df92ba13204c29fba53ca4e152e9a370db55148be2f553277e03e", func := "gantline/gantlinelaw8.CycleWhole", spec := "cycleWhole", unfollowed := true, recurses := true, named := ["math/bits.deBruijn64tab"], plainKeys := false, apart := false, laid := [("math/bits.deBruijn64tab", laid_math_bits_deBruijn64tab)] }
def CycleWholeSaid : Prop := cycleWholeRow.holds Tryz.pinned (OpenSpec.ofChange cycleWholeSpec)

/-- ITS FALSE NEIGHBOUR: 'it returns false'. Refute it at one input. -/
def cycleWholeWrong : ChangeSpec := { name := "cycleWhole", fn := fun _ => fun
  | [d1, d2] => { results := [.lit (.bool false)], args := [d1, d2] }
  | _ => none }
def CycleWholeWrongFalsely : Prop := cycleWholeRow.holds Tryz.pinned (OpenSpec.ofChange cycleWholeWrong)

/-- 'gantlinelaw8.CycleKeeps': WHATEVER THE INPUT: true; the input reads as it did. -/
def cycleKeepsSpec : ChangeSpec := { name := "cycleKeeps", fn := fun _ => fun
  | [d1, d2, d3] => { results := [.lit (.bool true)], args := [d1, d2, d3] }
  | _ => none }
def cycleKeepsRow : OpenClaim := { program := "ytkfdbgpegekcfaagreatdoor", sum := "22f5d379445df92ba13204c29fba53ca4e152e9a370db55148be2f553277e03e", func := "gantline/gantlinelaw8.CycleKeeps", spec := "cycleKeeps", unfollowed := true, recurses := true, named := ["math/bits.deBruijn64tab"], plainKeys := false, apart := false, laid := [("math/bits.deBruijn64tab", laid_math_bits_deBruijn64tab)] }
def CycleKeepsSaid : Prop := cycleKeepsRow.holds Tryz.pinned (OpenSpec.ofChange cycleKeepsSpec)

/-- ITS FALSE NEIGHBOUR: 'it returns false'. Refute it at one input. -/
def cycleKeepsWrong : ChangeSpec := { name := "cycleKeeps", fn := fun _ => fun
  | [d1, d2, d3] => { results := [.lit (.bool false)], args := [d1, d2, d3] }
  | _ => none }
def CycleKeepsWrongFalsely : Prop := cycleKeepsRow.holds Tryz.pinned (OpenSpec.ofChange cycleKeepsWrong)

/-- 'gantlinelaw8.CycleFrees': WHATEVER THE INPUT: true; the input reads as it did. -/
def cycleFreesSpec : ChangeSpec := { name := "cycleFrees", fn := fun _ => fun
  | [d1, d2] => { results := [.lit (.bool true)], args := [d1, d2] }
  | _ => none }
def cycleFreesRow : OpenClaim := { program := "ytkfdbgpegekcfaagreatdoor", sum := "22f5d379445df92ba13204c29fba53ca4e152e9a370db55148be2f553277e03e", func := "gantline/gantlinelaw8.CycleFrees", spec := "cycleFrees", unfollowed := true, recurses := true, named := ["math/bits.deBruijn64tab"], plainKeys := false, apart := false, laid := [("math/bits.deBruijn64tab", laid_math_bits_deBruijn64tab)] }
def CycleFreesSaid : Prop := cycleFreesRow.holds Tryz.pinned (OpenSpec.ofChange cycleFreesSpec)

/-- ITS FALSE NEIGHBOUR: 'it returns false'. Refute it at one input. -/
def cycleFreesWrong : ChangeSpec := { name := "cycleFrees", fn := fun _ => fun
  | [d1, d2] => { results := [.lit (.bool false)], args := [d1, d2] }
  | _ => none }
def CycleFreesWrongFalsely : Prop := cycleFreesRow.holds Tryz.pinned (OpenSpec.ofChange cycleFreesWrong)

/- THE SECOND FORM. 'bulk': how many values and letters a reading holds, each counted each time it is reached (what is shared counts as often as it is met; a slice's spare places count too). A statement '..UptoSaid' is the law's where the arguments, and the package variables that the reading takes, are together of bulk at most 1048576: NARROWER than '..Said'. Prove '..Said' where nothing that the law and all that it calls make is longer than what came in: it says more and counts as full. Else prove '..UptoSaid'. A law counts once. -/
mutual
def uptoBulk {H : Type} : DataW H → Nat
  | .lit (.string bytes) => bytes.length + 1
  | .lit _ => 1
  | .nil => 1
  | .ptr d => uptoBulk d + 1
  | .slice elems spare => uptoBulkAll elems + uptoBulkAll spare + 1
  | .agg parts => uptoBulkAll parts + 1
  | .iface _ d => uptoBulk d + 1
  | .map entries => uptoBulkEntries entries + 1
  | .held _ => 1
def uptoBulkAll {H : Type} : List (DataW H) → Nat
  | [] => 0
  | d :: r => uptoBulk d + uptoBulkAll r
def uptoBulkEntries {H : Type} : List (Lit × DataW H) → Nat
  | [] => 0
  | x :: r => uptoBulkEntry x + uptoBulkEntries r
def uptoBulkEntry {H : Type} : Lit × DataW H → Nat
  | (.string bytes, d) => bytes.length + uptoBulk d + 1
  | (_, d) => uptoBulk d + 1
 end
def uptoSmall : (H : Type) → List (DataW H) → Bool := fun _ ds => decide (uptoBulkAll ds ≤ 1048576)
def OpenSpec.upto (s : _root_.Go.ChangeSpec) : _root_.Go.OpenSpec := { _root_.Go.OpenSpec.ofChange s with cond := some uptoSmall }

/-- 'gantlinelaw7.MarkAll', WHERE WHAT IT READS IS OF BULK AT MOST 1048576: true; the input reads as it did. -/
def markAllUptoRow : OpenClaim := { program := "ytkfdbgpegekcfaagreatdoor", sum := "22f5d379445df92ba13204c29fba53ca4e152e9a370db55148be2f553277e03e", func := "gantline/gantlinelaw7.MarkAll", spec := "markAll", unfollowed := true, recurses := true, named := ["math/bits.deBruijn64tab"], plainKeys := false, apart := false, laid := [("math/bits.deBruijn64tab", laid_math_bits_deBruijn64tab)], narrowed := true }
def MarkAllUptoSaid : Prop := markAllUptoRow.holds Tryz.pinned (OpenSpec.upto markAllSpec)

/-- 'gantlinelaw7.MarkMore', WHERE WHAT IT READS IS OF BULK AT MOST 1048576: true; the input reads as it did. -/
def markMoreUptoRow : OpenClaim := { program := "ytkfdbgpegekcfaagreatdoor", sum := "22f5d379445df92ba13204c29fba53ca4e152e9a370db55148be2f553277e03e", func := "gantline/gantlinelaw7.MarkMore", spec := "markMore", unfollowed := true, recurses := true, named := ["math/bits.deBruijn64tab"], plainKeys := false, apart := false, laid := [("math/bits.deBruijn64tab", laid_math_bits_deBruijn64tab)], narrowed := true }
def MarkMoreUptoSaid : Prop := markMoreUptoRow.holds Tryz.pinned (OpenSpec.upto markMoreSpec)

/-- 'gantlinelaw8.CycleEnds', WHERE WHAT IT READS IS OF BULK AT MOST 1048576: true; the input reads as it did. -/
def cycleEndsUptoRow : OpenClaim := { program := "ytkfdbgpegekcfaagreatdoor", sum := "22f5d379445df92ba13204c29fba53ca4e152e9a370db55148be2f553277e03e", func := "gantline/gantlinelaw8.CycleEnds", spec := "cycleEnds", unfollowed := true, recurses := true, named := ["math/bits.deBruijn64tab"], plainKeys := false, apart := false, laid := [("math/bits.deBruijn64tab", laid_math_bits_deBruijn64tab)], narrowed := true }
def CycleEndsUptoSaid : Prop := cycleEndsUptoRow.holds Tryz.pinned (OpenSpec.upto cycleEndsSpec)

/-- 'gantlinelaw8.CycleSafe', WHERE WHAT IT READS IS OF BULK AT MOST 1048576: true; the input reads as it did. -/
def cycleSafeUptoRow : OpenClaim := { program := "ytkfdbgpegekcfaagreatdoor", sum := "22f5d379445df92ba13204c29fba53ca4e152e9a370db55148be2f553277e03e", func := "gantline/gantlinelaw8.CycleSafe", spec := "cycleSafe", unfollowed := true, recurses := true, named := ["math/bits.deBruijn64tab"], plainKeys := false, apart := false, laid := [("math/bits.deBruijn64tab", laid_math_bits_deBruijn64tab)], narrowed := true }
def CycleSafeUptoSaid : Prop := cycleSafeUptoRow.holds Tryz.pinned (OpenSpec.upto cycleSafeSpec)

/-- 'gantlinelaw8.CycleWhole', WHERE WHAT IT READS IS OF BULK AT MOST 1048576: true; the input reads as it did. -/
def cycleWholeUptoRow : OpenClaim := { program := "ytkfdbgpegekcfaagreatdoor", sum := "22f5d379445df92ba13204c29fba53ca4e152e9a370db55148be2f553277e03e", func := "gantline/gantlinelaw8.CycleWhole", spec := "cycleWhole", unfollowed := true, recurses := true, named := ["math/bits.deBruijn64tab"], plainKeys := false, apart := false, laid := [("math/bits.deBruijn64tab", laid_math_bits_deBruijn64tab)], narrowed := true }
def CycleWholeUptoSaid : Prop := cycleWholeUptoRow.holds Tryz.pinned (OpenSpec.upto cycleWholeSpec)

/-- 'gantlinelaw8.CycleKeeps', WHERE WHAT IT READS IS OF BULK AT MOST 1048576: true; the input reads as it did. -/
def cycleKeepsUptoRow : OpenClaim := { program := "ytkfdbgpegekcfaagreatdoor", sum := "22f5d379445df92ba13204c29fba53ca4e152e9a370db55148be2f553277e03e", func := "gantline/gantlinelaw8.CycleKeeps", spec := "cycleKeeps", unfollowed := true, recurses := true, named := ["math/bits.deBruijn64tab"], plainKeys := false, apart := false, laid := [("math/bits.deBruijn64tab", laid_math_bits_deBruijn64tab)], narrowed := true }
def CycleKeepsUptoSaid : Prop := cycleKeepsUptoRow.holds Tryz.pinned (OpenSpec.upto cycleKeepsSpec)

/-- 'gantlinelaw8.CycleFrees', WHERE WHAT IT READS IS OF BULK AT MOST 1048576: true; the input reads as it did. -/
def cycleFreesUptoRow : OpenClaim := { program := "ytkfdbgpegekcfaagreatdoor", sum := "22f5d379445df92ba13204c29fba53ca4e152e9a370db55148be2f553277e03e", func := "gantline/gantlinelaw8.CycleFrees", spec := "cycleFrees", unfollowed := true, recurses := true, named := ["math/bits.deBruijn64tab"], plainKeys := false, apart := false, laid := [("math/bits.deBruijn64tab", laid_math_bits_deBruijn64tab)], narrowed := true }
def CycleFreesUptoSaid : Prop := cycleFreesUptoRow.holds Tryz.pinned (OpenSpec.upto cycleFreesSpec)

end Rows
end Go.Proofs.YtkfdbgpegekcfaaGreatDoor
