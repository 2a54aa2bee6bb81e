/-
  NARROWER THAN 'FOR EVERY INPUT', by the rows' own cells (each row's printed sentence says how): ScavMay: laid · RouteMay: laid · FlushMay: laid · SweeperMay: laid · CycleMay: laid · RefillMay: laid · FrontMay: laid.
  DERIVED. THE GIVEN ROWS OF THIS SEAT. 7 by the template 'for every input the law returns true; each argument reads behind the call as it read before'; 0 by the template 'total and deterministic' (their statements: YtickhjoakbldpaaGreatDoorTotals.lean).
  GIVEN WITH THE SEED: the statements are not yours to turn. If you find one false, say at which input.
  Laid BY PROGRAM, IN A SANDBOX (cutbox-rows.mjs): the forced cells as the released guide's own fill.sh prints them over the translation 6657f675b8df0345… (all of the seat's roots in one cut). By AI agents, Wed Nov 11 2026. No macro, syntax, notation, axiom, sorry.
-/
import Derived.Test.YtickhjoakbldpaaGreatDoorChecked
import GoSem.Claim
import GoSem.ClaimJoined
import GoSem.ClaimMapViews
import Derived.JoinedTies
import Derived.KernelRfl
namespace Go.Proofs.YtickhjoakbldpaaGreatDoor
/- THE CELL 'sum', in the pinned program and in every row, IS THE sha256 OF THE DUMP (.gsa) THAT YtickhjoakbldpaaGreatDoorProg.lean LOADS. Nothing in Lean hashes anything: it is a label: what it is worth is what the hold of that sum in a sandbox is worth. -/
noncomputable def Tryz.pinned : Pinned := { name := "ytickhjoakbldpaagreatdoor", sum := "6657f675b8df03455159ca96f82bb6ededb730a0e411688fbcb9108ae7352d80", checked := Tryz.checked }
namespace Rows
def none {H : Type} : Left H := { results := [], args := [] }

/- WHAT THE LISTED PACKAGE-LEVEL VARIABLES READ AS WHEN THE CALL BEGINS. Each datum BY PROGRAM (the guide's laid-datum.mjs) off the statement by which the dump's own 'gosem.cut.vars' lays the variable. In a bare row this is a premise. The card (YtickhjoakbldpaaGreatDoorCards.lean) ties it to the program's text. -/
def laid_math_bits_deBruijn64tab {H : Type} : DataW H := .agg [.lit (.int .u8 0), .lit (.int .u8 1), .lit (.int .u8 56), .lit (.int .u8 2), .lit (.int .u8 57), .lit (.int .u8 49), .lit (.int .u8 28), .lit (.int .u8 3), .lit (.int .u8 61), .lit (.int .u8 58), .lit (.int .u8 42), .lit (.int .u8 50), .lit (.int .u8 38), .lit (.int .u8 29), .lit (.int .u8 17), .lit (.int .u8 4), .lit (.int .u8 62), .lit (.int .u8 47), .lit (.int .u8 59), .lit (.int .u8 36), .lit (.int .u8 45), .lit (.int .u8 43), .lit (.int .u8 51), .lit (.int .u8 22), .lit (.int .u8 53), .lit (.int .u8 39), .lit (.int .u8 33), .lit (.int .u8 30), .lit (.int .u8 24), .lit (.int .u8 18), .lit (.int .u8 12), .lit (.int .u8 5), .lit (.int .u8 63), .lit (.int .u8 55), .lit (.int .u8 48), .lit (.int .u8 27), .lit (.int .u8 60), .lit (.int .u8 41), .lit (.int .u8 37), .lit (.int .u8 16), .lit (.int .u8 46), .lit (.int .u8 35), .lit (.int .u8 44), .lit (.int .u8 21), .lit (.int .u8 52), .lit (.int .u8 32), .lit (.int .u8 23), .lit (.int .u8 11), .lit (.int .u8 54), .lit (.int .u8 26), .lit (.int .u8 40), .lit (.int .u8 15), .lit (.int .u8 34), .lit (.int .u8 20), .lit (.int .u8 31), .lit (.int .u8 10), .lit (.int .u8 25), .lit (.int .u8 14), .lit (.int .u8 19), .lit (.int .u8 9), .lit (.int .u8 13), .lit (.int .u8 8), .lit (.int .u8 7), .lit (.int .u8 6)]
def laid_dustpan_class_table {H : Type} : DataW H := .agg [.agg [.lit (.int .i64 128), .lit (.int .i64 1)], .agg [.lit (.int .i64 192), .lit (.int .i64 1)], .agg [.lit (.int .i64 256), .lit (.int .i64 1)], .agg [.lit (.int .i64 384), .lit (.int .i64 1)], .agg [.lit (.int .i64 512), .lit (.int .i64 1)], .agg [.lit (.int .i64 768), .lit (.int .i64 1)], .agg [.lit (.int .i64 1024), .lit (.int .i64 1)], .agg [.lit (.int .i64 1536), .lit (.int .i64 3)], .agg [.lit (.int .i64 2048), .lit (.int .i64 1)], .agg [.lit (.int .i64 3072), .lit (.int .i64 3)], .agg [.lit (.int .i64 4096), .lit (.int .i64 1)], .agg [.lit (.int .i64 6144), .lit (.int .i64 3)], .agg [.lit (.int .i64 8192), .lit (.int .i64 2)], .agg [.lit (.int .i64 12288), .lit (.int .i64 3)]]

/-- 'dustpanlaw24.ScavMay': WHATEVER THE INPUT: true; the input reads as it did. -/
def scavMaySpec : ChangeSpec := { name := "scavMay", fn := fun _ => fun
  | [d1, d2, d3] => { results := [.lit (.bool true)], args := [d1, d2, d3] }
  | _ => none }
def scavMayRow : OpenClaim := { program := "ytickhjoakbldpaagreatdoor", sum := "6657f675b8df03455159ca96f82bb6ededb730a0e411688fbcb9108ae7352d80", func := "dustpan/dustpanlaw24.ScavMay", spec := "scavMay", inPlace := ["slices.overlaps[dustpan/api.Run]"], unfollowed := true, recurses := true, named := ["math/bits.deBruijn64tab"], apart := false, laid := [("math/bits.deBruijn64tab", laid_math_bits_deBruijn64tab)] }
def ScavMaySaid : Prop := scavMayRow.holds Tryz.pinned (OpenSpec.ofChange scavMaySpec)

/-- ITS FALSE NEIGHBOUR: 'it returns false'. Refute it at one input. -/
def scavMayWrong : ChangeSpec := { name := "scavMay", fn := fun _ => fun
  | [d1, d2, d3] => { results := [.lit (.bool false)], args := [d1, d2, d3] }
  | _ => none }
def ScavMayWrongFalsely : Prop := scavMayRow.holds Tryz.pinned (OpenSpec.ofChange scavMayWrong)

/-- 'dustpanlaw18.RouteMay': WHATEVER THE INPUT: true; the input reads as it did. -/
def routeMaySpec : ChangeSpec := { name := "routeMay", fn := fun _ => fun
  | [d1, d2, d3, d4] => { results := [.lit (.bool true)], args := [d1, d2, d3, d4] }
  | _ => none }
def routeMayRow : OpenClaim := { program := "ytickhjoakbldpaagreatdoor", sum := "6657f675b8df03455159ca96f82bb6ededb730a0e411688fbcb9108ae7352d80", func := "dustpan/dustpanlaw18.RouteMay", spec := "routeMay", inPlace := ["slices.overlaps[dustpan/api.Run]"], unfollowed := true, recurses := true, named := ["dustpan/class.table", "math/bits.deBruijn64tab"], apart := false, laid := [("dustpan/class.table", laid_dustpan_class_table), ("math/bits.deBruijn64tab", laid_math_bits_deBruijn64tab)] }
def RouteMaySaid : Prop := routeMayRow.holds Tryz.pinned (OpenSpec.ofChange routeMaySpec)

/-- ITS FALSE NEIGHBOUR: 'it returns false'. Refute it at one input. -/
def routeMayWrong : ChangeSpec := { name := "routeMay", fn := fun _ => fun
  | [d1, d2, d3, d4] => { results := [.lit (.bool false)], args := [d1, d2, d3, d4] }
  | _ => none }
def RouteMayWrongFalsely : Prop := routeMayRow.holds Tryz.pinned (OpenSpec.ofChange routeMayWrong)

/-- 'dustpanlaw22.FlushMay': WHATEVER THE INPUT: true; the input reads as it did. -/
def flushMaySpec : ChangeSpec := { name := "flushMay", fn := fun _ => fun
  | [d1, d2] => { results := [.lit (.bool true)], args := [d1, d2] }
  | _ => none }
def flushMayRow : OpenClaim := { program := "ytickhjoakbldpaagreatdoor", sum := "6657f675b8df03455159ca96f82bb6ededb730a0e411688fbcb9108ae7352d80", func := "dustpan/dustpanlaw22.FlushMay", spec := "flushMay", inPlace := ["slices.overlaps[dustpan/api.Run]"], unfollowed := true, recurses := true, named := ["dustpan/class.table", "math/bits.deBruijn64tab"], apart := false, laid := [("dustpan/class.table", laid_dustpan_class_table), ("math/bits.deBruijn64tab", laid_math_bits_deBruijn64tab)] }
def FlushMaySaid : Prop := flushMayRow.holds Tryz.pinned (OpenSpec.ofChange flushMaySpec)

/-- ITS FALSE NEIGHBOUR: 'it returns false'. Refute it at one input. -/
def flushMayWrong : ChangeSpec := { name := "flushMay", fn := fun _ => fun
  | [d1, d2] => { results := [.lit (.bool false)], args := [d1, d2] }
  | _ => none }
def FlushMayWrongFalsely : Prop := flushMayRow.holds Tryz.pinned (OpenSpec.ofChange flushMayWrong)

/-- 'dustpanlaw23.SweeperMay': WHATEVER THE INPUT: true; the input reads as it did. -/
def sweeperMaySpec : ChangeSpec := { name := "sweeperMay", fn := fun _ => fun
  | [d1, d2, d3] => { results := [.lit (.bool true)], args := [d1, d2, d3] }
  | _ => none }
def sweeperMayRow : OpenClaim := { program := "ytickhjoakbldpaagreatdoor", sum := "6657f675b8df03455159ca96f82bb6ededb730a0e411688fbcb9108ae7352d80", func := "dustpan/dustpanlaw23.SweeperMay", spec := "sweeperMay", inPlace := ["slices.overlaps[dustpan/api.Run]"], unfollowed := true, recurses := true, named := ["dustpan/class.table", "math/bits.deBruijn64tab"], apart := false, laid := [("dustpan/class.table", laid_dustpan_class_table), ("math/bits.deBruijn64tab", laid_math_bits_deBruijn64tab)] }
def SweeperMaySaid : Prop := sweeperMayRow.holds Tryz.pinned (OpenSpec.ofChange sweeperMaySpec)

/-- ITS FALSE NEIGHBOUR: 'it returns false'. Refute it at one input. -/
def sweeperMayWrong : ChangeSpec := { name := "sweeperMay", fn := fun _ => fun
  | [d1, d2, d3] => { results := [.lit (.bool false)], args := [d1, d2, d3] }
  | _ => none }
def SweeperMayWrongFalsely : Prop := sweeperMayRow.holds Tryz.pinned (OpenSpec.ofChange sweeperMayWrong)

/-- 'dustpanlaw25.CycleMay': WHATEVER THE INPUT: true; the input reads as it did. -/
def cycleMaySpec : ChangeSpec := { name := "cycleMay", fn := fun _ => fun
  | [d1, d2, d3, d4] => { results := [.lit (.bool true)], args := [d1, d2, d3, d4] }
  | _ => none }
def cycleMayRow : OpenClaim := { program := "ytickhjoakbldpaagreatdoor", sum := "6657f675b8df03455159ca96f82bb6ededb730a0e411688fbcb9108ae7352d80", func := "dustpan/dustpanlaw25.CycleMay", spec := "cycleMay", inPlace := ["slices.overlaps[dustpan/api.Run]"], unfollowed := true, recurses := true, named := ["dustpan/class.table", "math/bits.deBruijn64tab"], apart := false, laid := [("dustpan/class.table", laid_dustpan_class_table), ("math/bits.deBruijn64tab", laid_math_bits_deBruijn64tab)] }
def CycleMaySaid : Prop := cycleMayRow.holds Tryz.pinned (OpenSpec.ofChange cycleMaySpec)

/-- ITS FALSE NEIGHBOUR: 'it returns false'. Refute it at one input. -/
def cycleMayWrong : ChangeSpec := { name := "cycleMay", fn := fun _ => fun
  | [d1, d2, d3, d4] => { results := [.lit (.bool false)], args := [d1, d2, d3, d4] }
  | _ => none }
def CycleMayWrongFalsely : Prop := cycleMayRow.holds Tryz.pinned (OpenSpec.ofChange cycleMayWrong)

/-- 'dustpanlaw19.RefillMay': WHATEVER THE INPUT: true; the input reads as it did. -/
def refillMaySpec : ChangeSpec := { name := "refillMay", fn := fun _ => fun
  | [d1, d2, d3, d4] => { results := [.lit (.bool true)], args := [d1, d2, d3, d4] }
  | _ => none }
def refillMayRow : OpenClaim := { program := "ytickhjoakbldpaagreatdoor", sum := "6657f675b8df03455159ca96f82bb6ededb730a0e411688fbcb9108ae7352d80", func := "dustpan/dustpanlaw19.RefillMay", spec := "refillMay", inPlace := ["slices.overlaps[dustpan/api.Run]"], unfollowed := true, recurses := true, named := ["dustpan/class.table", "math/bits.deBruijn64tab"], apart := false, laid := [("dustpan/class.table", laid_dustpan_class_table), ("math/bits.deBruijn64tab", laid_math_bits_deBruijn64tab)] }
def RefillMaySaid : Prop := refillMayRow.holds Tryz.pinned (OpenSpec.ofChange refillMaySpec)

/-- ITS FALSE NEIGHBOUR: 'it returns false'. Refute it at one input. -/
def refillMayWrong : ChangeSpec := { name := "refillMay", fn := fun _ => fun
  | [d1, d2, d3, d4] => { results := [.lit (.bool false)], args := [d1, d2, d3, d4] }
  | _ => none }
def RefillMayWrongFalsely : Prop := refillMayRow.holds Tryz.pinned (OpenSpec.ofChange refillMayWrong)

/-- 'dustpanlaw21.FrontMay': WHATEVER THE INPUT: true; the input reads as it did. -/
def frontMaySpec : ChangeSpec := { name := "frontMay", fn := fun _ => fun
  | [d1, d2, d3] => { results := [.lit (.bool true)], args := [d1, d2, d3] }
  | _ => none }
def frontMayRow : OpenClaim := { program := "ytickhjoakbldpaagreatdoor", sum := "6657f675b8df03455159ca96f82bb6ededb730a0e411688fbcb9108ae7352d80", func := "dustpan/dustpanlaw21.FrontMay", spec := "frontMay", inPlace := ["slices.overlaps[dustpan/api.Run]"], unfollowed := true, recurses := true, named := ["dustpan/class.table", "math/bits.deBruijn64tab"], apart := false, laid := [("dustpan/class.table", laid_dustpan_class_table), ("math/bits.deBruijn64tab", laid_math_bits_deBruijn64tab)] }
def FrontMaySaid : Prop := frontMayRow.holds Tryz.pinned (OpenSpec.ofChange frontMaySpec)

/-- ITS FALSE NEIGHBOUR: 'it returns false'. Refute it at one input. -/
def frontMayWrong : ChangeSpec := { name := "frontMay", fn := fun _ => fun
  | [d1, d2, d3] => { results := [.lit (.bool false)], args := [d1, d2, d3] }
  | _ => none }
def FrontMayWrongFalsely : Prop := frontMayRow.holds Tryz.pinned (OpenSpec.ofChange frontMayWrong)

/- THE SECOND FORM. 'bulk': how many values and letters a reading holds, each counted each time it is reached (what is shared counts as often as it is met; a slice's spare places count too). A statement '..UptoSaid' is the law's where the arguments, and the package variables that the reading takes, are together of bulk at most 1048576: NARROWER than '..Said'. Prove '..Said' where nothing that the law and all that it calls make is longer than what came in: it says more and counts as full. Else prove '..UptoSaid'. A law counts once. -/
mutual
def uptoBulk {H : Type} : DataW H → Nat
  | .lit (.string bytes) => bytes.length + 1
  | .lit _ => 1
  | .nil => 1
  | .ptr d => uptoBulk d + 1
  | .slice elems spare => uptoBulkAll elems + uptoBulkAll spare + 1
  | .agg parts => uptoBulkAll parts + 1
  | .iface _ d => uptoBulk d + 1
  | .map entries => uptoBulkEntries entries + 1
  | .held _ => 1
def uptoBulkAll {H : Type} : List (DataW H) → Nat
  | [] => 0
  | d :: r => uptoBulk d + uptoBulkAll r
def uptoBulkEntries {H : Type} : List (Lit × DataW H) → Nat
  | [] => 0
  | x :: r => uptoBulkEntry x + uptoBulkEntries r
def uptoBulkEntry {H : Type} : Lit × DataW H → Nat
  | (.string bytes, d) => bytes.length + uptoBulk d + 1
  | (_, d) => uptoBulk d + 1
 end
def uptoSmall : (H : Type) → List (DataW H) → Bool := fun _ ds => decide (uptoBulkAll ds ≤ 1048576)
def OpenSpec.upto (s : _root_.Go.ChangeSpec) : _root_.Go.OpenSpec := { _root_.Go.OpenSpec.ofChange s with cond := some uptoSmall }

/-- 'dustpanlaw24.ScavMay', WHERE WHAT IT READS IS OF BULK AT MOST 1048576: true; the input reads as it did. -/
def scavMayUptoRow : OpenClaim := { program := "ytickhjoakbldpaagreatdoor", sum := "6657f675b8df03455159ca96f82bb6ededb730a0e411688fbcb9108ae7352d80", func := "dustpan/dustpanlaw24.ScavMay", spec := "scavMay", inPlace := ["slices.overlaps[dustpan/api.Run]"], unfollowed := true, recurses := true, named := ["math/bits.deBruijn64tab"], apart := false, laid := [("math/bits.deBruijn64tab", laid_math_bits_deBruijn64tab)], narrowed := true }
def ScavMayUptoSaid : Prop := scavMayUptoRow.holds Tryz.pinned (OpenSpec.upto scavMaySpec)

/-- 'dustpanlaw18.RouteMay', WHERE WHAT IT READS IS OF BULK AT MOST 1048576: true; the input reads as it did. -/
def routeMayUptoRow : OpenClaim := { program := "ytickhjoakbldpaagreatdoor", sum := "6657f675b8df03455159ca96f82bb6ededb730a0e411688fbcb9108ae7352d80", func := "dustpan/dustpanlaw18.RouteMay", spec := "routeMay", inPlace := ["slices.overlaps[dustpan/api.Run]"], unfollowed := true, recurses := true, named := ["dustpan/class.table", "math/bits.deBruijn64tab"], apart := false, laid := [("dustpan/class.table", laid_dustpan_class_table), ("math/bits.deBruijn64tab", laid_math_bits_deBruijn64tab)], narrowed := true }
def RouteMayUptoSaid : Prop := routeMayUptoRow.holds Tryz.pinned (OpenSpec.upto routeMaySpec)

/-- 'dustpanlaw22.FlushMay', WHERE WHAT IT READS IS OF BULK AT MOST 1048576: true; the input reads as it did. -/
def flushMayUptoRow : OpenClaim := { program := "ytickhjoakbldpaagreatdoor", sum := "6657f675b8df03455159ca96f82bb6ededb730a0e411688fbcb9108ae7352d80", func := "dustpan/dustpanlaw22.FlushMay", spec := "flushMay", inPlace := ["slices.overlaps[dustpan/api.Run]"], unfollowed := true, recurses := true, named := ["dustpan/class.table", "math/bits.deBruijn64tab"], apart := false, laid := [("dustpan/class.table", laid_dustpan_class_table), ("math/bits.deBruijn64tab", laid_math_bits_deBruijn64tab)], narrowed := true }
def FlushMayUptoSaid : Prop := flushMayUptoRow.holds Tryz.pinned (OpenSpec.upto flushMaySpec)

/-- 'dustpanlaw23.SweeperMay', WHERE WHAT IT READS IS OF BULK AT MOST 1048576: true; the input reads as it did. -/
def sweeperMayUptoRow : OpenClaim := { program := "ytickhjoakbldpaagreatdoor", sum := "6657f675b8df03455159ca96f82bb6ededb730a0e411688fbcb9108ae7352d80", func := "dustpan/dustpanlaw23.SweeperMay", spec := "sweeperMay", inPlace := ["slices.overlaps[dustpan/api.Run]"], unfollowed := true, recurses := true, named := ["dustpan/class.table", "math/bits.deBruijn64tab"], apart := false, laid := [("dustpan/class.table", laid_dustpan_class_table), ("math/bits.deBruijn64tab", laid_math_bits_deBruijn64tab)], narrowed := true }
def SweeperMayUptoSaid : Prop := sweeperMayUptoRow.holds Tryz.pinned (OpenSpec.upto sweeperMaySpec)

/-- 'dustpanlaw25.CycleMay', WHERE WHAT IT READS IS OF BULK AT MOST 1048576: true; the input reads as it did. -/
def cycleMayUptoRow : OpenClaim := { program := "ytickhjoakbldpaagreatdoor", sum := "6657f675b8df03455159ca96f82bb6ededb730a0e411688fbcb9108ae7352d80", func := "dustpan/dustpanlaw25.CycleMay", spec := "cycleMay", inPlace := ["slices.overlaps[dustpan/api.Run]"], unfollowed := true, recurses := true, named := ["dustpan/class.table", "math/bits.deBruijn64tab"], apart := false, laid := [("dustpan/class.table", laid_dustpan_class_table), ("math/bits.deBruijn64tab", laid_math_bits_deBruijn64tab)], narrowed := true }
def CycleMayUptoSaid : Prop := cycleMayUptoRow.holds Tryz.pinned (OpenSpec.upto cycleMaySpec)

/-- 'dustpanlaw19.RefillMay', WHERE WHAT IT READS IS OF BULK AT MOST 1048576: true; the input reads as it did. -/
def refillMayUptoRow : OpenClaim := { program := "ytickhjoakbldpaagreatdoor", sum := "6657f675b8df03455159ca96f82bb6ededb730a0e411688fbcb9108ae7352d80", func := "dustpan/dustpanlaw19.RefillMay", spec := "refillMay", inPlace := ["slices.overlaps[dustpan/api.Run]"], unfollowed := true, recurses := true, named := ["dustpan/class.table", "math/bits.deBruijn64tab"], apart := false, laid := [("dustpan/class.table", laid_dustpan_class_table), ("math/bits.deBruijn64tab", laid_math_bits_deBruijn64tab)], narrowed := true }
def RefillMayUptoSaid : Prop := refillMayUptoRow.holds Tryz.pinned (OpenSpec.upto refillMaySpec)

/-- 'dustpanlaw21.FrontMay', WHERE WHAT IT READS IS OF BULK AT MOST 1048576: true; the input reads as it did. -/
def frontMayUptoRow : OpenClaim := { program := "ytickhjoakbldpaagreatdoor", sum := "6657f675b8df03455159ca96f82bb6ededb730a0e411688fbcb9108ae7352d80", func := "dustpan/dustpanlaw21.FrontMay", spec := "frontMay", inPlace := ["slices.overlaps[dustpan/api.Run]"], unfollowed := true, recurses := true, named := ["dustpan/class.table", "math/bits.deBruijn64tab"], apart := false, laid := [("dustpan/class.table", laid_dustpan_class_table), ("math/bits.deBruijn64tab", laid_math_bits_deBruijn64tab)], narrowed := true }
def FrontMayUptoSaid : Prop := frontMayUptoRow.holds Tryz.pinned (OpenSpec.upto frontMaySpec)

end Rows
end Go.Proofs.YtickhjoakbldpaaGreatDoor
