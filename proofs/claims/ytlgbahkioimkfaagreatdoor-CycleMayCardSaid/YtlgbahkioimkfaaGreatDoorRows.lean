/-
  NARROWER THAN 'FOR EVERY INPUT', by the rows' own cells (each row's printed sentence says how): RouteHeads: laid · RouteMay: laid · CycleMay: laid · RefillMay: laid · FrontMay: laid.
  DERIVED. THE GIVEN ROWS OF THIS SEAT. 5 by the template 'for every input the law returns true; each argument reads behind the call as it read before'; 0 by the template 'total and deterministic' (their statements: YtlgbahkioimkfaaGreatDoorTotals.lean).
  GIVEN WITH THE SEED: the statements are not yours to turn. If you find one false, say at which input.
  Laid BY PROGRAM, IN A SANDBOX (cutbox-rows.mjs): the forced cells as the released guide's own fill.sh prints them over the translation 9bc08336dbc8df06… (all of the seat's roots in one cut). By AI agents, Wed Nov 11 2026. No macro, syntax, notation, axiom, sorry.
-/
import Derived.Test.YtlgbahkioimkfaaGreatDoorChecked
import GoSem.Claim
import GoSem.ClaimJoined
import GoSem.ClaimMapViews
import Derived.JoinedTies
import Derived.KernelRfl
namespace Go.Proofs.YtlgbahkioimkfaaGreatDoor
/- THE CELL 'sum', in the pinned program and in every row, IS THE sha256 OF THE DUMP (.gsa) THAT YtlgbahkioimkfaaGreatDoorProg.lean LOADS. Nothing in Lean hashes anything: it is a label: what it is worth is what the hold of that sum in a sandbox is worth. -/
noncomputable def Tryz.pinned : Pinned := { name := "ytlgbahkioimkfaagreatdoor", sum := "9bc08336dbc8df06508d0c33069a3b59072f608d66a8dc54189a9cc7cec0d879", checked := Tryz.checked }
namespace Rows
def none {H : Type} : Left H := { results := [], args := [] }

/- WHAT THE LISTED PACKAGE-LEVEL VARIABLES READ AS WHEN THE CALL BEGINS. Each datum BY PROGRAM (the guide's laid-datum.mjs) off the statement by which the dump's own 'gosem.cut.vars' lays the variable. In a bare row this is a premise. The card (YtlgbahkioimkfaaGreatDoorCards.lean) ties it to the program's text. -/
def laid_dustpan_class_table {H : Type} : DataW H := .agg [.agg [.lit (.int .i64 128), .lit (.int .i64 1)], .agg [.lit (.int .i64 192), .lit (.int .i64 1)], .agg [.lit (.int .i64 256), .lit (.int .i64 1)], .agg [.lit (.int .i64 384), .lit (.int .i64 1)], .agg [.lit (.int .i64 512), .lit (.int .i64 1)], .agg [.lit (.int .i64 768), .lit (.int .i64 1)], .agg [.lit (.int .i64 1024), .lit (.int .i64 1)], .agg [.lit (.int .i64 1536), .lit (.int .i64 3)], .agg [.lit (.int .i64 2048), .lit (.int .i64 1)], .agg [.lit (.int .i64 3072), .lit (.int .i64 3)], .agg [.lit (.int .i64 4096), .lit (.int .i64 1)], .agg [.lit (.int .i64 6144), .lit (.int .i64 3)], .agg [.lit (.int .i64 8192), .lit (.int .i64 2)], .agg [.lit (.int .i64 12288), .lit (.int .i64 3)]]
def laid_math_bits_deBruijn64tab {H : Type} : DataW H := .agg [.lit (.int .u8 0), .lit (.int .u8 1), .lit (.int .u8 56), .lit (.int .u8 2), .lit (.int .u8 57), .lit (.int .u8 49), .lit (.int .u8 28), .lit (.int .u8 3), .lit (.int .u8 61), .lit (.int .u8 58), .lit (.int .u8 42), .lit (.int .u8 50), .lit (.int .u8 38), .lit (.int .u8 29), .lit (.int .u8 17), .lit (.int .u8 4), .lit (.int .u8 62), .lit (.int .u8 47), .lit (.int .u8 59), .lit (.int .u8 36), .lit (.int .u8 45), .lit (.int .u8 43), .lit (.int .u8 51), .lit (.int .u8 22), .lit (.int .u8 53), .lit (.int .u8 39), .lit (.int .u8 33), .lit (.int .u8 30), .lit (.int .u8 24), .lit (.int .u8 18), .lit (.int .u8 12), .lit (.int .u8 5), .lit (.int .u8 63), .lit (.int .u8 55), .lit (.int .u8 48), .lit (.int .u8 27), .lit (.int .u8 60), .lit (.int .u8 41), .lit (.int .u8 37), .lit (.int .u8 16), .lit (.int .u8 46), .lit (.int .u8 35), .lit (.int .u8 44), .lit (.int .u8 21), .lit (.int .u8 52), .lit (.int .u8 32), .lit (.int .u8 23), .lit (.int .u8 11), .lit (.int .u8 54), .lit (.int .u8 26), .lit (.int .u8 40), .lit (.int .u8 15), .lit (.int .u8 34), .lit (.int .u8 20), .lit (.int .u8 31), .lit (.int .u8 10), .lit (.int .u8 25), .lit (.int .u8 14), .lit (.int .u8 19), .lit (.int .u8 9), .lit (.int .u8 13), .lit (.int .u8 8), .lit (.int .u8 7), .lit (.int .u8 6)]

/-- 'dustpanlaw18.RouteHeads': WHATEVER THE INPUT: true; the input reads as it did. -/
def routeHeadsSpec : ChangeSpec := { name := "routeHeads", fn := fun _ => fun
  | [d1, d2, d3, d4] => { results := [.lit (.bool true)], args := [d1, d2, d3, d4] }
  | _ => none }
def routeHeadsRow : OpenClaim := { program := "ytlgbahkioimkfaagreatdoor", sum := "9bc08336dbc8df06508d0c33069a3b59072f608d66a8dc54189a9cc7cec0d879", func := "dustpan/dustpanlaw18.RouteHeads", spec := "routeHeads", inPlace := ["slices.overlaps[dustpan/api.Run]"], unfollowed := true, recurses := true, named := ["dustpan/class.table", "math/bits.deBruijn64tab"], apart := false, laid := [("dustpan/class.table", laid_dustpan_class_table), ("math/bits.deBruijn64tab", laid_math_bits_deBruijn64tab)] }
def RouteHeadsSaid : Prop := routeHeadsRow.holds Tryz.pinned (OpenSpec.ofChange routeHeadsSpec)

/-- ITS FALSE NEIGHBOUR: 'it returns false'. Refute it at one input. -/
def routeHeadsWrong : ChangeSpec := { name := "routeHeads", fn := fun _ => fun
  | [d1, d2, d3, d4] => { results := [.lit (.bool false)], args := [d1, d2, d3, d4] }
  | _ => none }
def RouteHeadsWrongFalsely : Prop := routeHeadsRow.holds Tryz.pinned (OpenSpec.ofChange routeHeadsWrong)

/-- 'dustpanlaw18.RouteMay': WHATEVER THE INPUT: true; the input reads as it did. -/
def routeMaySpec : ChangeSpec := { name := "routeMay", fn := fun _ => fun
  | [d1, d2, d3, d4] => { results := [.lit (.bool true)], args := [d1, d2, d3, d4] }
  | _ => none }
def routeMayRow : OpenClaim := { program := "ytlgbahkioimkfaagreatdoor", sum := "9bc08336dbc8df06508d0c33069a3b59072f608d66a8dc54189a9cc7cec0d879", func := "dustpan/dustpanlaw18.RouteMay", spec := "routeMay", inPlace := ["slices.overlaps[dustpan/api.Run]"], unfollowed := true, recurses := true, named := ["dustpan/class.table", "math/bits.deBruijn64tab"], apart := false, laid := [("dustpan/class.table", laid_dustpan_class_table), ("math/bits.deBruijn64tab", laid_math_bits_deBruijn64tab)] }
def RouteMaySaid : Prop := routeMayRow.holds Tryz.pinned (OpenSpec.ofChange routeMaySpec)

/-- ITS FALSE NEIGHBOUR: 'it returns false'. Refute it at one input. -/
def routeMayWrong : ChangeSpec := { name := "routeMay", fn := fun _ => fun
  | [d1, d2, d3, d4] => { results := [.lit (.bool false)], args := [d1, d2, d3, d4] }
  | _ => none }
def RouteMayWrongFalsely : Prop := routeMayRow.holds Tryz.pinned (OpenSpec.ofChange routeMayWrong)

/-- 'dustpanlaw25.CycleMay': WHATEVER THE INPUT: true; the input reads as it did. -/
def cycleMaySpec : ChangeSpec := { name := "cycleMay", fn := fun _ => fun
  | [d1, d2, d3, d4] => { results := [.lit (.bool true)], args := [d1, d2, d3, d4] }
  | _ => none }
def cycleMayRow : OpenClaim := { program := "ytlgbahkioimkfaagreatdoor", sum := "9bc08336dbc8df06508d0c33069a3b59072f608d66a8dc54189a9cc7cec0d879", func := "dustpan/dustpanlaw25.CycleMay", spec := "cycleMay", inPlace := ["slices.overlaps[dustpan/api.Run]"], unfollowed := true, recurses := true, named := ["dustpan/class.table", "math/bits.deBruijn64tab"], apart := false, laid := [("dustpan/class.table", laid_dustpan_class_table), ("math/bits.deBruijn64tab", laid_math_bits_deBruijn64tab)] }
def CycleMaySaid : Prop := cycleMayRow.holds Tryz.pinned (OpenSpec.ofChange cycleMaySpec)

/-- ITS FALSE NEIGHBOUR: 'it returns false'. Refute it at one input. -/
def cycleMayWrong : ChangeSpec := { name := "cycleMay", fn := fun _ => fun
  | [d1, d2, d3, d4] => { results := [.lit (.bool false)], args := [d1, d2, d3, d4] }
  | _ => none }
def CycleMayWrongFalsely : Prop := cycleMayRow.holds Tryz.pinned (OpenSpec.ofChange cycleMayWrong)

/-- 'dustpanlaw19.RefillMay': WHATEVER THE INPUT: true; the input reads as it did. -/
def refillMaySpec : ChangeSpec := { name := "refillMay", fn := fun _ => fun
  | [d1, d2, d3, d4] => { results := [.lit (.bool true)], args := [d1, d2, d3, d4] }
  | _ => none }
def refillMayRow : OpenClaim := { program := "ytlgbahkioimkfaagreatdoor", sum := "9bc08336dbc8df06508d0c33069a3b59072f608d66a8dc54189a9cc7cec0d879", func := "dustpan/dustpanlaw19.RefillMay", spec := "refillMay", inPlace := ["slices.overlaps[dustpan/api.Run]"], unfollowed := true, recurses := true, named := ["dustpan/class.table", "math/bits.deBruijn64tab"], apart := false, laid := [("dustpan/class.table", laid_dustpan_class_table), ("math/bits.deBruijn64tab", laid_math_bits_deBruijn64tab)] }
def RefillMaySaid : Prop := refillMayRow.holds Tryz.pinned (OpenSpec.ofChange refillMaySpec)

/-- ITS FALSE NEIGHBOUR: 'it returns false'. Refute it at one input. -/
def refillMayWrong : ChangeSpec := { name := "refillMay", fn := fun _ => fun
  | [d1, d2, d3, d4] => { results := [.lit (.bool false)], args := [d1, d2, d3, d4] }
  | _ => none }
def RefillMayWrongFalsely : Prop := refillMayRow.holds Tryz.pinned (OpenSpec.ofChange refillMayWrong)

/-- 'dustpanlaw21.FrontMay': WHATEVER THE INPUT: true; the input reads as it did. -/
def frontMaySpec : ChangeSpec := { name := "frontMay", fn := fun _ => fun
  | [d1, d2, d3] => { results := [.lit (.bool true)], args := [d1, d2, d3] }
  | _ => none }
def frontMayRow : OpenClaim := { program := "ytlgbahkioimkfaagreatdoor", sum := "9bc08336dbc8df06508d0c33069a3b59072f608d66a8dc54189a9cc7cec0d879", func := "dustpan/dustpanlaw21.FrontMay", spec := "frontMay", inPlace := ["slices.overlaps[dustpan/api.Run]"], unfollowed := true, recurses := true, named := ["dustpan/class.table", "math/bits.deBruijn64tab"], apart := false, laid := [("dustpan/class.table", laid_dustpan_class_table), ("math/bits.deBruijn64tab", laid_math_bits_deBruijn64tab)] }
def FrontMaySaid : Prop := frontMayRow.holds Tryz.pinned (OpenSpec.ofChange frontMaySpec)

/-- ITS FALSE NEIGHBOUR: 'it returns false'. Refute it at one input. -/
def frontMayWrong : ChangeSpec := { name := "frontMay", fn := fun _ => fun
  | [d1, d2, d3] => { results := [.lit (.bool false)], args := [d1, d2, d3] }
  | _ => none }
def FrontMayWrongFalsely : Prop := frontMayRow.holds Tryz.pinned (OpenSpec.ofChange frontMayWrong)

/- THE SECOND FORM. 'bulk': how many values and letters a reading holds, each counted each time it is reached (what is shared counts as often as it is met; a slice's spare places count too). A statement '..UptoSaid' is the law's where the arguments, and the package variables that the reading takes, are together of bulk at most 1048576: NARROWER than '..Said'. Prove '..Said' where nothing that the law and all that it calls make is longer than what came in: it says more and counts as full. Else prove '..UptoSaid'. A law counts once. -/
mutual
def uptoBulk {H : Type} : DataW H → Nat
  | .lit (.string bytes) => bytes.length + 1
  | .lit _ => 1
  | .nil => 1
  | .ptr d => uptoBulk d + 1
  | .slice elems spare => uptoBulkAll elems + uptoBulkAll spare + 1
  | .agg parts => uptoBulkAll parts + 1
  | .iface _ d => uptoBulk d + 1
  | .map entries => uptoBulkEntries entries + 1
  | .held _ => 1
def uptoBulkAll {H : Type} : List (DataW H) → Nat
  | [] => 0
  | d :: r => uptoBulk d + uptoBulkAll r
def uptoBulkEntries {H : Type} : List (Lit × DataW H) → Nat
  | [] => 0
  | x :: r => uptoBulkEntry x + uptoBulkEntries r
def uptoBulkEntry {H : Type} : Lit × DataW H → Nat
  | (.string bytes, d) => bytes.length + uptoBulk d + 1
  | (_, d) => uptoBulk d + 1
 end
def uptoSmall : (H : Type) → List (DataW H) → Bool := fun _ ds => decide (uptoBulkAll ds ≤ 1048576)
def OpenSpec.upto (s : _root_.Go.ChangeSpec) : _root_.Go.OpenSpec := { _root_.Go.OpenSpec.ofChange s with cond := some uptoSmall }

/-- 'dustpanlaw18.RouteHeads', WHERE WHAT IT READS IS OF BULK AT MOST 1048576: true; the input reads as it did. -/
def routeHeadsUptoRow : OpenClaim := { program := "ytlgbahkioimkfaagreatdoor", sum := "9bc08336dbc8df06508d0c33069a3b59072f608d66a8dc54189a9cc7cec0d879", func := "dustpan/dustpanlaw18.RouteHeads", spec := "routeHeads", inPlace := ["slices.overlaps[dustpan/api.Run]"], unfollowed := true, recurses := true, named := ["dustpan/class.table", "math/bits.deBruijn64tab"], apart := false, laid := [("dustpan/class.table", laid_dustpan_class_table), ("math/bits.deBruijn64tab", laid_math_bits_deBruijn64tab)], narrowed := true }
def RouteHeadsUptoSaid : Prop := routeHeadsUptoRow.holds Tryz.pinned (OpenSpec.upto routeHeadsSpec)

/-- 'dustpanlaw18.RouteMay', WHERE WHAT IT READS IS OF BULK AT MOST 1048576: true; the input reads as it did. -/
def routeMayUptoRow : OpenClaim := { program := "ytlgbahkioimkfaagreatdoor", sum := "9bc08336dbc8df06508d0c33069a3b59072f608d66a8dc54189a9cc7cec0d879", func := "dustpan/dustpanlaw18.RouteMay", spec := "routeMay", inPlace := ["slices.overlaps[dustpan/api.Run]"], unfollowed := true, recurses := true, named := ["dustpan/class.table", "math/bits.deBruijn64tab"], apart := false, laid := [("dustpan/class.table", laid_dustpan_class_table), ("math/bits.deBruijn64tab", laid_math_bits_deBruijn64tab)], narrowed := true }
def RouteMayUptoSaid : Prop := routeMayUptoRow.holds Tryz.pinned (OpenSpec.upto routeMaySpec)

/-- 'dustpanlaw25.CycleMay', WHERE WHAT IT READS IS OF BULK AT MOST 1048576: true; the input reads as it did. -/
def cycleMayUptoRow : OpenClaim := { program := "ytlgbahkioimkfaagreatdoor", sum := "9bc08336dbc8df06508d0c33069a3b59072f608d66a8dc54189a9cc7cec0d879", func := "dustpan/dustpanlaw25.CycleMay", spec := "cycleMay", inPlace := ["slices.overlaps[dustpan/api.Run]"], unfollowed := true, recurses := true, named := ["dustpan/class.table", "math/bits.deBruijn64tab"], apart := false, laid := [("dustpan/class.table", laid_dustpan_class_table), ("math/bits.deBruijn64tab", laid_math_bits_deBruijn64tab)], narrowed := true }
def CycleMayUptoSaid : Prop := cycleMayUptoRow.holds Tryz.pinned (OpenSpec.upto cycleMaySpec)

/-- 'dustpanlaw19.RefillMay', WHERE WHAT IT READS IS OF BULK AT MOST 1048576: true; the input reads as it did. -/
def refillMayUptoRow : OpenClaim := { program := "ytlgbahkioimkfaagreatdoor", sum := "9bc08336dbc8df06508d0c33069a3b59072f608d66a8dc54189a9cc7cec0d879", func := "dustpan/dustpanlaw19.RefillMay", spec := "refillMay", inPlace := ["slices.overlaps[dustpan/api.Run]"], unfollowed := true, recurses := true, named := ["dustpan/class.table", "math/bits.deBruijn64tab"], apart := false, laid := [("dustpan/class.table", laid_dustpan_class_table), ("math/bits.deBruijn64tab", laid_math_bits_deBruijn64tab)], narrowed := true }
def RefillMayUptoSaid : Prop := refillMayUptoRow.holds Tryz.pinned (OpenSpec.upto refillMaySpec)

/-- 'dustpanlaw21.FrontMay', WHERE WHAT IT READS IS OF BULK AT MOST 1048576: true; the input reads as it did. -/
def frontMayUptoRow : OpenClaim := { program := "ytlgbahkioimkfaagreatdoor", sum := "9bc08336dbc8df06508d0c33069a3b59072f608d66a8dc54189a9cc7cec0d879", func := "dustpan/dustpanlaw21.FrontMay", spec := "frontMay", inPlace := ["slices.overlaps[dustpan/api.Run]"], unfollowed := true, recurses := true, named := ["dustpan/class.table", "math/bits.deBruijn64tab"], apart := false, laid := [("dustpan/class.table", laid_dustpan_class_table), ("math/bits.deBruijn64tab", laid_math_bits_deBruijn64tab)], narrowed := true }
def FrontMayUptoSaid : Prop := frontMayUptoRow.holds Tryz.pinned (OpenSpec.upto frontMaySpec)

end Rows
end Go.Proofs.YtlgbahkioimkfaaGreatDoor
