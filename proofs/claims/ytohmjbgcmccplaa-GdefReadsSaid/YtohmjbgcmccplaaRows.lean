/-
  No cell of these rows narrows 'for every input' (looked for: loops, veiled, ifaces, maps, wideKeys, modest, calm, conditions, laid).
  DERIVED. THE GIVEN ROWS OF THIS SEAT. 4 by the template 'for every input the law returns true; each argument reads behind the call as it read before'; 0 by the template 'total and deterministic' (their statements: YtohmjbgcmccplaaTotals.lean).
  GIVEN WITH THE SEED: the statements are not yours to turn. If you find one false, say at which input.
  Laid BY PROGRAM, IN A SANDBOX (cutbox-rows.mjs): the forced cells as the released guide's own fill.sh prints them over the translation 512e62b62e619989… (all of the seat's roots in one cut). By AI agents, Wed Nov 11 2026. No macro, syntax, notation, axiom, sorry.
-/
import Derived.Test.YtohmjbgcmccplaaChecked
import GoSem.Claim
import GoSem.ClaimJoined
import GoSem.ClaimMapViews
import Derived.JoinedTies
import Derived.KernelRfl
namespace Go.Proofs.Ytohmjbgcmccplaa
/- THE CELL 'sum', in the pinned program and in every row, IS THE sha256 OF THE DUMP (.gsa) THAT YtohmjbgcmccplaaProg.lean LOADS. Nothing in Lean hashes anything: it is a label: what it is worth is what the hold of that sum in a sandbox is worth. -/
noncomputable def Try.pinned : Pinned := { name := "ytohmjbgcmccplaa", sum := "512e62b62e6199890a07564e9a008db1dbe08113ff89502b439f81d987f0a3c7", checked := Try.checked }
namespace Rows
def none {H : Type} : Left H := { results := [], args := [] }

/-- 'reedpenlaw15.GdefReads': WHATEVER THE INPUT: true; the input reads as it did. -/
def gdefReadsSpec : ChangeSpec := { name := "gdefReads", fn := fun _ => fun
  | [d1, d2] => { results := [.lit (.bool true)], args := [d1, d2] }
  | _ => none }
def gdefReadsRow : OpenClaim := { program := "ytohmjbgcmccplaa", sum := "512e62b62e6199890a07564e9a008db1dbe08113ff89502b439f81d987f0a3c7", func := "reedpen/reedpenlaw15.GdefReads", spec := "gdefReads", unfollowed := true, recurses := true, apart := false }
def GdefReadsSaid : Prop := gdefReadsRow.holds Try.pinned (OpenSpec.ofChange gdefReadsSpec)

/-- ITS FALSE NEIGHBOUR: 'it returns false'. Refute it at one input. -/
def gdefReadsWrong : ChangeSpec := { name := "gdefReads", fn := fun _ => fun
  | [d1, d2] => { results := [.lit (.bool false)], args := [d1, d2] }
  | _ => none }
def GdefReadsWrongFalsely : Prop := gdefReadsRow.holds Try.pinned (OpenSpec.ofChange gdefReadsWrong)

/-- 'reedpenlaw15.GdefFinds': WHATEVER THE INPUT: true; the input reads as it did. -/
def gdefFindsSpec : ChangeSpec := { name := "gdefFinds", fn := fun _ => fun
  | [d1, d2, d3, d4, d5] => { results := [.lit (.bool true)], args := [d1, d2, d3, d4, d5] }
  | _ => none }
def gdefFindsRow : OpenClaim := { program := "ytohmjbgcmccplaa", sum := "512e62b62e6199890a07564e9a008db1dbe08113ff89502b439f81d987f0a3c7", func := "reedpen/reedpenlaw15.GdefFinds", spec := "gdefFinds", unfollowed := true, recurses := true, apart := false }
def GdefFindsSaid : Prop := gdefFindsRow.holds Try.pinned (OpenSpec.ofChange gdefFindsSpec)

/-- ITS FALSE NEIGHBOUR: 'it returns false'. Refute it at one input. -/
def gdefFindsWrong : ChangeSpec := { name := "gdefFinds", fn := fun _ => fun
  | [d1, d2, d3, d4, d5] => { results := [.lit (.bool false)], args := [d1, d2, d3, d4, d5] }
  | _ => none }
def GdefFindsWrongFalsely : Prop := gdefFindsRow.holds Try.pinned (OpenSpec.ofChange gdefFindsWrong)

/-- 'reedpenlaw15.GdefMay': WHATEVER THE INPUT: true; the input reads as it did. -/
def gdefMaySpec : ChangeSpec := { name := "gdefMay", fn := fun _ => fun
  | [d1, d2, d3] => { results := [.lit (.bool true)], args := [d1, d2, d3] }
  | _ => none }
def gdefMayRow : OpenClaim := { program := "ytohmjbgcmccplaa", sum := "512e62b62e6199890a07564e9a008db1dbe08113ff89502b439f81d987f0a3c7", func := "reedpen/reedpenlaw15.GdefMay", spec := "gdefMay", unfollowed := true, recurses := true, apart := false }
def GdefMaySaid : Prop := gdefMayRow.holds Try.pinned (OpenSpec.ofChange gdefMaySpec)

/-- ITS FALSE NEIGHBOUR: 'it returns false'. Refute it at one input. -/
def gdefMayWrong : ChangeSpec := { name := "gdefMay", fn := fun _ => fun
  | [d1, d2, d3] => { results := [.lit (.bool false)], args := [d1, d2, d3] }
  | _ => none }
def GdefMayWrongFalsely : Prop := gdefMayRow.holds Try.pinned (OpenSpec.ofChange gdefMayWrong)

/-- 'reedpenlaw15.GdefBehind': WHATEVER THE INPUT: true; the input reads as it did. -/
def gdefBehindSpec : ChangeSpec := { name := "gdefBehind", fn := fun _ => fun
  | [d1, d2, d3] => { results := [.lit (.bool true)], args := [d1, d2, d3] }
  | _ => none }
def gdefBehindRow : OpenClaim := { program := "ytohmjbgcmccplaa", sum := "512e62b62e6199890a07564e9a008db1dbe08113ff89502b439f81d987f0a3c7", func := "reedpen/reedpenlaw15.GdefBehind", spec := "gdefBehind", unfollowed := true, recurses := true, apart := false }
def GdefBehindSaid : Prop := gdefBehindRow.holds Try.pinned (OpenSpec.ofChange gdefBehindSpec)

/-- ITS FALSE NEIGHBOUR: 'it returns false'. Refute it at one input. -/
def gdefBehindWrong : ChangeSpec := { name := "gdefBehind", fn := fun _ => fun
  | [d1, d2, d3] => { results := [.lit (.bool false)], args := [d1, d2, d3] }
  | _ => none }
def GdefBehindWrongFalsely : Prop := gdefBehindRow.holds Try.pinned (OpenSpec.ofChange gdefBehindWrong)

/- THE SECOND FORM. 'bulk': how many values and letters a reading holds, each counted each time it is reached (what is shared counts as often as it is met; a slice's spare places count too). A statement '..UptoSaid' is the law's where the arguments, and the package variables that the reading takes, are together of bulk at most 1048576: NARROWER than '..Said'. Prove '..Said' where nothing that the law and all that it calls make is longer than what came in: it says more and counts as full. Else prove '..UptoSaid'. A law counts once. -/
mutual
def uptoBulk {H : Type} : DataW H → Nat
  | .lit (.string bytes) => bytes.length + 1
  | .lit _ => 1
  | .nil => 1
  | .ptr d => uptoBulk d + 1
  | .slice elems spare => uptoBulkAll elems + uptoBulkAll spare + 1
  | .agg parts => uptoBulkAll parts + 1
  | .iface _ d => uptoBulk d + 1
  | .map entries => uptoBulkEntries entries + 1
  | .held _ => 1
def uptoBulkAll {H : Type} : List (DataW H) → Nat
  | [] => 0
  | d :: r => uptoBulk d + uptoBulkAll r
def uptoBulkEntries {H : Type} : List (Lit × DataW H) → Nat
  | [] => 0
  | x :: r => uptoBulkEntry x + uptoBulkEntries r
def uptoBulkEntry {H : Type} : Lit × DataW H → Nat
  | (.string bytes, d) => bytes.length + uptoBulk d + 1
  | (_, d) => uptoBulk d + 1
 end
def uptoSmall : (H : Type) → List (DataW H) → Bool := fun _ ds => decide (uptoBulkAll ds ≤ 1048576)
def OpenSpec.upto (s : _root_.Go.ChangeSpec) : _root_.Go.OpenSpec := { _root_.Go.OpenSpec.ofChange s with cond := some uptoSmall }

/-- 'reedpenlaw15.GdefReads', WHERE WHAT IT READS IS OF BULK AT MOST 1048576: true; the input reads as it did. -/
def gdefReadsUptoRow : OpenClaim := { program := "ytohmjbgcmccplaa", sum := "512e62b62e6199890a07564e9a008db1dbe08113ff89502b439f81d987f0a3c7", func := "reedpen/reedpenlaw15.GdefReads", spec := "gdefReads", unfollowed := true, recurses := true, apart := false, narrowed := true }
def GdefReadsUptoSaid : Prop := gdefReadsUptoRow.holds Try.pinned (OpenSpec.upto gdefReadsSpec)

/-- 'reedpenlaw15.GdefFinds', WHERE WHAT IT READS IS OF BULK AT MOST 1048576: true; the input reads as it did. -/
def gdefFindsUptoRow : OpenClaim := { program := "ytohmjbgcmccplaa", sum := "512e62b62e6199890a07564e9a008db1dbe08113ff89502b439f81d987f0a3c7", func := "reedpen/reedpenlaw15.GdefFinds", spec := "gdefFinds", unfollowed := true, recurses := true, apart := false, narrowed := true }
def GdefFindsUptoSaid : Prop := gdefFindsUptoRow.holds Try.pinned (OpenSpec.upto gdefFindsSpec)

/-- 'reedpenlaw15.GdefMay', WHERE WHAT IT READS IS OF BULK AT MOST 1048576: true; the input reads as it did. -/
def gdefMayUptoRow : OpenClaim := { program := "ytohmjbgcmccplaa", sum := "512e62b62e6199890a07564e9a008db1dbe08113ff89502b439f81d987f0a3c7", func := "reedpen/reedpenlaw15.GdefMay", spec := "gdefMay", unfollowed := true, recurses := true, apart := false, narrowed := true }
def GdefMayUptoSaid : Prop := gdefMayUptoRow.holds Try.pinned (OpenSpec.upto gdefMaySpec)

/-- 'reedpenlaw15.GdefBehind', WHERE WHAT IT READS IS OF BULK AT MOST 1048576: true; the input reads as it did. -/
def gdefBehindUptoRow : OpenClaim := { program := "ytohmjbgcmccplaa", sum := "512e62b62e6199890a07564e9a008db1dbe08113ff89502b439f81d987f0a3c7", func := "reedpen/reedpenlaw15.GdefBehind", spec := "gdefBehind", unfollowed := true, recurses := true, apart := false, narrowed := true }
def GdefBehindUptoSaid : Prop := gdefBehindUptoRow.holds Try.pinned (OpenSpec.upto gdefBehindSpec)

end Rows
end Go.Proofs.Ytohmjbgcmccplaa
