/-
  No cell of these rows narrows 'for every input' (looked for: loops, veiled, ifaces, maps, wideKeys, modest, calm, conditions, laid).
  DERIVED. THE GIVEN ROWS OF THIS SEAT. 4 by the template 'for every input the law returns true; each argument reads behind the call as it read before'; 0 by the template 'total and deterministic' (their statements: YtdcemlennobjhaaTotals.lean).
  GIVEN WITH THE SEED: the statements are not yours to turn. If you find one false, say at which input.
  Laid BY PROGRAM, IN A SANDBOX (cutbox-rows.mjs): the forced cells as the released guide's own fill.sh prints them over the translation 3a0acdbd62e316f4… (all of the seat's roots in one cut). By AI agents, Wed Nov 11 2026. No macro, syntax, notation, axiom, sorry.
-/
import Derived.Test.YtdcemlennobjhaaChecked
import GoSem.Claim
import GoSem.ClaimJoined
import GoSem.ClaimMapViews
import Derived.JoinedTies
import Derived.KernelRfl
namespace Go.Proofs.Ytdcemlennobjhaa
/- THE CELL 'sum', in the pinned program and in every row, IS THE sha256 OF THE DUMP (.gsa) THAT YtdcemlennobjhaaProg.lean LOADS. Nothing in Lean hashes anything: it is a label: what it is worth is what the hold of that sum in a sandbox is worth. -/
noncomputable def Try.pinned : Pinned := { name := "ytdcemlennobjhaa", sum := "3a0acdbd62e316f4b9a0db31d65d6856a9cdd23a962bd6d60aa3f9f7a54b3d26", checked := Try.checked }
namespace Rows
def none {H : Type} : Left H := { results := [], args := [] }

/-- 'manciplelaw17.TrailLevels': WHATEVER THE INPUT: true; the input reads as it did. -/
def trailLevelsSpec : ChangeSpec := { name := "trailLevels", fn := fun _ => fun
  | [d1, d2] => { results := [.lit (.bool true)], args := [d1, d2] }
  | _ => none }
def trailLevelsRow : OpenClaim := { program := "ytdcemlennobjhaa", sum := "3a0acdbd62e316f4b9a0db31d65d6856a9cdd23a962bd6d60aa3f9f7a54b3d26", func := "manciple/manciplelaw17.TrailLevels", spec := "trailLevels", unfollowed := true, recurses := true, apart := false }
def TrailLevelsSaid : Prop := trailLevelsRow.holds Try.pinned (OpenSpec.ofChange trailLevelsSpec)

/-- ITS FALSE NEIGHBOUR: 'it returns false'. Refute it at one input. -/
def trailLevelsWrong : ChangeSpec := { name := "trailLevels", fn := fun _ => fun
  | [d1, d2] => { results := [.lit (.bool false)], args := [d1, d2] }
  | _ => none }
def TrailLevelsWrongFalsely : Prop := trailLevelsRow.holds Try.pinned (OpenSpec.ofChange trailLevelsWrong)

/-- 'manciplelaw17.TrailImplied': WHATEVER THE INPUT: true; the input reads as it did. -/
def trailImpliedSpec : ChangeSpec := { name := "trailImplied", fn := fun _ => fun
  | [d1, d2] => { results := [.lit (.bool true)], args := [d1, d2] }
  | _ => none }
def trailImpliedRow : OpenClaim := { program := "ytdcemlennobjhaa", sum := "3a0acdbd62e316f4b9a0db31d65d6856a9cdd23a962bd6d60aa3f9f7a54b3d26", func := "manciple/manciplelaw17.TrailImplied", spec := "trailImplied", unfollowed := true, recurses := true, apart := false }
def TrailImpliedSaid : Prop := trailImpliedRow.holds Try.pinned (OpenSpec.ofChange trailImpliedSpec)

/-- ITS FALSE NEIGHBOUR: 'it returns false'. Refute it at one input. -/
def trailImpliedWrong : ChangeSpec := { name := "trailImplied", fn := fun _ => fun
  | [d1, d2] => { results := [.lit (.bool false)], args := [d1, d2] }
  | _ => none }
def TrailImpliedWrongFalsely : Prop := trailImpliedRow.holds Try.pinned (OpenSpec.ofChange trailImpliedWrong)

/-- 'manciplelaw17.TrailPlays': WHATEVER THE INPUT: true; the input reads as it did. -/
def trailPlaysSpec : ChangeSpec := { name := "trailPlays", fn := fun _ => fun
  | [d1, d2, d3] => { results := [.lit (.bool true)], args := [d1, d2, d3] }
  | _ => none }
def trailPlaysRow : OpenClaim := { program := "ytdcemlennobjhaa", sum := "3a0acdbd62e316f4b9a0db31d65d6856a9cdd23a962bd6d60aa3f9f7a54b3d26", func := "manciple/manciplelaw17.TrailPlays", spec := "trailPlays", unfollowed := true, recurses := true, apart := false }
def TrailPlaysSaid : Prop := trailPlaysRow.holds Try.pinned (OpenSpec.ofChange trailPlaysSpec)

/-- ITS FALSE NEIGHBOUR: 'it returns false'. Refute it at one input. -/
def trailPlaysWrong : ChangeSpec := { name := "trailPlays", fn := fun _ => fun
  | [d1, d2, d3] => { results := [.lit (.bool false)], args := [d1, d2, d3] }
  | _ => none }
def TrailPlaysWrongFalsely : Prop := trailPlaysRow.holds Try.pinned (OpenSpec.ofChange trailPlaysWrong)

/-- 'manciplelaw17.TrailTwins': WHATEVER THE INPUT: true; the input reads as it did. -/
def trailTwinsSpec : ChangeSpec := { name := "trailTwins", fn := fun _ => fun
  | [d1, d2] => { results := [.lit (.bool true)], args := [d1, d2] }
  | _ => none }
def trailTwinsRow : OpenClaim := { program := "ytdcemlennobjhaa", sum := "3a0acdbd62e316f4b9a0db31d65d6856a9cdd23a962bd6d60aa3f9f7a54b3d26", func := "manciple/manciplelaw17.TrailTwins", spec := "trailTwins", unfollowed := true, recurses := true, apart := false }
def TrailTwinsSaid : Prop := trailTwinsRow.holds Try.pinned (OpenSpec.ofChange trailTwinsSpec)

/-- ITS FALSE NEIGHBOUR: 'it returns false'. Refute it at one input. -/
def trailTwinsWrong : ChangeSpec := { name := "trailTwins", fn := fun _ => fun
  | [d1, d2] => { results := [.lit (.bool false)], args := [d1, d2] }
  | _ => none }
def TrailTwinsWrongFalsely : Prop := trailTwinsRow.holds Try.pinned (OpenSpec.ofChange trailTwinsWrong)

/- THE SECOND FORM. 'bulk': how many values and letters a reading holds, each counted each time it is reached (what is shared counts as often as it is met; a slice's spare places count too). A statement '..UptoSaid' is the law's where the arguments, and the package variables that the reading takes, are together of bulk at most 1048576: NARROWER than '..Said'. Prove '..Said' where nothing that the law and all that it calls make is longer than what came in: it says more and counts as full. Else prove '..UptoSaid'. A law counts once. -/
mutual
def uptoBulk {H : Type} : DataW H → Nat
  | .lit (.string bytes) => bytes.length + 1
  | .lit _ => 1
  | .nil => 1
  | .ptr d => uptoBulk d + 1
  | .slice elems spare => uptoBulkAll elems + uptoBulkAll spare + 1
  | .agg parts => uptoBulkAll parts + 1
  | .iface _ d => uptoBulk d + 1
  | .map entries => uptoBulkEntries entries + 1
  | .held _ => 1
def uptoBulkAll {H : Type} : List (DataW H) → Nat
  | [] => 0
  | d :: r => uptoBulk d + uptoBulkAll r
def uptoBulkEntries {H : Type} : List (Lit × DataW H) → Nat
  | [] => 0
  | x :: r => uptoBulkEntry x + uptoBulkEntries r
def uptoBulkEntry {H : Type} : Lit × DataW H → Nat
  | (.string bytes, d) => bytes.length + uptoBulk d + 1
  | (_, d) => uptoBulk d + 1
 end
def uptoSmall : (H : Type) → List (DataW H) → Bool := fun _ ds => decide (uptoBulkAll ds ≤ 1048576)
def OpenSpec.upto (s : _root_.Go.ChangeSpec) : _root_.Go.OpenSpec := { _root_.Go.OpenSpec.ofChange s with cond := some uptoSmall }

/-- 'manciplelaw17.TrailLevels', WHERE WHAT IT READS IS OF BULK AT MOST 1048576: true; the input reads as it did. -/
def trailLevelsUptoRow : OpenClaim := { program := "ytdcemlennobjhaa", sum := "3a0acdbd62e316f4b9a0db31d65d6856a9cdd23a962bd6d60aa3f9f7a54b3d26", func := "manciple/manciplelaw17.TrailLevels", spec := "trailLevels", unfollowed := true, recurses := true, apart := false, narrowed := true }
def TrailLevelsUptoSaid : Prop := trailLevelsUptoRow.holds Try.pinned (OpenSpec.upto trailLevelsSpec)

/-- 'manciplelaw17.TrailImplied', WHERE WHAT IT READS IS OF BULK AT MOST 1048576: true; the input reads as it did. -/
def trailImpliedUptoRow : OpenClaim := { program := "ytdcemlennobjhaa", sum := "3a0acdbd62e316f4b9a0db31d65d6856a9cdd23a962bd6d60aa3f9f7a54b3d26", func := "manciple/manciplelaw17.TrailImplied", spec := "trailImplied", unfollowed := true, recurses := true, apart := false, narrowed := true }
def TrailImpliedUptoSaid : Prop := trailImpliedUptoRow.holds Try.pinned (OpenSpec.upto trailImpliedSpec)

/-- 'manciplelaw17.TrailPlays', WHERE WHAT IT READS IS OF BULK AT MOST 1048576: true; the input reads as it did. -/
def trailPlaysUptoRow : OpenClaim := { program := "ytdcemlennobjhaa", sum := "3a0acdbd62e316f4b9a0db31d65d6856a9cdd23a962bd6d60aa3f9f7a54b3d26", func := "manciple/manciplelaw17.TrailPlays", spec := "trailPlays", unfollowed := true, recurses := true, apart := false, narrowed := true }
def TrailPlaysUptoSaid : Prop := trailPlaysUptoRow.holds Try.pinned (OpenSpec.upto trailPlaysSpec)

/-- 'manciplelaw17.TrailTwins', WHERE WHAT IT READS IS OF BULK AT MOST 1048576: true; the input reads as it did. -/
def trailTwinsUptoRow : OpenClaim := { program := "ytdcemlennobjhaa", sum := "3a0acdbd62e316f4b9a0db31d65d6856a9cdd23a962bd6d60aa3f9f7a54b3d26", func := "manciple/manciplelaw17.TrailTwins", spec := "trailTwins", unfollowed := true, recurses := true, apart := false, narrowed := true }
def TrailTwinsUptoSaid : Prop := trailTwinsUptoRow.holds Try.pinned (OpenSpec.upto trailTwinsSpec)

end Rows
end Go.Proofs.Ytdcemlennobjhaa
