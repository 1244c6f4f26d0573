/-
  No cell of these rows narrows 'for every input' (looked for: loops, veiled, ifaces, maps, wideKeys, modest, calm, conditions, laid).
  DERIVED. THE GIVEN ROWS OF THIS SEAT. 9 by the template 'for every input the law returns true; each argument reads behind the call as it read before'; 0 by the template 'total and deterministic' (their statements: YtjbljblhbmfbpaaTotals.lean).
  GIVEN WITH THE SEED: the statements are not yours to turn. If you find one false, say at which input.
  Laid BY PROGRAM, IN A SANDBOX (cutbox-rows.mjs): the forced cells as the released guide's own fill.sh prints them over the translation 18ca69b94069be8d… (all of the seat's roots in one cut). By AI agents, Wed Nov 11 2026. No macro, syntax, notation, axiom, sorry.
-/
import Derived.Test.YtjbljblhbmfbpaaChecked
import GoSem.Claim
import GoSem.ClaimJoined
import GoSem.ClaimMapViews
import Derived.JoinedTies
import Derived.KernelRfl
namespace Go.Proofs.Ytjbljblhbmfbpaa
/- THE CELL 'sum', in the pinned program and in every row, IS THE sha256 OF THE DUMP (.gsa) THAT YtjbljblhbmfbpaaProg.lean LOADS. Nothing in Lean hashes anything: it is a label: what it is worth is what the hold of that sum in a sandbox is worth. -/
noncomputable def Try.pinned : Pinned := { name := "ytjbljblhbmfbpaa", sum := "18ca69b94069be8d73831b42f4a788a9af6107cc874798a6df25611867145dff", checked := Try.checked }
namespace Rows
def none {H : Type} : Left H := { results := [], args := [] }

/-- 'manciplelaw15.PropAny': WHATEVER THE INPUT: true; the input reads as it did. -/
def propAnySpec : ChangeSpec := { name := "propAny", fn := fun _ => fun
  | [d1, d2, d3] => { results := [.lit (.bool true)], args := [d1, d2, d3] }
  | _ => none }
def propAnyRow : OpenClaim := { program := "ytjbljblhbmfbpaa", sum := "18ca69b94069be8d73831b42f4a788a9af6107cc874798a6df25611867145dff", func := "manciple/manciplelaw15.PropAny", spec := "propAny", apart := false }
def PropAnySaid : Prop := propAnyRow.holds Try.pinned (OpenSpec.ofChange propAnySpec)

/-- ITS FALSE NEIGHBOUR: 'it returns false'. Refute it at one input. -/
def propAnyWrong : ChangeSpec := { name := "propAny", fn := fun _ => fun
  | [d1, d2, d3] => { results := [.lit (.bool false)], args := [d1, d2, d3] }
  | _ => none }
def PropAnyWrongFalsely : Prop := propAnyRow.holds Try.pinned (OpenSpec.ofChange propAnyWrong)

/-- 'manciplelaw15.PropFollows': WHATEVER THE INPUT: true; the input reads as it did. -/
def propFollowsSpec : ChangeSpec := { name := "propFollows", fn := fun _ => fun
  | [d1, d2, d3] => { results := [.lit (.bool true)], args := [d1, d2, d3] }
  | _ => none }
def propFollowsRow : OpenClaim := { program := "ytjbljblhbmfbpaa", sum := "18ca69b94069be8d73831b42f4a788a9af6107cc874798a6df25611867145dff", func := "manciple/manciplelaw15.PropFollows", spec := "propFollows", apart := false }
def PropFollowsSaid : Prop := propFollowsRow.holds Try.pinned (OpenSpec.ofChange propFollowsSpec)

/-- ITS FALSE NEIGHBOUR: 'it returns false'. Refute it at one input. -/
def propFollowsWrong : ChangeSpec := { name := "propFollows", fn := fun _ => fun
  | [d1, d2, d3] => { results := [.lit (.bool false)], args := [d1, d2, d3] }
  | _ => none }
def PropFollowsWrongFalsely : Prop := propFollowsRow.holds Try.pinned (OpenSpec.ofChange propFollowsWrong)

/-- 'manciplelaw15.PropChains': WHATEVER THE INPUT: true; the input reads as it did. -/
def propChainsSpec : ChangeSpec := { name := "propChains", fn := fun _ => fun
  | [d1, d2, d3] => { results := [.lit (.bool true)], args := [d1, d2, d3] }
  | _ => none }
def propChainsRow : OpenClaim := { program := "ytjbljblhbmfbpaa", sum := "18ca69b94069be8d73831b42f4a788a9af6107cc874798a6df25611867145dff", func := "manciple/manciplelaw15.PropChains", spec := "propChains", apart := false }
def PropChainsSaid : Prop := propChainsRow.holds Try.pinned (OpenSpec.ofChange propChainsSpec)

/-- ITS FALSE NEIGHBOUR: 'it returns false'. Refute it at one input. -/
def propChainsWrong : ChangeSpec := { name := "propChains", fn := fun _ => fun
  | [d1, d2, d3] => { results := [.lit (.bool false)], args := [d1, d2, d3] }
  | _ => none }
def PropChainsWrongFalsely : Prop := propChainsRow.holds Try.pinned (OpenSpec.ofChange propChainsWrong)

/-- 'manciplelaw15.PropMore': WHATEVER THE INPUT: true; the input reads as it did. -/
def propMoreSpec : ChangeSpec := { name := "propMore", fn := fun _ => fun
  | [d1, d2, d3, d4] => { results := [.lit (.bool true)], args := [d1, d2, d3, d4] }
  | _ => none }
def propMoreRow : OpenClaim := { program := "ytjbljblhbmfbpaa", sum := "18ca69b94069be8d73831b42f4a788a9af6107cc874798a6df25611867145dff", func := "manciple/manciplelaw15.PropMore", spec := "propMore", apart := false }
def PropMoreSaid : Prop := propMoreRow.holds Try.pinned (OpenSpec.ofChange propMoreSpec)

/-- ITS FALSE NEIGHBOUR: 'it returns false'. Refute it at one input. -/
def propMoreWrong : ChangeSpec := { name := "propMore", fn := fun _ => fun
  | [d1, d2, d3, d4] => { results := [.lit (.bool false)], args := [d1, d2, d3, d4] }
  | _ => none }
def PropMoreWrongFalsely : Prop := propMoreRow.holds Try.pinned (OpenSpec.ofChange propMoreWrong)

/-- 'manciplelaw16.RupAny': WHATEVER THE INPUT: true; the input reads as it did. -/
def rupAnySpec : ChangeSpec := { name := "rupAny", fn := fun _ => fun
  | [d1, d2, d3, d4] => { results := [.lit (.bool true)], args := [d1, d2, d3, d4] }
  | _ => none }
def rupAnyRow : OpenClaim := { program := "ytjbljblhbmfbpaa", sum := "18ca69b94069be8d73831b42f4a788a9af6107cc874798a6df25611867145dff", func := "manciple/manciplelaw16.RupAny", spec := "rupAny", unfollowed := true, recurses := true, apart := false }
def RupAnySaid : Prop := rupAnyRow.holds Try.pinned (OpenSpec.ofChange rupAnySpec)

/-- ITS FALSE NEIGHBOUR: 'it returns false'. Refute it at one input. -/
def rupAnyWrong : ChangeSpec := { name := "rupAny", fn := fun _ => fun
  | [d1, d2, d3, d4] => { results := [.lit (.bool false)], args := [d1, d2, d3, d4] }
  | _ => none }
def RupAnyWrongFalsely : Prop := rupAnyRow.holds Try.pinned (OpenSpec.ofChange rupAnyWrong)

/-- 'manciplelaw16.RupTrue': WHATEVER THE INPUT: true; the input reads as it did. -/
def rupTrueSpec : ChangeSpec := { name := "rupTrue", fn := fun _ => fun
  | [d1, d2, d3] => { results := [.lit (.bool true)], args := [d1, d2, d3] }
  | _ => none }
def rupTrueRow : OpenClaim := { program := "ytjbljblhbmfbpaa", sum := "18ca69b94069be8d73831b42f4a788a9af6107cc874798a6df25611867145dff", func := "manciple/manciplelaw16.RupTrue", spec := "rupTrue", unfollowed := true, recurses := true, apart := false }
def RupTrueSaid : Prop := rupTrueRow.holds Try.pinned (OpenSpec.ofChange rupTrueSpec)

/-- ITS FALSE NEIGHBOUR: 'it returns false'. Refute it at one input. -/
def rupTrueWrong : ChangeSpec := { name := "rupTrue", fn := fun _ => fun
  | [d1, d2, d3] => { results := [.lit (.bool false)], args := [d1, d2, d3] }
  | _ => none }
def RupTrueWrongFalsely : Prop := rupTrueRow.holds Try.pinned (OpenSpec.ofChange rupTrueWrong)

/-- 'manciplelaw16.RupFronts': WHATEVER THE INPUT: true; the input reads as it did. -/
def rupFrontsSpec : ChangeSpec := { name := "rupFronts", fn := fun _ => fun
  | [d1, d2, d3, d4, d5] => { results := [.lit (.bool true)], args := [d1, d2, d3, d4, d5] }
  | _ => none }
def rupFrontsRow : OpenClaim := { program := "ytjbljblhbmfbpaa", sum := "18ca69b94069be8d73831b42f4a788a9af6107cc874798a6df25611867145dff", func := "manciple/manciplelaw16.RupFronts", spec := "rupFronts", unfollowed := true, recurses := true, apart := false }
def RupFrontsSaid : Prop := rupFrontsRow.holds Try.pinned (OpenSpec.ofChange rupFrontsSpec)

/-- ITS FALSE NEIGHBOUR: 'it returns false'. Refute it at one input. -/
def rupFrontsWrong : ChangeSpec := { name := "rupFronts", fn := fun _ => fun
  | [d1, d2, d3, d4, d5] => { results := [.lit (.bool false)], args := [d1, d2, d3, d4, d5] }
  | _ => none }
def RupFrontsWrongFalsely : Prop := rupFrontsRow.holds Try.pinned (OpenSpec.ofChange rupFrontsWrong)

/-- 'manciplelaw16.RupOwn': WHATEVER THE INPUT: true; the input reads as it did. -/
def rupOwnSpec : ChangeSpec := { name := "rupOwn", fn := fun _ => fun
  | [d1, d2, d3, d4] => { results := [.lit (.bool true)], args := [d1, d2, d3, d4] }
  | _ => none }
def rupOwnRow : OpenClaim := { program := "ytjbljblhbmfbpaa", sum := "18ca69b94069be8d73831b42f4a788a9af6107cc874798a6df25611867145dff", func := "manciple/manciplelaw16.RupOwn", spec := "rupOwn", unfollowed := true, recurses := true, apart := false }
def RupOwnSaid : Prop := rupOwnRow.holds Try.pinned (OpenSpec.ofChange rupOwnSpec)

/-- ITS FALSE NEIGHBOUR: 'it returns false'. Refute it at one input. -/
def rupOwnWrong : ChangeSpec := { name := "rupOwn", fn := fun _ => fun
  | [d1, d2, d3, d4] => { results := [.lit (.bool false)], args := [d1, d2, d3, d4] }
  | _ => none }
def RupOwnWrongFalsely : Prop := rupOwnRow.holds Try.pinned (OpenSpec.ofChange rupOwnWrong)

/-- 'manciplelaw16.RupHoles': WHATEVER THE INPUT: true; the input reads as it did. -/
def rupHolesSpec : ChangeSpec := { name := "rupHoles", fn := fun _ => fun
  | [d] => { results := [.lit (.bool true)], args := [d] }
  | _ => none }
def rupHolesRow : OpenClaim := { program := "ytjbljblhbmfbpaa", sum := "18ca69b94069be8d73831b42f4a788a9af6107cc874798a6df25611867145dff", func := "manciple/manciplelaw16.RupHoles", spec := "rupHoles", unfollowed := true, recurses := true, apart := false }
def RupHolesSaid : Prop := rupHolesRow.holds Try.pinned (OpenSpec.ofChange rupHolesSpec)

/-- ITS FALSE NEIGHBOUR: 'it returns false'. Refute it at one input. -/
def rupHolesWrong : ChangeSpec := { name := "rupHoles", fn := fun _ => fun
  | [d] => { results := [.lit (.bool false)], args := [d] }
  | _ => none }
def RupHolesWrongFalsely : Prop := rupHolesRow.holds Try.pinned (OpenSpec.ofChange rupHolesWrong)

/- THE SECOND FORM. 'bulk': how many values and letters a reading holds, each counted each time it is reached (what is shared counts as often as it is met; a slice's spare places count too). A statement '..UptoSaid' is the law's where the arguments, and the package variables that the reading takes, are together of bulk at most 1048576: NARROWER than '..Said'. Prove '..Said' where nothing that the law and all that it calls make is longer than what came in: it says more and counts as full. Else prove '..UptoSaid'. A law counts once. -/
mutual
def uptoBulk {H : Type} : DataW H → Nat
  | .lit (.string bytes) => bytes.length + 1
  | .lit _ => 1
  | .nil => 1
  | .ptr d => uptoBulk d + 1
  | .slice elems spare => uptoBulkAll elems + uptoBulkAll spare + 1
  | .agg parts => uptoBulkAll parts + 1
  | .iface _ d => uptoBulk d + 1
  | .map entries => uptoBulkEntries entries + 1
  | .held _ => 1
def uptoBulkAll {H : Type} : List (DataW H) → Nat
  | [] => 0
  | d :: r => uptoBulk d + uptoBulkAll r
def uptoBulkEntries {H : Type} : List (Lit × DataW H) → Nat
  | [] => 0
  | x :: r => uptoBulkEntry x + uptoBulkEntries r
def uptoBulkEntry {H : Type} : Lit × DataW H → Nat
  | (.string bytes, d) => bytes.length + uptoBulk d + 1
  | (_, d) => uptoBulk d + 1
 end
def uptoSmall : (H : Type) → List (DataW H) → Bool := fun _ ds => decide (uptoBulkAll ds ≤ 1048576)
def OpenSpec.upto (s : _root_.Go.ChangeSpec) : _root_.Go.OpenSpec := { _root_.Go.OpenSpec.ofChange s with cond := some uptoSmall }

/-- 'manciplelaw15.PropAny', WHERE WHAT IT READS IS OF BULK AT MOST 1048576: true; the input reads as it did. -/
def propAnyUptoRow : OpenClaim := { program := "ytjbljblhbmfbpaa", sum := "18ca69b94069be8d73831b42f4a788a9af6107cc874798a6df25611867145dff", func := "manciple/manciplelaw15.PropAny", spec := "propAny", apart := false, narrowed := true }
def PropAnyUptoSaid : Prop := propAnyUptoRow.holds Try.pinned (OpenSpec.upto propAnySpec)

/-- 'manciplelaw15.PropFollows', WHERE WHAT IT READS IS OF BULK AT MOST 1048576: true; the input reads as it did. -/
def propFollowsUptoRow : OpenClaim := { program := "ytjbljblhbmfbpaa", sum := "18ca69b94069be8d73831b42f4a788a9af6107cc874798a6df25611867145dff", func := "manciple/manciplelaw15.PropFollows", spec := "propFollows", apart := false, narrowed := true }
def PropFollowsUptoSaid : Prop := propFollowsUptoRow.holds Try.pinned (OpenSpec.upto propFollowsSpec)

/-- 'manciplelaw15.PropChains', WHERE WHAT IT READS IS OF BULK AT MOST 1048576: true; the input reads as it did. -/
def propChainsUptoRow : OpenClaim := { program := "ytjbljblhbmfbpaa", sum := "18ca69b94069be8d73831b42f4a788a9af6107cc874798a6df25611867145dff", func := "manciple/manciplelaw15.PropChains", spec := "propChains", apart := false, narrowed := true }
def PropChainsUptoSaid : Prop := propChainsUptoRow.holds Try.pinned (OpenSpec.upto propChainsSpec)

/-- 'manciplelaw15.PropMore', WHERE WHAT IT READS IS OF BULK AT MOST 1048576: true; the input reads as it did. -/
def propMoreUptoRow : OpenClaim := { program := "ytjbljblhbmfbpaa", sum := "18ca69b94069be8d73831b42f4a788a9af6107cc874798a6df25611867145dff", func := "manciple/manciplelaw15.PropMore", spec := "propMore", apart := false, narrowed := true }
def PropMoreUptoSaid : Prop := propMoreUptoRow.holds Try.pinned (OpenSpec.upto propMoreSpec)

/-- 'manciplelaw16.RupAny', WHERE WHAT IT READS IS OF BULK AT MOST 1048576: true; the input reads as it did. -/
def rupAnyUptoRow : OpenClaim := { program := "ytjbljblhbmfbpaa", sum := "18ca69b94069be8d73831b42f4a788a9af6107cc874798a6df25611867145dff", func := "manciple/manciplelaw16.RupAny", spec := "rupAny", unfollowed := true, recurses := true, apart := false, narrowed := true }
def RupAnyUptoSaid : Prop := rupAnyUptoRow.holds Try.pinned (OpenSpec.upto rupAnySpec)

/-- 'manciplelaw16.RupTrue', WHERE WHAT IT READS IS OF BULK AT MOST 1048576: true; the input reads as it did. -/
def rupTrueUptoRow : OpenClaim := { program := "ytjbljblhbmfbpaa", sum := "18ca69b94069be8d73831b42f4a788a9af6107cc874798a6df25611867145dff", func := "manciple/manciplelaw16.RupTrue", spec := "rupTrue", unfollowed := true, recurses := true, apart := false, narrowed := true }
def RupTrueUptoSaid : Prop := rupTrueUptoRow.holds Try.pinned (OpenSpec.upto rupTrueSpec)

/-- 'manciplelaw16.RupFronts', WHERE WHAT IT READS IS OF BULK AT MOST 1048576: true; the input reads as it did. -/
def rupFrontsUptoRow : OpenClaim := { program := "ytjbljblhbmfbpaa", sum := "18ca69b94069be8d73831b42f4a788a9af6107cc874798a6df25611867145dff", func := "manciple/manciplelaw16.RupFronts", spec := "rupFronts", unfollowed := true, recurses := true, apart := false, narrowed := true }
def RupFrontsUptoSaid : Prop := rupFrontsUptoRow.holds Try.pinned (OpenSpec.upto rupFrontsSpec)

/-- 'manciplelaw16.RupOwn', WHERE WHAT IT READS IS OF BULK AT MOST 1048576: true; the input reads as it did. -/
def rupOwnUptoRow : OpenClaim := { program := "ytjbljblhbmfbpaa", sum := "18ca69b94069be8d73831b42f4a788a9af6107cc874798a6df25611867145dff", func := "manciple/manciplelaw16.RupOwn", spec := "rupOwn", unfollowed := true, recurses := true, apart := false, narrowed := true }
def RupOwnUptoSaid : Prop := rupOwnUptoRow.holds Try.pinned (OpenSpec.upto rupOwnSpec)

/-- 'manciplelaw16.RupHoles', WHERE WHAT IT READS IS OF BULK AT MOST 1048576: true; the input reads as it did. -/
def rupHolesUptoRow : OpenClaim := { program := "ytjbljblhbmfbpaa", sum := "18ca69b94069be8d73831b42f4a788a9af6107cc874798a6df25611867145dff", func := "manciple/manciplelaw16.RupHoles", spec := "rupHoles", unfollowed := true, recurses := true, apart := false, narrowed := true }
def RupHolesUptoSaid : Prop := rupHolesUptoRow.holds Try.pinned (OpenSpec.upto rupHolesSpec)

end Rows
end Go.Proofs.Ytjbljblhbmfbpaa
