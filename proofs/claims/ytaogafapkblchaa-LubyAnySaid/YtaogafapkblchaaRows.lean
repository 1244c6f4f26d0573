/-
  No cell of these rows narrows 'for every input' (looked for: loops, veiled, ifaces, maps, wideKeys, modest, calm, conditions, laid).
  DERIVED. THE GIVEN ROWS OF THIS SEAT. 4 by the template 'for every input the law returns true; each argument reads behind the call as it read before'; 0 by the template 'total and deterministic' (their statements: YtaogafapkblchaaTotals.lean).
  GIVEN WITH THE SEED: the statements are not yours to turn. If you find one false, say at which input.
  Laid BY PROGRAM, IN A SANDBOX (cutbox-rows.mjs): the forced cells as the released guide's own fill.sh prints them over the translation 92488ace817e9791… (all of the seat's roots in one cut). By AI agents, Wed Nov 11 2026. No macro, syntax, notation, axiom, sorry.
-/
import Derived.Test.YtaogafapkblchaaChecked
import GoSem.Claim
import GoSem.ClaimJoined
import GoSem.ClaimMapViews
import Derived.JoinedTies
import Derived.KernelRfl
namespace Go.Proofs.Ytaogafapkblchaa
/- THE CELL 'sum', in the pinned program and in every row, IS THE sha256 OF THE DUMP (.gsa) THAT YtaogafapkblchaaProg.lean LOADS. Nothing in Lean hashes anything: it is a label: what it is worth is what the hold of that sum in a sandbox is worth. -/
noncomputable def Try.pinned : Pinned := { name := "ytaogafapkblchaa", sum := "92488ace817e97911d4b64c3fbc0b3eb07107ee34a6accbe329082ceacaac486", checked := Try.checked }
namespace Rows
def none {H : Type} : Left H := { results := [], args := [] }

/-- 'manciplelaw20.LubyAny': WHATEVER THE INPUT: true; the input reads as it did. -/
def lubyAnySpec : ChangeSpec := { name := "lubyAny", fn := fun _ => fun
  | [d1, d2, d3, d4] => { results := [.lit (.bool true)], args := [d1, d2, d3, d4] }
  | _ => none }
def lubyAnyRow : OpenClaim := { program := "ytaogafapkblchaa", sum := "92488ace817e97911d4b64c3fbc0b3eb07107ee34a6accbe329082ceacaac486", func := "manciple/manciplelaw20.LubyAny", spec := "lubyAny", recurses := true, apart := false }
def LubyAnySaid : Prop := lubyAnyRow.holds Try.pinned (OpenSpec.ofChange lubyAnySpec)

/-- ITS FALSE NEIGHBOUR: 'it returns false'. Refute it at one input. -/
def lubyAnyWrong : ChangeSpec := { name := "lubyAny", fn := fun _ => fun
  | [d1, d2, d3, d4] => { results := [.lit (.bool false)], args := [d1, d2, d3, d4] }
  | _ => none }
def LubyAnyWrongFalsely : Prop := lubyAnyRow.holds Try.pinned (OpenSpec.ofChange lubyAnyWrong)

/-- 'manciplelaw20.LubyHalves': WHATEVER THE INPUT: true; the input reads as it did. -/
def lubyHalvesSpec : ChangeSpec := { name := "lubyHalves", fn := fun _ => fun
  | [d] => { results := [.lit (.bool true)], args := [d] }
  | _ => none }
def lubyHalvesRow : OpenClaim := { program := "ytaogafapkblchaa", sum := "92488ace817e97911d4b64c3fbc0b3eb07107ee34a6accbe329082ceacaac486", func := "manciple/manciplelaw20.LubyHalves", spec := "lubyHalves", apart := false }
def LubyHalvesSaid : Prop := lubyHalvesRow.holds Try.pinned (OpenSpec.ofChange lubyHalvesSpec)

/-- ITS FALSE NEIGHBOUR: 'it returns false'. Refute it at one input. -/
def lubyHalvesWrong : ChangeSpec := { name := "lubyHalves", fn := fun _ => fun
  | [d] => { results := [.lit (.bool false)], args := [d] }
  | _ => none }
def LubyHalvesWrongFalsely : Prop := lubyHalvesRow.holds Try.pinned (OpenSpec.ofChange lubyHalvesWrong)

/-- 'manciplelaw20.LubySums': WHATEVER THE INPUT: true; the input reads as it did. -/
def lubySumsSpec : ChangeSpec := { name := "lubySums", fn := fun _ => fun
  | [d1, d2] => { results := [.lit (.bool true)], args := [d1, d2] }
  | _ => none }
def lubySumsRow : OpenClaim := { program := "ytaogafapkblchaa", sum := "92488ace817e97911d4b64c3fbc0b3eb07107ee34a6accbe329082ceacaac486", func := "manciple/manciplelaw20.LubySums", spec := "lubySums", apart := false }
def LubySumsSaid : Prop := lubySumsRow.holds Try.pinned (OpenSpec.ofChange lubySumsSpec)

/-- ITS FALSE NEIGHBOUR: 'it returns false'. Refute it at one input. -/
def lubySumsWrong : ChangeSpec := { name := "lubySums", fn := fun _ => fun
  | [d1, d2] => { results := [.lit (.bool false)], args := [d1, d2] }
  | _ => none }
def LubySumsWrongFalsely : Prop := lubySumsRow.holds Try.pinned (OpenSpec.ofChange lubySumsWrong)

/-- 'manciplelaw20.LubyDue': WHATEVER THE INPUT: true; the input reads as it did. -/
def lubyDueSpec : ChangeSpec := { name := "lubyDue", fn := fun _ => fun
  | [d1, d2] => { results := [.lit (.bool true)], args := [d1, d2] }
  | _ => none }
def lubyDueRow : OpenClaim := { program := "ytaogafapkblchaa", sum := "92488ace817e97911d4b64c3fbc0b3eb07107ee34a6accbe329082ceacaac486", func := "manciple/manciplelaw20.LubyDue", spec := "lubyDue", apart := false }
def LubyDueSaid : Prop := lubyDueRow.holds Try.pinned (OpenSpec.ofChange lubyDueSpec)

/-- ITS FALSE NEIGHBOUR: 'it returns false'. Refute it at one input. -/
def lubyDueWrong : ChangeSpec := { name := "lubyDue", fn := fun _ => fun
  | [d1, d2] => { results := [.lit (.bool false)], args := [d1, d2] }
  | _ => none }
def LubyDueWrongFalsely : Prop := lubyDueRow.holds Try.pinned (OpenSpec.ofChange lubyDueWrong)

/- THE SECOND FORM. 'bulk': how many values and letters a reading holds, each counted each time it is reached (what is shared counts as often as it is met; a slice's spare places count too). A statement '..UptoSaid' is the law's where the arguments, and the package variables that the reading takes, are together of bulk at most 1048576: NARROWER than '..Said'. Prove '..Said' where nothing that the law and all that it calls make is longer than what came in: it says more and counts as full. Else prove '..UptoSaid'. A law counts once. -/
mutual
def uptoBulk {H : Type} : DataW H → Nat
  | .lit (.string bytes) => bytes.length + 1
  | .lit _ => 1
  | .nil => 1
  | .ptr d => uptoBulk d + 1
  | .slice elems spare => uptoBulkAll elems + uptoBulkAll spare + 1
  | .agg parts => uptoBulkAll parts + 1
  | .iface _ d => uptoBulk d + 1
  | .map entries => uptoBulkEntries entries + 1
  | .held _ => 1
def uptoBulkAll {H : Type} : List (DataW H) → Nat
  | [] => 0
  | d :: r => uptoBulk d + uptoBulkAll r
def uptoBulkEntries {H : Type} : List (Lit × DataW H) → Nat
  | [] => 0
  | x :: r => uptoBulkEntry x + uptoBulkEntries r
def uptoBulkEntry {H : Type} : Lit × DataW H → Nat
  | (.string bytes, d) => bytes.length + uptoBulk d + 1
  | (_, d) => uptoBulk d + 1
 end
def uptoSmall : (H : Type) → List (DataW H) → Bool := fun _ ds => decide (uptoBulkAll ds ≤ 1048576)
def OpenSpec.upto (s : _root_.Go.ChangeSpec) : _root_.Go.OpenSpec := { _root_.Go.OpenSpec.ofChange s with cond := some uptoSmall }

/-- 'manciplelaw20.LubyAny', WHERE WHAT IT READS IS OF BULK AT MOST 1048576: true; the input reads as it did. -/
def lubyAnyUptoRow : OpenClaim := { program := "ytaogafapkblchaa", sum := "92488ace817e97911d4b64c3fbc0b3eb07107ee34a6accbe329082ceacaac486", func := "manciple/manciplelaw20.LubyAny", spec := "lubyAny", recurses := true, apart := false, narrowed := true }
def LubyAnyUptoSaid : Prop := lubyAnyUptoRow.holds Try.pinned (OpenSpec.upto lubyAnySpec)

/-- 'manciplelaw20.LubyHalves', WHERE WHAT IT READS IS OF BULK AT MOST 1048576: true; the input reads as it did. -/
def lubyHalvesUptoRow : OpenClaim := { program := "ytaogafapkblchaa", sum := "92488ace817e97911d4b64c3fbc0b3eb07107ee34a6accbe329082ceacaac486", func := "manciple/manciplelaw20.LubyHalves", spec := "lubyHalves", apart := false, narrowed := true }
def LubyHalvesUptoSaid : Prop := lubyHalvesUptoRow.holds Try.pinned (OpenSpec.upto lubyHalvesSpec)

/-- 'manciplelaw20.LubySums', WHERE WHAT IT READS IS OF BULK AT MOST 1048576: true; the input reads as it did. -/
def lubySumsUptoRow : OpenClaim := { program := "ytaogafapkblchaa", sum := "92488ace817e97911d4b64c3fbc0b3eb07107ee34a6accbe329082ceacaac486", func := "manciple/manciplelaw20.LubySums", spec := "lubySums", apart := false, narrowed := true }
def LubySumsUptoSaid : Prop := lubySumsUptoRow.holds Try.pinned (OpenSpec.upto lubySumsSpec)

/-- 'manciplelaw20.LubyDue', WHERE WHAT IT READS IS OF BULK AT MOST 1048576: true; the input reads as it did. -/
def lubyDueUptoRow : OpenClaim := { program := "ytaogafapkblchaa", sum := "92488ace817e97911d4b64c3fbc0b3eb07107ee34a6accbe329082ceacaac486", func := "manciple/manciplelaw20.LubyDue", spec := "lubyDue", apart := false, narrowed := true }
def LubyDueUptoSaid : Prop := lubyDueUptoRow.holds Try.pinned (OpenSpec.upto lubyDueSpec)

end Rows
end Go.Proofs.Ytaogafapkblchaa
