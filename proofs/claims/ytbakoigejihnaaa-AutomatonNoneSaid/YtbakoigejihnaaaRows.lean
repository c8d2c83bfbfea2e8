/-
  No cell of these rows narrows 'for every input' (looked for: loops, veiled, ifaces, maps, wideKeys, modest, calm, conditions, laid).
  DERIVED. THE GIVEN ROWS OF THIS SEAT. 7 by the template 'for every input the law returns true; each argument reads behind the call as it read before'; 0 by the template 'total and deterministic' (their statements: YtbakoigejihnaaaTotals.lean).
  GIVEN WITH THE SEED: the statements are not yours to turn. If you find one false, say at which input.
  Laid BY PROGRAM, IN A SANDBOX (cutbox-rows.mjs): the forced cells as the released guide's own fill.sh prints them over the translation d680ecd5bc45a545… (all of the seat's roots in one cut). By AI agents, Wed Nov 11 2026. No macro, syntax, notation, axiom, sorry.
-/
import Derived.Test.YtbakoigejihnaaaChecked
import GoSem.Claim
import GoSem.ClaimJoined
import GoSem.ClaimMapViews
import Derived.JoinedTies
import Derived.KernelRfl
namespace Go.Proofs.Ytbakoigejihnaaa
/- THE CELL 'sum', in the pinned program and in every row, IS THE sha256 OF THE DUMP (.gsa) THAT YtbakoigejihnaaaProg.lean LOADS. Nothing in Lean hashes anything: it is a label: what it is worth is what the hold of that sum in a sandbox is worth. -/
noncomputable def Try.pinned : Pinned := { name := "ytbakoigejihnaaa", sum := "d680ecd5bc45a5453ed16ca0bf645f9c7b326d42939e75d9311112767f4bfb51", checked := Try.checked }
namespace Rows
def none {H : Type} : Left H := { results := [], args := [] }

/-- 'licitlaw27.AutomatonSizes': WHATEVER THE INPUT: true; the input reads as it did. -/
def automatonSizesSpec : ChangeSpec := { name := "automatonSizes", fn := fun _ => fun
  | [d] => { results := [.lit (.bool true)], args := [d] }
  | _ => none }
def automatonSizesRow : OpenClaim := { program := "ytbakoigejihnaaa", sum := "d680ecd5bc45a5453ed16ca0bf645f9c7b326d42939e75d9311112767f4bfb51", func := "licit/licitlaw27.AutomatonSizes", spec := "automatonSizes", unfollowed := true, recurses := true, apart := false }
def AutomatonSizesSaid : Prop := automatonSizesRow.holds Try.pinned (OpenSpec.ofChange automatonSizesSpec)

/-- ITS FALSE NEIGHBOUR: 'it returns false'. Refute it at one input. -/
def automatonSizesWrong : ChangeSpec := { name := "automatonSizes", fn := fun _ => fun
  | [d] => { results := [.lit (.bool false)], args := [d] }
  | _ => none }
def AutomatonSizesWrongFalsely : Prop := automatonSizesRow.holds Try.pinned (OpenSpec.ofChange automatonSizesWrong)

/-- 'licitlaw27.AutomatonLongest': WHATEVER THE INPUT: true; the input reads as it did. -/
def automatonLongestSpec : ChangeSpec := { name := "automatonLongest", fn := fun _ => fun
  | [d1, d2] => { results := [.lit (.bool true)], args := [d1, d2] }
  | _ => none }
def automatonLongestRow : OpenClaim := { program := "ytbakoigejihnaaa", sum := "d680ecd5bc45a5453ed16ca0bf645f9c7b326d42939e75d9311112767f4bfb51", func := "licit/licitlaw27.AutomatonLongest", spec := "automatonLongest", unfollowed := true, recurses := true, apart := false }
def AutomatonLongestSaid : Prop := automatonLongestRow.holds Try.pinned (OpenSpec.ofChange automatonLongestSpec)

/-- ITS FALSE NEIGHBOUR: 'it returns false'. Refute it at one input. -/
def automatonLongestWrong : ChangeSpec := { name := "automatonLongest", fn := fun _ => fun
  | [d1, d2] => { results := [.lit (.bool false)], args := [d1, d2] }
  | _ => none }
def AutomatonLongestWrongFalsely : Prop := automatonLongestRow.holds Try.pinned (OpenSpec.ofChange automatonLongestWrong)

/-- 'licitlaw27.AutomatonAsks': WHATEVER THE INPUT: true; the input reads as it did. -/
def automatonAsksSpec : ChangeSpec := { name := "automatonAsks", fn := fun _ => fun
  | [d1, d2] => { results := [.lit (.bool true)], args := [d1, d2] }
  | _ => none }
def automatonAsksRow : OpenClaim := { program := "ytbakoigejihnaaa", sum := "d680ecd5bc45a5453ed16ca0bf645f9c7b326d42939e75d9311112767f4bfb51", func := "licit/licitlaw27.AutomatonAsks", spec := "automatonAsks", unfollowed := true, recurses := true, apart := false }
def AutomatonAsksSaid : Prop := automatonAsksRow.holds Try.pinned (OpenSpec.ofChange automatonAsksSpec)

/-- ITS FALSE NEIGHBOUR: 'it returns false'. Refute it at one input. -/
def automatonAsksWrong : ChangeSpec := { name := "automatonAsks", fn := fun _ => fun
  | [d1, d2] => { results := [.lit (.bool false)], args := [d1, d2] }
  | _ => none }
def AutomatonAsksWrongFalsely : Prop := automatonAsksRow.holds Try.pinned (OpenSpec.ofChange automatonAsksWrong)

/-- 'licitlaw27.AutomatonRuns': WHATEVER THE INPUT: true; the input reads as it did. -/
def automatonRunsSpec : ChangeSpec := { name := "automatonRuns", fn := fun _ => fun
  | [d1, d2, d3] => { results := [.lit (.bool true)], args := [d1, d2, d3] }
  | _ => none }
def automatonRunsRow : OpenClaim := { program := "ytbakoigejihnaaa", sum := "d680ecd5bc45a5453ed16ca0bf645f9c7b326d42939e75d9311112767f4bfb51", func := "licit/licitlaw27.AutomatonRuns", spec := "automatonRuns", unfollowed := true, recurses := true, apart := false }
def AutomatonRunsSaid : Prop := automatonRunsRow.holds Try.pinned (OpenSpec.ofChange automatonRunsSpec)

/-- ITS FALSE NEIGHBOUR: 'it returns false'. Refute it at one input. -/
def automatonRunsWrong : ChangeSpec := { name := "automatonRuns", fn := fun _ => fun
  | [d1, d2, d3] => { results := [.lit (.bool false)], args := [d1, d2, d3] }
  | _ => none }
def AutomatonRunsWrongFalsely : Prop := automatonRunsRow.holds Try.pinned (OpenSpec.ofChange automatonRunsWrong)

/-- 'licitlaw27.AutomatonCommon': WHATEVER THE INPUT: true; the input reads as it did. -/
def automatonCommonSpec : ChangeSpec := { name := "automatonCommon", fn := fun _ => fun
  | [d1, d2] => { results := [.lit (.bool true)], args := [d1, d2] }
  | _ => none }
def automatonCommonRow : OpenClaim := { program := "ytbakoigejihnaaa", sum := "d680ecd5bc45a5453ed16ca0bf645f9c7b326d42939e75d9311112767f4bfb51", func := "licit/licitlaw27.AutomatonCommon", spec := "automatonCommon", unfollowed := true, recurses := true, apart := false }
def AutomatonCommonSaid : Prop := automatonCommonRow.holds Try.pinned (OpenSpec.ofChange automatonCommonSpec)

/-- ITS FALSE NEIGHBOUR: 'it returns false'. Refute it at one input. -/
def automatonCommonWrong : ChangeSpec := { name := "automatonCommon", fn := fun _ => fun
  | [d1, d2] => { results := [.lit (.bool false)], args := [d1, d2] }
  | _ => none }
def AutomatonCommonWrongFalsely : Prop := automatonCommonRow.holds Try.pinned (OpenSpec.ofChange automatonCommonWrong)

/-- 'licitlaw27.AutomatonNone': WHATEVER THE INPUT: true; the input reads as it did. -/
def automatonNoneSpec : ChangeSpec := { name := "automatonNone", fn := fun _ => fun
  | [d1, d2] => { results := [.lit (.bool true)], args := [d1, d2] }
  | _ => none }
def automatonNoneRow : OpenClaim := { program := "ytbakoigejihnaaa", sum := "d680ecd5bc45a5453ed16ca0bf645f9c7b326d42939e75d9311112767f4bfb51", func := "licit/licitlaw27.AutomatonNone", spec := "automatonNone", unfollowed := true, recurses := true, apart := false }
def AutomatonNoneSaid : Prop := automatonNoneRow.holds Try.pinned (OpenSpec.ofChange automatonNoneSpec)

/-- ITS FALSE NEIGHBOUR: 'it returns false'. Refute it at one input. -/
def automatonNoneWrong : ChangeSpec := { name := "automatonNone", fn := fun _ => fun
  | [d1, d2] => { results := [.lit (.bool false)], args := [d1, d2] }
  | _ => none }
def AutomatonNoneWrongFalsely : Prop := automatonNoneRow.holds Try.pinned (OpenSpec.ofChange automatonNoneWrong)

/-- 'licitlaw27.AutomatonSums': WHATEVER THE INPUT: true; the input reads as it did. -/
def automatonSumsSpec : ChangeSpec := { name := "automatonSums", fn := fun _ => fun
  | [d] => { results := [.lit (.bool true)], args := [d] }
  | _ => none }
def automatonSumsRow : OpenClaim := { program := "ytbakoigejihnaaa", sum := "d680ecd5bc45a5453ed16ca0bf645f9c7b326d42939e75d9311112767f4bfb51", func := "licit/licitlaw27.AutomatonSums", spec := "automatonSums", unfollowed := true, recurses := true, apart := false }
def AutomatonSumsSaid : Prop := automatonSumsRow.holds Try.pinned (OpenSpec.ofChange automatonSumsSpec)

/-- ITS FALSE NEIGHBOUR: 'it returns false'. Refute it at one input. -/
def automatonSumsWrong : ChangeSpec := { name := "automatonSums", fn := fun _ => fun
  | [d] => { results := [.lit (.bool false)], args := [d] }
  | _ => none }
def AutomatonSumsWrongFalsely : Prop := automatonSumsRow.holds Try.pinned (OpenSpec.ofChange automatonSumsWrong)

/- THE SECOND FORM. 'bulk': how many values and letters a reading holds, each counted each time it is reached (what is shared counts as often as it is met; a slice's spare places count too). A statement '..UptoSaid' is the law's where the arguments, and the package variables that the reading takes, are together of bulk at most 1048576: NARROWER than '..Said'. Prove '..Said' where nothing that the law and all that it calls make is longer than what came in: it says more and counts as full. Else prove '..UptoSaid'. A law counts once. -/
mutual
def uptoBulk {H : Type} : DataW H → Nat
  | .lit (.string bytes) => bytes.length + 1
  | .lit _ => 1
  | .nil => 1
  | .ptr d => uptoBulk d + 1
  | .slice elems spare => uptoBulkAll elems + uptoBulkAll spare + 1
  | .agg parts => uptoBulkAll parts + 1
  | .iface _ d => uptoBulk d + 1
  | .map entries => uptoBulkEntries entries + 1
  | .held _ => 1
def uptoBulkAll {H : Type} : List (DataW H) → Nat
  | [] => 0
  | d :: r => uptoBulk d + uptoBulkAll r
def uptoBulkEntries {H : Type} : List (Lit × DataW H) → Nat
  | [] => 0
  | x :: r => uptoBulkEntry x + uptoBulkEntries r
def uptoBulkEntry {H : Type} : Lit × DataW H → Nat
  | (.string bytes, d) => bytes.length + uptoBulk d + 1
  | (_, d) => uptoBulk d + 1
 end
def uptoSmall : (H : Type) → List (DataW H) → Bool := fun _ ds => decide (uptoBulkAll ds ≤ 1048576)
def OpenSpec.upto (s : _root_.Go.ChangeSpec) : _root_.Go.OpenSpec := { _root_.Go.OpenSpec.ofChange s with cond := some uptoSmall }

/-- 'licitlaw27.AutomatonSizes', WHERE WHAT IT READS IS OF BULK AT MOST 1048576: true; the input reads as it did. -/
def automatonSizesUptoRow : OpenClaim := { program := "ytbakoigejihnaaa", sum := "d680ecd5bc45a5453ed16ca0bf645f9c7b326d42939e75d9311112767f4bfb51", func := "licit/licitlaw27.AutomatonSizes", spec := "automatonSizes", unfollowed := true, recurses := true, apart := false, narrowed := true }
def AutomatonSizesUptoSaid : Prop := automatonSizesUptoRow.holds Try.pinned (OpenSpec.upto automatonSizesSpec)

/-- 'licitlaw27.AutomatonLongest', WHERE WHAT IT READS IS OF BULK AT MOST 1048576: true; the input reads as it did. -/
def automatonLongestUptoRow : OpenClaim := { program := "ytbakoigejihnaaa", sum := "d680ecd5bc45a5453ed16ca0bf645f9c7b326d42939e75d9311112767f4bfb51", func := "licit/licitlaw27.AutomatonLongest", spec := "automatonLongest", unfollowed := true, recurses := true, apart := false, narrowed := true }
def AutomatonLongestUptoSaid : Prop := automatonLongestUptoRow.holds Try.pinned (OpenSpec.upto automatonLongestSpec)

/-- 'licitlaw27.AutomatonAsks', WHERE WHAT IT READS IS OF BULK AT MOST 1048576: true; the input reads as it did. -/
def automatonAsksUptoRow : OpenClaim := { program := "ytbakoigejihnaaa", sum := "d680ecd5bc45a5453ed16ca0bf645f9c7b326d42939e75d9311112767f4bfb51", func := "licit/licitlaw27.AutomatonAsks", spec := "automatonAsks", unfollowed := true, recurses := true, apart := false, narrowed := true }
def AutomatonAsksUptoSaid : Prop := automatonAsksUptoRow.holds Try.pinned (OpenSpec.upto automatonAsksSpec)

/-- 'licitlaw27.AutomatonRuns', WHERE WHAT IT READS IS OF BULK AT MOST 1048576: true; the input reads as it did. -/
def automatonRunsUptoRow : OpenClaim := { program := "ytbakoigejihnaaa", sum := "d680ecd5bc45a5453ed16ca0bf645f9c7b326d42939e75d9311112767f4bfb51", func := "licit/licitlaw27.AutomatonRuns", spec := "automatonRuns", unfollowed := true, recurses := true, apart := false, narrowed := true }
def AutomatonRunsUptoSaid : Prop := automatonRunsUptoRow.holds Try.pinned (OpenSpec.upto automatonRunsSpec)

/-- 'licitlaw27.AutomatonCommon', WHERE WHAT IT READS IS OF BULK AT MOST 1048576: true; the input reads as it did. -/
def automatonCommonUptoRow : OpenClaim := { program := "ytbakoigejihnaaa", sum := "d680ecd5bc45a5453ed16ca0bf645f9c7b326d42939e75d9311112767f4bfb51", func := "licit/licitlaw27.AutomatonCommon", spec := "automatonCommon", unfollowed := true, recurses := true, apart := false, narrowed := true }
def AutomatonCommonUptoSaid : Prop := automatonCommonUptoRow.holds Try.pinned (OpenSpec.upto automatonCommonSpec)

/-- 'licitlaw27.AutomatonNone', WHERE WHAT IT READS IS OF BULK AT MOST 1048576: true; the input reads as it did. -/
def automatonNoneUptoRow : OpenClaim := { program := "ytbakoigejihnaaa", sum := "d680ecd5bc45a5453ed16ca0bf645f9c7b326d42939e75d9311112767f4bfb51", func := "licit/licitlaw27.AutomatonNone", spec := "automatonNone", unfollowed := true, recurses := true, apart := false, narrowed := true }
def AutomatonNoneUptoSaid : Prop := automatonNoneUptoRow.holds Try.pinned (OpenSpec.upto automatonNoneSpec)

/-- 'licitlaw27.AutomatonSums', WHERE WHAT IT READS IS OF BULK AT MOST 1048576: true; the input reads as it did. -/
def automatonSumsUptoRow : OpenClaim := { program := "ytbakoigejihnaaa", sum := "d680ecd5bc45a5453ed16ca0bf645f9c7b326d42939e75d9311112767f4bfb51", func := "licit/licitlaw27.AutomatonSums", spec := "automatonSums", unfollowed := true, recurses := true, apart := false, narrowed := true }
def AutomatonSumsUptoSaid : Prop := automatonSumsUptoRow.holds Try.pinned (OpenSpec.upto automatonSumsSpec)

end Rows
end Go.Proofs.Ytbakoigejihnaaa
