/-
  No cell of these rows narrows 'for every input' (looked for: loops, veiled, ifaces, maps, wideKeys, modest, calm, conditions, laid).
  DERIVED. THE GIVEN ROWS OF THIS SEAT. 3 by the template 'for every input the law returns true; each argument reads behind the call as it read before'; 0 by the template 'total and deterministic' (their statements: YtmmjmgnbffameaaTotals.lean).
  GIVEN WITH THE SEED: the statements are not yours to turn. If you find one false, say at which input.
  Laid BY PROGRAM, IN A SANDBOX (cutbox-rows.mjs): the forced cells as the released guide's own fill.sh prints them over the translation 2ab73f51f48aaad3… (all of the seat's roots in one cut). By AI agents, Wed Nov 11 2026. No macro, syntax, notation, axiom, sorry.
-/
import Derived.Test.YtmmjmgnbffameaaChecked
import GoSem.Claim
import GoSem.ClaimJoined
import GoSem.ClaimMapViews
import Derived.JoinedTies
import Derived.KernelRfl
namespace Go.Proofs.Ytmmjmgnbffameaa
/- THE CELL 'sum', in the pinned program and in every row, IS THE sha256 OF THE DUMP (.gsa) THAT YtmmjmgnbffameaaProg.lean LOADS. Nothing in Lean hashes anything: it is a label: what it is worth is what the hold of that sum in a sandbox is worth. -/
noncomputable def Try.pinned : Pinned := { name := "ytmmjmgnbffameaa", sum := "2ab73f51f48aaad30af2b1a701bdaeea444c04af5535c5d2cd35db5974ffe859", checked := Try.checked }
namespace Rows
def none {H : Type} : Left H := { results := [], args := [] }

/-- 'dioptralaw16.BusMemory': WHATEVER THE INPUT: true; the input reads as it did. -/
def busMemorySpec : ChangeSpec := { name := "busMemory", fn := fun _ => fun
  | [d1, d2] => { results := [.lit (.bool true)], args := [d1, d2] }
  | _ => none }
def busMemoryRow : OpenClaim := { program := "ytmmjmgnbffameaa", sum := "2ab73f51f48aaad30af2b1a701bdaeea444c04af5535c5d2cd35db5974ffe859", func := "dioptra/dioptralaw16.BusMemory", spec := "busMemory", unfollowed := true, recurses := true, apart := false }
def BusMemorySaid : Prop := busMemoryRow.holds Try.pinned (OpenSpec.ofChange busMemorySpec)

/-- ITS FALSE NEIGHBOUR: 'it returns false'. Refute it at one input. -/
def busMemoryWrong : ChangeSpec := { name := "busMemory", fn := fun _ => fun
  | [d1, d2] => { results := [.lit (.bool false)], args := [d1, d2] }
  | _ => none }
def BusMemoryWrongFalsely : Prop := busMemoryRow.holds Try.pinned (OpenSpec.ofChange busMemoryWrong)

/-- 'dioptralaw16.BusBytes': WHATEVER THE INPUT: true; the input reads as it did. -/
def busBytesSpec : ChangeSpec := { name := "busBytes", fn := fun _ => fun
  | [d1, d2, d3] => { results := [.lit (.bool true)], args := [d1, d2, d3] }
  | _ => none }
def busBytesRow : OpenClaim := { program := "ytmmjmgnbffameaa", sum := "2ab73f51f48aaad30af2b1a701bdaeea444c04af5535c5d2cd35db5974ffe859", func := "dioptra/dioptralaw16.BusBytes", spec := "busBytes", unfollowed := true, recurses := true, apart := false }
def BusBytesSaid : Prop := busBytesRow.holds Try.pinned (OpenSpec.ofChange busBytesSpec)

/-- ITS FALSE NEIGHBOUR: 'it returns false'. Refute it at one input. -/
def busBytesWrong : ChangeSpec := { name := "busBytes", fn := fun _ => fun
  | [d1, d2, d3] => { results := [.lit (.bool false)], args := [d1, d2, d3] }
  | _ => none }
def BusBytesWrongFalsely : Prop := busBytesRow.holds Try.pinned (OpenSpec.ofChange busBytesWrong)

/-- 'dioptralaw16.BusApart': WHATEVER THE INPUT: true; the input reads as it did. -/
def busApartSpec : ChangeSpec := { name := "busApart", fn := fun _ => fun
  | [d1, d2] => { results := [.lit (.bool true)], args := [d1, d2] }
  | _ => none }
def busApartRow : OpenClaim := { program := "ytmmjmgnbffameaa", sum := "2ab73f51f48aaad30af2b1a701bdaeea444c04af5535c5d2cd35db5974ffe859", func := "dioptra/dioptralaw16.BusApart", spec := "busApart", unfollowed := true, recurses := true, apart := false }
def BusApartSaid : Prop := busApartRow.holds Try.pinned (OpenSpec.ofChange busApartSpec)

/-- ITS FALSE NEIGHBOUR: 'it returns false'. Refute it at one input. -/
def busApartWrong : ChangeSpec := { name := "busApart", fn := fun _ => fun
  | [d1, d2] => { results := [.lit (.bool false)], args := [d1, d2] }
  | _ => none }
def BusApartWrongFalsely : Prop := busApartRow.holds Try.pinned (OpenSpec.ofChange busApartWrong)

/- THE SECOND FORM. 'bulk': how many values and letters a reading holds, each counted each time it is reached (what is shared counts as often as it is met; a slice's spare places count too). A statement '..UptoSaid' is the law's where the arguments, and the package variables that the reading takes, are together of bulk at most 1048576: NARROWER than '..Said'. Prove '..Said' where nothing that the law and all that it calls make is longer than what came in: it says more and counts as full. Else prove '..UptoSaid'. A law counts once. -/
mutual
def uptoBulk {H : Type} : DataW H → Nat
  | .lit (.string bytes) => bytes.length + 1
  | .lit _ => 1
  | .nil => 1
  | .ptr d => uptoBulk d + 1
  | .slice elems spare => uptoBulkAll elems + uptoBulkAll spare + 1
  | .agg parts => uptoBulkAll parts + 1
  | .iface _ d => uptoBulk d + 1
  | .map entries => uptoBulkEntries entries + 1
  | .held _ => 1
def uptoBulkAll {H : Type} : List (DataW H) → Nat
  | [] => 0
  | d :: r => uptoBulk d + uptoBulkAll r
def uptoBulkEntries {H : Type} : List (Lit × DataW H) → Nat
  | [] => 0
  | x :: r => uptoBulkEntry x + uptoBulkEntries r
def uptoBulkEntry {H : Type} : Lit × DataW H → Nat
  | (.string bytes, d) => bytes.length + uptoBulk d + 1
  | (_, d) => uptoBulk d + 1
 end
def uptoSmall : (H : Type) → List (DataW H) → Bool := fun _ ds => decide (uptoBulkAll ds ≤ 1048576)
def OpenSpec.upto (s : _root_.Go.ChangeSpec) : _root_.Go.OpenSpec := { _root_.Go.OpenSpec.ofChange s with cond := some uptoSmall }

/-- 'dioptralaw16.BusMemory', WHERE WHAT IT READS IS OF BULK AT MOST 1048576: true; the input reads as it did. -/
def busMemoryUptoRow : OpenClaim := { program := "ytmmjmgnbffameaa", sum := "2ab73f51f48aaad30af2b1a701bdaeea444c04af5535c5d2cd35db5974ffe859", func := "dioptra/dioptralaw16.BusMemory", spec := "busMemory", unfollowed := true, recurses := true, apart := false, narrowed := true }
def BusMemoryUptoSaid : Prop := busMemoryUptoRow.holds Try.pinned (OpenSpec.upto busMemorySpec)

/-- 'dioptralaw16.BusBytes', WHERE WHAT IT READS IS OF BULK AT MOST 1048576: true; the input reads as it did. -/
def busBytesUptoRow : OpenClaim := { program := "ytmmjmgnbffameaa", sum := "2ab73f51f48aaad30af2b1a701bdaeea444c04af5535c5d2cd35db5974ffe859", func := "dioptra/dioptralaw16.BusBytes", spec := "busBytes", unfollowed := true, recurses := true, apart := false, narrowed := true }
def BusBytesUptoSaid : Prop := busBytesUptoRow.holds Try.pinned (OpenSpec.upto busBytesSpec)

/-- 'dioptralaw16.BusApart', WHERE WHAT IT READS IS OF BULK AT MOST 1048576: true; the input reads as it did. -/
def busApartUptoRow : OpenClaim := { program := "ytmmjmgnbffameaa", sum := "2ab73f51f48aaad30af2b1a701bdaeea444c04af5535c5d2cd35db5974ffe859", func := "dioptra/dioptralaw16.BusApart", spec := "busApart", unfollowed := true, recurses := true, apart := false, narrowed := true }
def BusApartUptoSaid : Prop := busApartUptoRow.holds Try.pinned (OpenSpec.upto busApartSpec)

end Rows
end Go.Proofs.Ytmmjmgnbffameaa
