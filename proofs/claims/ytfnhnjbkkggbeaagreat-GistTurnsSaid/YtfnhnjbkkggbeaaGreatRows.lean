/-
  No cell of these rows narrows 'for every input' (looked for: loops, veiled, ifaces, maps, wideKeys, modest, calm, conditions, laid).
  DERIVED. THE GIVEN ROWS OF THIS SEAT. 2 by the template 'for every input the law returns true; each argument reads behind the call as it read before'; 0 by the template 'total and deterministic' (their statements: YtfnhnjbkkggbeaaGreatTotals.lean).
  GIVEN WITH THE SEED: the statements are not yours to turn. If you find one false, say at which input.
  Laid BY PROGRAM, IN A SANDBOX (cutbox-rows.mjs): the forced cells as the released guide's own fill.sh prints them over the translation 9b803eb33f962865… (all of the seat's roots in one cut). By AI agents, Wed Nov 11 2026. No macro, syntax, notation, axiom, sorry.
-/
import Derived.Test.YtfnhnjbkkggbeaaGreatChecked
import GoSem.Claim
import GoSem.ClaimJoined
import GoSem.ClaimMapViews
import Derived.JoinedTies
import Derived.KernelRfl
namespace Go.Proofs.YtfnhnjbkkggbeaaGreat
/- THE CELL 'sum', in the pinned program and in every row, IS THE sha256 OF THE DUMP (.gsa) THAT YtfnhnjbkkggbeaaGreatProg.lean LOADS. Nothing in Lean hashes anything: it is a label: what it is worth is what the hold of that sum in a sandbox is worth. -/
noncomputable def Tryz.pinned : Pinned := { name := "ytfnhnjbkkggbeaagreat", sum := "9b803eb33f962865e9a34e9d60292a97e9c62b13027057ef8c19c9fdab981048", checked := Tryz.checked }
namespace Rows
def none {H : Type} : Left H := { results := [], args := [] }

/-- 'pergolalaw17.GistTurns': WHATEVER THE INPUT: true; the input reads as it did. -/
def gistTurnsSpec : ChangeSpec := { name := "gistTurns", fn := fun _ => fun
  | [d1, d2, d3, d4, d5] => { results := [.lit (.bool true)], args := [d1, d2, d3, d4, d5] }
  | _ => none }
def gistTurnsRow : OpenClaim := { program := "ytfnhnjbkkggbeaagreat", sum := "9b803eb33f962865e9a34e9d60292a97e9c62b13027057ef8c19c9fdab981048", func := "pergola/pergolalaw17.GistTurns", spec := "gistTurns", inPlace := ["math/bits.Add64"], unfollowed := true, recurses := true, named := ["math/bits.divideError", "math/bits.overflowError"], apart := false }
def GistTurnsSaid : Prop := gistTurnsRow.holds Tryz.pinned (OpenSpec.ofChange gistTurnsSpec)

/-- ITS FALSE NEIGHBOUR: 'it returns false'. Refute it at one input. -/
def gistTurnsWrong : ChangeSpec := { name := "gistTurns", fn := fun _ => fun
  | [d1, d2, d3, d4, d5] => { results := [.lit (.bool false)], args := [d1, d2, d3, d4, d5] }
  | _ => none }
def GistTurnsWrongFalsely : Prop := gistTurnsRow.holds Tryz.pinned (OpenSpec.ofChange gistTurnsWrong)

/-- 'pergolalaw17.GistBroken': WHATEVER THE INPUT: true; the input reads as it did. -/
def gistBrokenSpec : ChangeSpec := { name := "gistBroken", fn := fun _ => fun
  | [d1, d2, d3, d4] => { results := [.lit (.bool true)], args := [d1, d2, d3, d4] }
  | _ => none }
def gistBrokenRow : OpenClaim := { program := "ytfnhnjbkkggbeaagreat", sum := "9b803eb33f962865e9a34e9d60292a97e9c62b13027057ef8c19c9fdab981048", func := "pergola/pergolalaw17.GistBroken", spec := "gistBroken", inPlace := ["math/bits.Add64"], unfollowed := true, recurses := true, named := ["math/bits.divideError", "math/bits.overflowError"], apart := false }
def GistBrokenSaid : Prop := gistBrokenRow.holds Tryz.pinned (OpenSpec.ofChange gistBrokenSpec)

/-- ITS FALSE NEIGHBOUR: 'it returns false'. Refute it at one input. -/
def gistBrokenWrong : ChangeSpec := { name := "gistBroken", fn := fun _ => fun
  | [d1, d2, d3, d4] => { results := [.lit (.bool false)], args := [d1, d2, d3, d4] }
  | _ => none }
def GistBrokenWrongFalsely : Prop := gistBrokenRow.holds Tryz.pinned (OpenSpec.ofChange gistBrokenWrong)

/- THE SECOND FORM. 'bulk': how many values and letters a reading holds, each counted each time it is reached (what is shared counts as often as it is met; a slice's spare places count too). A statement '..UptoSaid' is the law's where the arguments, and the package variables that the reading takes, are together of bulk at most 1048576: NARROWER than '..Said'. Prove '..Said' where nothing that the law and all that it calls make is longer than what came in: it says more and counts as full. Else prove '..UptoSaid'. A law counts once. -/
mutual
def uptoBulk {H : Type} : DataW H → Nat
  | .lit (.string bytes) => bytes.length + 1
  | .lit _ => 1
  | .nil => 1
  | .ptr d => uptoBulk d + 1
  | .slice elems spare => uptoBulkAll elems + uptoBulkAll spare + 1
  | .agg parts => uptoBulkAll parts + 1
  | .iface _ d => uptoBulk d + 1
  | .map entries => uptoBulkEntries entries + 1
  | .held _ => 1
def uptoBulkAll {H : Type} : List (DataW H) → Nat
  | [] => 0
  | d :: r => uptoBulk d + uptoBulkAll r
def uptoBulkEntries {H : Type} : List (Lit × DataW H) → Nat
  | [] => 0
  | x :: r => uptoBulkEntry x + uptoBulkEntries r
def uptoBulkEntry {H : Type} : Lit × DataW H → Nat
  | (.string bytes, d) => bytes.length + uptoBulk d + 1
  | (_, d) => uptoBulk d + 1
 end
def uptoSmall : (H : Type) → List (DataW H) → Bool := fun _ ds => decide (uptoBulkAll ds ≤ 1048576)
def OpenSpec.upto (s : _root_.Go.ChangeSpec) : _root_.Go.OpenSpec := { _root_.Go.OpenSpec.ofChange s with cond := some uptoSmall }

/-- 'pergolalaw17.GistTurns', WHERE WHAT IT READS IS OF BULK AT MOST 1048576: true; the input reads as it did. -/
def gistTurnsUptoRow : OpenClaim := { program := "ytfnhnjbkkggbeaagreat", sum := "9b803eb33f962865e9a34e9d60292a97e9c62b13027057ef8c19c9fdab981048", func := "pergola/pergolalaw17.GistTurns", spec := "gistTurns", inPlace := ["math/bits.Add64"], unfollowed := true, recurses := true, named := ["math/bits.divideError", "math/bits.overflowError"], apart := false, narrowed := true }
def GistTurnsUptoSaid : Prop := gistTurnsUptoRow.holds Tryz.pinned (OpenSpec.upto gistTurnsSpec)

/-- 'pergolalaw17.GistBroken', WHERE WHAT IT READS IS OF BULK AT MOST 1048576: true; the input reads as it did. -/
def gistBrokenUptoRow : OpenClaim := { program := "ytfnhnjbkkggbeaagreat", sum := "9b803eb33f962865e9a34e9d60292a97e9c62b13027057ef8c19c9fdab981048", func := "pergola/pergolalaw17.GistBroken", spec := "gistBroken", inPlace := ["math/bits.Add64"], unfollowed := true, recurses := true, named := ["math/bits.divideError", "math/bits.overflowError"], apart := false, narrowed := true }
def GistBrokenUptoSaid : Prop := gistBrokenUptoRow.holds Tryz.pinned (OpenSpec.upto gistBrokenSpec)

end Rows
end Go.Proofs.YtfnhnjbkkggbeaaGreat
