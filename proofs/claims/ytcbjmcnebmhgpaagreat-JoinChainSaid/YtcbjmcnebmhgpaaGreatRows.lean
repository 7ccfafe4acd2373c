/-
  No cell of these rows narrows 'for every input' (looked for: loops, veiled, ifaces, maps, wideKeys, modest, calm, conditions, laid).
  DERIVED. THE GIVEN ROWS OF THIS SEAT. 4 by the template 'for every input the law returns true; each argument reads behind the call as it read before'; 0 by the template 'total and deterministic' (their statements: YtcbjmcnebmhgpaaGreatTotals.lean).
  GIVEN WITH THE SEED: the statements are not yours to turn. If you find one false, say at which input.
  Laid BY PROGRAM, IN A SANDBOX (cutbox-rows.mjs): the forced cells as the released guide's own fill.sh prints them over the translation dc394aaf3b1e15f6… (all of the seat's roots in one cut). By AI agents, Wed Nov 11 2026. No macro, syntax, notation, axiom, sorry.
-/
import Derived.Test.YtcbjmcnebmhgpaaGreatChecked
import GoSem.Claim
import GoSem.ClaimJoined
import GoSem.ClaimMapViews
import Derived.JoinedTies
import Derived.KernelRfl
namespace Go.Proofs.YtcbjmcnebmhgpaaGreat
/- THE CELL 'sum', in the pinned program and in every row, IS THE sha256 OF THE DUMP (.gsa) THAT YtcbjmcnebmhgpaaGreatProg.lean LOADS. Nothing in Lean hashes anything: it is a label: what it is worth is what the hold of that sum in a sandbox is worth. -/
noncomputable def Tryz.pinned : Pinned := { name := "ytcbjmcnebmhgpaagreat", sum := "dc394aaf3b1e15f6aa34ecf75421a6009a19cf60bc7368fe3d8f12e9cb3489b6", checked := Tryz.checked }
namespace Rows
def none {H : Type} : Left H := { results := [], args := [] }

/-- 'pergolalaw22.JoinEven': WHATEVER THE INPUT: true; the input reads as it did. -/
def joinEvenSpec : ChangeSpec := { name := "joinEven", fn := fun _ => fun
  | [d1, d2] => { results := [.lit (.bool true)], args := [d1, d2] }
  | _ => none }
def joinEvenRow : OpenClaim := { program := "ytcbjmcnebmhgpaagreat", sum := "dc394aaf3b1e15f6aa34ecf75421a6009a19cf60bc7368fe3d8f12e9cb3489b6", func := "pergola/pergolalaw22.JoinEven", spec := "joinEven", unfollowed := true, recurses := true, apart := false }
def JoinEvenSaid : Prop := joinEvenRow.holds Tryz.pinned (OpenSpec.ofChange joinEvenSpec)

/-- ITS FALSE NEIGHBOUR: 'it returns false'. Refute it at one input. -/
def joinEvenWrong : ChangeSpec := { name := "joinEven", fn := fun _ => fun
  | [d1, d2] => { results := [.lit (.bool false)], args := [d1, d2] }
  | _ => none }
def JoinEvenWrongFalsely : Prop := joinEvenRow.holds Tryz.pinned (OpenSpec.ofChange joinEvenWrong)

/-- 'pergolalaw22.JoinGroups': WHATEVER THE INPUT: true; the input reads as it did. -/
def joinGroupsSpec : ChangeSpec := { name := "joinGroups", fn := fun _ => fun
  | [d1, d2] => { results := [.lit (.bool true)], args := [d1, d2] }
  | _ => none }
def joinGroupsRow : OpenClaim := { program := "ytcbjmcnebmhgpaagreat", sum := "dc394aaf3b1e15f6aa34ecf75421a6009a19cf60bc7368fe3d8f12e9cb3489b6", func := "pergola/pergolalaw22.JoinGroups", spec := "joinGroups", unfollowed := true, recurses := true, apart := false }
def JoinGroupsSaid : Prop := joinGroupsRow.holds Tryz.pinned (OpenSpec.ofChange joinGroupsSpec)

/-- ITS FALSE NEIGHBOUR: 'it returns false'. Refute it at one input. -/
def joinGroupsWrong : ChangeSpec := { name := "joinGroups", fn := fun _ => fun
  | [d1, d2] => { results := [.lit (.bool false)], args := [d1, d2] }
  | _ => none }
def JoinGroupsWrongFalsely : Prop := joinGroupsRow.holds Tryz.pinned (OpenSpec.ofChange joinGroupsWrong)

/-- 'pergolalaw22.JoinGrid': WHATEVER THE INPUT: true; the input reads as it did. -/
def joinGridSpec : ChangeSpec := { name := "joinGrid", fn := fun _ => fun
  | [d1, d2, d3] => { results := [.lit (.bool true)], args := [d1, d2, d3] }
  | _ => none }
def joinGridRow : OpenClaim := { program := "ytcbjmcnebmhgpaagreat", sum := "dc394aaf3b1e15f6aa34ecf75421a6009a19cf60bc7368fe3d8f12e9cb3489b6", func := "pergola/pergolalaw22.JoinGrid", spec := "joinGrid", unfollowed := true, recurses := true, apart := false }
def JoinGridSaid : Prop := joinGridRow.holds Tryz.pinned (OpenSpec.ofChange joinGridSpec)

/-- ITS FALSE NEIGHBOUR: 'it returns false'. Refute it at one input. -/
def joinGridWrong : ChangeSpec := { name := "joinGrid", fn := fun _ => fun
  | [d1, d2, d3] => { results := [.lit (.bool false)], args := [d1, d2, d3] }
  | _ => none }
def JoinGridWrongFalsely : Prop := joinGridRow.holds Tryz.pinned (OpenSpec.ofChange joinGridWrong)

/-- 'pergolalaw22.JoinChain': WHATEVER THE INPUT: true; the input reads as it did. -/
def joinChainSpec : ChangeSpec := { name := "joinChain", fn := fun _ => fun
  | [d1, d2] => { results := [.lit (.bool true)], args := [d1, d2] }
  | _ => none }
def joinChainRow : OpenClaim := { program := "ytcbjmcnebmhgpaagreat", sum := "dc394aaf3b1e15f6aa34ecf75421a6009a19cf60bc7368fe3d8f12e9cb3489b6", func := "pergola/pergolalaw22.JoinChain", spec := "joinChain", unfollowed := true, recurses := true, apart := false }
def JoinChainSaid : Prop := joinChainRow.holds Tryz.pinned (OpenSpec.ofChange joinChainSpec)

/-- ITS FALSE NEIGHBOUR: 'it returns false'. Refute it at one input. -/
def joinChainWrong : ChangeSpec := { name := "joinChain", fn := fun _ => fun
  | [d1, d2] => { results := [.lit (.bool false)], args := [d1, d2] }
  | _ => none }
def JoinChainWrongFalsely : Prop := joinChainRow.holds Tryz.pinned (OpenSpec.ofChange joinChainWrong)

/- THE SECOND FORM. 'bulk': how many values and letters a reading holds, each counted each time it is reached (what is shared counts as often as it is met; a slice's spare places count too). A statement '..UptoSaid' is the law's where the arguments, and the package variables that the reading takes, are together of bulk at most 1048576: NARROWER than '..Said'. Prove '..Said' where nothing that the law and all that it calls make is longer than what came in: it says more and counts as full. Else prove '..UptoSaid'. A law counts once. -/
mutual
def uptoBulk {H : Type} : DataW H → Nat
  | .lit (.string bytes) => bytes.length + 1
  | .lit _ => 1
  | .nil => 1
  | .ptr d => uptoBulk d + 1
  | .slice elems spare => uptoBulkAll elems + uptoBulkAll spare + 1
  | .agg parts => uptoBulkAll parts + 1
  | .iface _ d => uptoBulk d + 1
  | .map entries => uptoBulkEntries entries + 1
  | .held _ => 1
def uptoBulkAll {H : Type} : List (DataW H) → Nat
  | [] => 0
  | d :: r => uptoBulk d + uptoBulkAll r
def uptoBulkEntries {H : Type} : List (Lit × DataW H) → Nat
  | [] => 0
  | x :: r => uptoBulkEntry x + uptoBulkEntries r
def uptoBulkEntry {H : Type} : Lit × DataW H → Nat
  | (.string bytes, d) => bytes.length + uptoBulk d + 1
  | (_, d) => uptoBulk d + 1
 end
def uptoSmall : (H : Type) → List (DataW H) → Bool := fun _ ds => decide (uptoBulkAll ds ≤ 1048576)
def OpenSpec.upto (s : _root_.Go.ChangeSpec) : _root_.Go.OpenSpec := { _root_.Go.OpenSpec.ofChange s with cond := some uptoSmall }

/-- 'pergolalaw22.JoinEven', WHERE WHAT IT READS IS OF BULK AT MOST 1048576: true; the input reads as it did. -/
def joinEvenUptoRow : OpenClaim := { program := "ytcbjmcnebmhgpaagreat", sum := "dc394aaf3b1e15f6aa34ecf75421a6009a19cf60bc7368fe3d8f12e9cb3489b6", func := "pergola/pergolalaw22.JoinEven", spec := "joinEven", unfollowed := true, recurses := true, apart := false, narrowed := true }
def JoinEvenUptoSaid : Prop := joinEvenUptoRow.holds Tryz.pinned (OpenSpec.upto joinEvenSpec)

/-- 'pergolalaw22.JoinGroups', WHERE WHAT IT READS IS OF BULK AT MOST 1048576: true; the input reads as it did. -/
def joinGroupsUptoRow : OpenClaim := { program := "ytcbjmcnebmhgpaagreat", sum := "dc394aaf3b1e15f6aa34ecf75421a6009a19cf60bc7368fe3d8f12e9cb3489b6", func := "pergola/pergolalaw22.JoinGroups", spec := "joinGroups", unfollowed := true, recurses := true, apart := false, narrowed := true }
def JoinGroupsUptoSaid : Prop := joinGroupsUptoRow.holds Tryz.pinned (OpenSpec.upto joinGroupsSpec)

/-- 'pergolalaw22.JoinGrid', WHERE WHAT IT READS IS OF BULK AT MOST 1048576: true; the input reads as it did. -/
def joinGridUptoRow : OpenClaim := { program := "ytcbjmcnebmhgpaagreat", sum := "dc394aaf3b1e15f6aa34ecf75421a6009a19cf60bc7368fe3d8f12e9cb3489b6", func := "pergola/pergolalaw22.JoinGrid", spec := "joinGrid", unfollowed := true, recurses := true, apart := false, narrowed := true }
def JoinGridUptoSaid : Prop := joinGridUptoRow.holds Tryz.pinned (OpenSpec.upto joinGridSpec)

/-- 'pergolalaw22.JoinChain', WHERE WHAT IT READS IS OF BULK AT MOST 1048576: true; the input reads as it did. -/
def joinChainUptoRow : OpenClaim := { program := "ytcbjmcnebmhgpaagreat", sum := "dc394aaf3b1e15f6aa34ecf75421a6009a19cf60bc7368fe3d8f12e9cb3489b6", func := "pergola/pergolalaw22.JoinChain", spec := "joinChain", unfollowed := true, recurses := true, apart := false, narrowed := true }
def JoinChainUptoSaid : Prop := joinChainUptoRow.holds Tryz.pinned (OpenSpec.upto joinChainSpec)

end Rows
end Go.Proofs.YtcbjmcnebmhgpaaGreat
