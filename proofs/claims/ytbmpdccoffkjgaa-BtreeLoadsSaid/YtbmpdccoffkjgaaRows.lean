/-
  No cell of these rows narrows 'for every input' (looked for: loops, veiled, ifaces, maps, wideKeys, modest, calm, conditions, laid).
  DERIVED. THE GIVEN ROWS OF THIS SEAT. 7 by the template 'for every input the law returns true; each argument reads behind the call as it read before'; 0 by the template 'total and deterministic' (their statements: YtbmpdccoffkjgaaTotals.lean).
  GIVEN WITH THE SEED: the statements are not yours to turn. If you find one false, say at which input.
  Laid BY PROGRAM, IN A SANDBOX (cutbox-rows.mjs): the forced cells as the released guide's own fill.sh prints them over the translation 6ed01a4f8019d3b0… (all of the seat's roots in one cut). By AI agents, Wed Nov 11 2026. No macro, syntax, notation, axiom, sorry.
-/
import Derived.Test.YtbmpdccoffkjgaaChecked
import GoSem.Claim
import GoSem.ClaimJoined
import GoSem.ClaimMapViews
import Derived.JoinedTies
import Derived.KernelRfl
namespace Go.Proofs.Ytbmpdccoffkjgaa
/- THE CELL 'sum', in the pinned program and in every row, IS THE sha256 OF THE DUMP (.gsa) THAT YtbmpdccoffkjgaaProg.lean LOADS. Nothing in Lean hashes anything: it is a label: what it is worth is what the hold of that sum in a sandbox is worth. -/
noncomputable def Try.pinned : Pinned := { name := "ytbmpdccoffkjgaa", sum := "6ed01a4f8019d3b052a9d8a04c8ec4dba0cb08d42dcf6a49a8455cd7dba2e6ae", checked := Try.checked }
namespace Rows
def none {H : Type} : Left H := { results := [], args := [] }

/-- 'corollarylaw07.BtreeLoads': WHATEVER THE INPUT: true; the input reads as it did. -/
def btreeLoadsSpec : ChangeSpec := { name := "btreeLoads", fn := fun _ => fun
  | [d1, d2] => { results := [.lit (.bool true)], args := [d1, d2] }
  | _ => none }
def btreeLoadsRow : OpenClaim := { program := "ytbmpdccoffkjgaa", sum := "6ed01a4f8019d3b052a9d8a04c8ec4dba0cb08d42dcf6a49a8455cd7dba2e6ae", func := "corollary/corollarylaw07.BtreeLoads", spec := "btreeLoads", inPlace := ["slices.overlaps[corollary/btree.Pair]", "slices.overlaps[int]", "internal/bytealg.abigen_runtime_cmpstring"], unfollowed := true, recurses := true, apart := false }
def BtreeLoadsSaid : Prop := btreeLoadsRow.holds Try.pinned (OpenSpec.ofChange btreeLoadsSpec)

/-- ITS FALSE NEIGHBOUR: 'it returns false'. Refute it at one input. -/
def btreeLoadsWrong : ChangeSpec := { name := "btreeLoads", fn := fun _ => fun
  | [d1, d2] => { results := [.lit (.bool false)], args := [d1, d2] }
  | _ => none }
def BtreeLoadsWrongFalsely : Prop := btreeLoadsRow.holds Try.pinned (OpenSpec.ofChange btreeLoadsWrong)

/-- 'corollarylaw07.BtreeFlat': WHATEVER THE INPUT: true; the input reads as it did. -/
def btreeFlatSpec : ChangeSpec := { name := "btreeFlat", fn := fun _ => fun
  | [d1, d2] => { results := [.lit (.bool true)], args := [d1, d2] }
  | _ => none }
def btreeFlatRow : OpenClaim := { program := "ytbmpdccoffkjgaa", sum := "6ed01a4f8019d3b052a9d8a04c8ec4dba0cb08d42dcf6a49a8455cd7dba2e6ae", func := "corollary/corollarylaw07.BtreeFlat", spec := "btreeFlat", inPlace := ["slices.overlaps[corollary/btree.Pair]", "slices.overlaps[int]", "internal/bytealg.abigen_runtime_cmpstring"], unfollowed := true, recurses := true, apart := false }
def BtreeFlatSaid : Prop := btreeFlatRow.holds Try.pinned (OpenSpec.ofChange btreeFlatSpec)

/-- ITS FALSE NEIGHBOUR: 'it returns false'. Refute it at one input. -/
def btreeFlatWrong : ChangeSpec := { name := "btreeFlat", fn := fun _ => fun
  | [d1, d2] => { results := [.lit (.bool false)], args := [d1, d2] }
  | _ => none }
def BtreeFlatWrongFalsely : Prop := btreeFlatRow.holds Try.pinned (OpenSpec.ofChange btreeFlatWrong)

/-- 'corollarylaw07.BtreeOrder': WHATEVER THE INPUT: true; the input reads as it did. -/
def btreeOrderSpec : ChangeSpec := { name := "btreeOrder", fn := fun _ => fun
  | [d1, d2, d3] => { results := [.lit (.bool true)], args := [d1, d2, d3] }
  | _ => none }
def btreeOrderRow : OpenClaim := { program := "ytbmpdccoffkjgaa", sum := "6ed01a4f8019d3b052a9d8a04c8ec4dba0cb08d42dcf6a49a8455cd7dba2e6ae", func := "corollary/corollarylaw07.BtreeOrder", spec := "btreeOrder", inPlace := ["slices.overlaps[corollary/btree.Pair]", "slices.overlaps[int]", "internal/bytealg.abigen_runtime_cmpstring"], unfollowed := true, recurses := true, apart := false }
def BtreeOrderSaid : Prop := btreeOrderRow.holds Try.pinned (OpenSpec.ofChange btreeOrderSpec)

/-- ITS FALSE NEIGHBOUR: 'it returns false'. Refute it at one input. -/
def btreeOrderWrong : ChangeSpec := { name := "btreeOrder", fn := fun _ => fun
  | [d1, d2, d3] => { results := [.lit (.bool false)], args := [d1, d2, d3] }
  | _ => none }
def BtreeOrderWrongFalsely : Prop := btreeOrderRow.holds Try.pinned (OpenSpec.ofChange btreeOrderWrong)

/-- 'corollarylaw07.BtreeParts': WHATEVER THE INPUT: true; the input reads as it did. -/
def btreePartsSpec : ChangeSpec := { name := "btreeParts", fn := fun _ => fun
  | [d1, d2, d3, d4] => { results := [.lit (.bool true)], args := [d1, d2, d3, d4] }
  | _ => none }
def btreePartsRow : OpenClaim := { program := "ytbmpdccoffkjgaa", sum := "6ed01a4f8019d3b052a9d8a04c8ec4dba0cb08d42dcf6a49a8455cd7dba2e6ae", func := "corollary/corollarylaw07.BtreeParts", spec := "btreeParts", inPlace := ["slices.overlaps[corollary/btree.Pair]", "slices.overlaps[int]", "internal/bytealg.abigen_runtime_cmpstring"], unfollowed := true, recurses := true, apart := false }
def BtreePartsSaid : Prop := btreePartsRow.holds Try.pinned (OpenSpec.ofChange btreePartsSpec)

/-- ITS FALSE NEIGHBOUR: 'it returns false'. Refute it at one input. -/
def btreePartsWrong : ChangeSpec := { name := "btreeParts", fn := fun _ => fun
  | [d1, d2, d3, d4] => { results := [.lit (.bool false)], args := [d1, d2, d3, d4] }
  | _ => none }
def BtreePartsWrongFalsely : Prop := btreePartsRow.holds Try.pinned (OpenSpec.ofChange btreePartsWrong)

/-- 'corollarylaw07.BtreePlays': WHATEVER THE INPUT: true; the input reads as it did. -/
def btreePlaysSpec : ChangeSpec := { name := "btreePlays", fn := fun _ => fun
  | [d] => { results := [.lit (.bool true)], args := [d] }
  | _ => none }
def btreePlaysRow : OpenClaim := { program := "ytbmpdccoffkjgaa", sum := "6ed01a4f8019d3b052a9d8a04c8ec4dba0cb08d42dcf6a49a8455cd7dba2e6ae", func := "corollary/corollarylaw07.BtreePlays", spec := "btreePlays", inPlace := ["slices.overlaps[corollary/btree.Pair]", "slices.overlaps[int]", "internal/bytealg.abigen_runtime_cmpstring"], unfollowed := true, recurses := true, apart := false }
def BtreePlaysSaid : Prop := btreePlaysRow.holds Try.pinned (OpenSpec.ofChange btreePlaysSpec)

/-- ITS FALSE NEIGHBOUR: 'it returns false'. Refute it at one input. -/
def btreePlaysWrong : ChangeSpec := { name := "btreePlays", fn := fun _ => fun
  | [d] => { results := [.lit (.bool false)], args := [d] }
  | _ => none }
def BtreePlaysWrongFalsely : Prop := btreePlaysRow.holds Try.pinned (OpenSpec.ofChange btreePlaysWrong)

/-- 'corollarylaw07.BtreeNone': WHATEVER THE INPUT: true; the input reads as it did. -/
def btreeNoneSpec : ChangeSpec := { name := "btreeNone", fn := fun _ => fun
  | [d1, d2, d3] => { results := [.lit (.bool true)], args := [d1, d2, d3] }
  | _ => none }
def btreeNoneRow : OpenClaim := { program := "ytbmpdccoffkjgaa", sum := "6ed01a4f8019d3b052a9d8a04c8ec4dba0cb08d42dcf6a49a8455cd7dba2e6ae", func := "corollary/corollarylaw07.BtreeNone", spec := "btreeNone", inPlace := ["internal/bytealg.abigen_runtime_cmpstring", "slices.overlaps[corollary/btree.Pair]", "slices.overlaps[int]"], unfollowed := true, recurses := true, apart := false }
def BtreeNoneSaid : Prop := btreeNoneRow.holds Try.pinned (OpenSpec.ofChange btreeNoneSpec)

/-- ITS FALSE NEIGHBOUR: 'it returns false'. Refute it at one input. -/
def btreeNoneWrong : ChangeSpec := { name := "btreeNone", fn := fun _ => fun
  | [d1, d2, d3] => { results := [.lit (.bool false)], args := [d1, d2, d3] }
  | _ => none }
def BtreeNoneWrongFalsely : Prop := btreeNoneRow.holds Try.pinned (OpenSpec.ofChange btreeNoneWrong)

/-- 'corollarylaw07.BtreeBack': WHATEVER THE INPUT: true; the input reads as it did. -/
def btreeBackSpec : ChangeSpec := { name := "btreeBack", fn := fun _ => fun
  | [d1, d2] => { results := [.lit (.bool true)], args := [d1, d2] }
  | _ => none }
def btreeBackRow : OpenClaim := { program := "ytbmpdccoffkjgaa", sum := "6ed01a4f8019d3b052a9d8a04c8ec4dba0cb08d42dcf6a49a8455cd7dba2e6ae", func := "corollary/corollarylaw07.BtreeBack", spec := "btreeBack", inPlace := ["slices.overlaps[corollary/btree.Pair]", "slices.overlaps[int]", "internal/bytealg.abigen_runtime_cmpstring"], unfollowed := true, recurses := true, apart := false }
def BtreeBackSaid : Prop := btreeBackRow.holds Try.pinned (OpenSpec.ofChange btreeBackSpec)

/-- ITS FALSE NEIGHBOUR: 'it returns false'. Refute it at one input. -/
def btreeBackWrong : ChangeSpec := { name := "btreeBack", fn := fun _ => fun
  | [d1, d2] => { results := [.lit (.bool false)], args := [d1, d2] }
  | _ => none }
def BtreeBackWrongFalsely : Prop := btreeBackRow.holds Try.pinned (OpenSpec.ofChange btreeBackWrong)

/- THE SECOND FORM. 'bulk': how many values and letters a reading holds, each counted each time it is reached (what is shared counts as often as it is met; a slice's spare places count too). A statement '..UptoSaid' is the law's where the arguments, and the package variables that the reading takes, are together of bulk at most 1048576: NARROWER than '..Said'. Prove '..Said' where nothing that the law and all that it calls make is longer than what came in: it says more and counts as full. Else prove '..UptoSaid'. A law counts once. -/
mutual
def uptoBulk {H : Type} : DataW H → Nat
  | .lit (.string bytes) => bytes.length + 1
  | .lit _ => 1
  | .nil => 1
  | .ptr d => uptoBulk d + 1
  | .slice elems spare => uptoBulkAll elems + uptoBulkAll spare + 1
  | .agg parts => uptoBulkAll parts + 1
  | .iface _ d => uptoBulk d + 1
  | .map entries => uptoBulkEntries entries + 1
  | .held _ => 1
def uptoBulkAll {H : Type} : List (DataW H) → Nat
  | [] => 0
  | d :: r => uptoBulk d + uptoBulkAll r
def uptoBulkEntries {H : Type} : List (Lit × DataW H) → Nat
  | [] => 0
  | x :: r => uptoBulkEntry x + uptoBulkEntries r
def uptoBulkEntry {H : Type} : Lit × DataW H → Nat
  | (.string bytes, d) => bytes.length + uptoBulk d + 1
  | (_, d) => uptoBulk d + 1
 end
def uptoSmall : (H : Type) → List (DataW H) → Bool := fun _ ds => decide (uptoBulkAll ds ≤ 1048576)
def OpenSpec.upto (s : _root_.Go.ChangeSpec) : _root_.Go.OpenSpec := { _root_.Go.OpenSpec.ofChange s with cond := some uptoSmall }

/-- 'corollarylaw07.BtreeLoads', WHERE WHAT IT READS IS OF BULK AT MOST 1048576: true; the input reads as it did. -/
def btreeLoadsUptoRow : OpenClaim := { program := "ytbmpdccoffkjgaa", sum := "6ed01a4f8019d3b052a9d8a04c8ec4dba0cb08d42dcf6a49a8455cd7dba2e6ae", func := "corollary/corollarylaw07.BtreeLoads", spec := "btreeLoads", inPlace := ["slices.overlaps[corollary/btree.Pair]", "slices.overlaps[int]", "internal/bytealg.abigen_runtime_cmpstring"], unfollowed := true, recurses := true, apart := false, narrowed := true }
def BtreeLoadsUptoSaid : Prop := btreeLoadsUptoRow.holds Try.pinned (OpenSpec.upto btreeLoadsSpec)

/-- 'corollarylaw07.BtreeFlat', WHERE WHAT IT READS IS OF BULK AT MOST 1048576: true; the input reads as it did. -/
def btreeFlatUptoRow : OpenClaim := { program := "ytbmpdccoffkjgaa", sum := "6ed01a4f8019d3b052a9d8a04c8ec4dba0cb08d42dcf6a49a8455cd7dba2e6ae", func := "corollary/corollarylaw07.BtreeFlat", spec := "btreeFlat", inPlace := ["slices.overlaps[corollary/btree.Pair]", "slices.overlaps[int]", "internal/bytealg.abigen_runtime_cmpstring"], unfollowed := true, recurses := true, apart := false, narrowed := true }
def BtreeFlatUptoSaid : Prop := btreeFlatUptoRow.holds Try.pinned (OpenSpec.upto btreeFlatSpec)

/-- 'corollarylaw07.BtreeOrder', WHERE WHAT IT READS IS OF BULK AT MOST 1048576: true; the input reads as it did. -/
def btreeOrderUptoRow : OpenClaim := { program := "ytbmpdccoffkjgaa", sum := "6ed01a4f8019d3b052a9d8a04c8ec4dba0cb08d42dcf6a49a8455cd7dba2e6ae", func := "corollary/corollarylaw07.BtreeOrder", spec := "btreeOrder", inPlace := ["slices.overlaps[corollary/btree.Pair]", "slices.overlaps[int]", "internal/bytealg.abigen_runtime_cmpstring"], unfollowed := true, recurses := true, apart := false, narrowed := true }
def BtreeOrderUptoSaid : Prop := btreeOrderUptoRow.holds Try.pinned (OpenSpec.upto btreeOrderSpec)

/-- 'corollarylaw07.BtreeParts', WHERE WHAT IT READS IS OF BULK AT MOST 1048576: true; the input reads as it did. -/
def btreePartsUptoRow : OpenClaim := { program := "ytbmpdccoffkjgaa", sum := "6ed01a4f8019d3b052a9d8a04c8ec4dba0cb08d42dcf6a49a8455cd7dba2e6ae", func := "corollary/corollarylaw07.BtreeParts", spec := "btreeParts", inPlace := ["slices.overlaps[corollary/btree.Pair]", "slices.overlaps[int]", "internal/bytealg.abigen_runtime_cmpstring"], unfollowed := true, recurses := true, apart := false, narrowed := true }
def BtreePartsUptoSaid : Prop := btreePartsUptoRow.holds Try.pinned (OpenSpec.upto btreePartsSpec)

/-- 'corollarylaw07.BtreePlays', WHERE WHAT IT READS IS OF BULK AT MOST 1048576: true; the input reads as it did. -/
def btreePlaysUptoRow : OpenClaim := { program := "ytbmpdccoffkjgaa", sum := "6ed01a4f8019d3b052a9d8a04c8ec4dba0cb08d42dcf6a49a8455cd7dba2e6ae", func := "corollary/corollarylaw07.BtreePlays", spec := "btreePlays", inPlace := ["slices.overlaps[corollary/btree.Pair]", "slices.overlaps[int]", "internal/bytealg.abigen_runtime_cmpstring"], unfollowed := true, recurses := true, apart := false, narrowed := true }
def BtreePlaysUptoSaid : Prop := btreePlaysUptoRow.holds Try.pinned (OpenSpec.upto btreePlaysSpec)

/-- 'corollarylaw07.BtreeNone', WHERE WHAT IT READS IS OF BULK AT MOST 1048576: true; the input reads as it did. -/
def btreeNoneUptoRow : OpenClaim := { program := "ytbmpdccoffkjgaa", sum := "6ed01a4f8019d3b052a9d8a04c8ec4dba0cb08d42dcf6a49a8455cd7dba2e6ae", func := "corollary/corollarylaw07.BtreeNone", spec := "btreeNone", inPlace := ["internal/bytealg.abigen_runtime_cmpstring", "slices.overlaps[corollary/btree.Pair]", "slices.overlaps[int]"], unfollowed := true, recurses := true, apart := false, narrowed := true }
def BtreeNoneUptoSaid : Prop := btreeNoneUptoRow.holds Try.pinned (OpenSpec.upto btreeNoneSpec)

/-- 'corollarylaw07.BtreeBack', WHERE WHAT IT READS IS OF BULK AT MOST 1048576: true; the input reads as it did. -/
def btreeBackUptoRow : OpenClaim := { program := "ytbmpdccoffkjgaa", sum := "6ed01a4f8019d3b052a9d8a04c8ec4dba0cb08d42dcf6a49a8455cd7dba2e6ae", func := "corollary/corollarylaw07.BtreeBack", spec := "btreeBack", inPlace := ["slices.overlaps[corollary/btree.Pair]", "slices.overlaps[int]", "internal/bytealg.abigen_runtime_cmpstring"], unfollowed := true, recurses := true, apart := false, narrowed := true }
def BtreeBackUptoSaid : Prop := btreeBackUptoRow.holds Try.pinned (OpenSpec.upto btreeBackSpec)

end Rows
end Go.Proofs.Ytbmpdccoffkjgaa
