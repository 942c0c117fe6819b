/-
  No cell of these rows narrows 'for every input' (looked for: loops, veiled, ifaces, maps, wideKeys, modest, calm, conditions, laid).
  DERIVED. THE GIVEN ROWS OF THIS SEAT. 7 by the template 'for every input the law returns true; each argument reads behind the call as it read before'; 0 by the template 'total and deterministic' (their statements: YtickejlolpoboaaTotals.lean).
  GIVEN WITH THE SEED: the statements are not yours to turn. If you find one false, say at which input.
  Laid BY PROGRAM, IN A SANDBOX (cutbox-rows.mjs): the forced cells as the released guide's own fill.sh prints them over the translation 212e98b45e0d0057… (all of the seat's roots in one cut). By AI agents, Wed Nov 11 2026. No macro, syntax, notation, axiom, sorry.
-/
import Derived.Test.YtickejlolpoboaaChecked
import GoSem.Claim
import GoSem.ClaimJoined
import GoSem.ClaimMapViews
import Derived.JoinedTies
import Derived.KernelRfl
namespace Go.Proofs.Ytickejlolpoboaa
/- THE CELL 'sum', in the pinned program and in every row, IS THE sha256 OF THE DUMP (.gsa) THAT YtickejlolpoboaaProg.lean LOADS. Nothing in Lean hashes anything: it is a label: what it is worth is what the hold of that sum in a sandbox is worth. -/
noncomputable def Try.pinned : Pinned := { name := "ytickejlolpoboaa", sum := "212e98b45e0d00573f4ba2db4943dc5426c1a6ef9d9615d4111d9c3f460a6eca", checked := Try.checked }
namespace Rows
def none {H : Type} : Left H := { results := [], args := [] }

/-- 'watchtowerlaw03.LabelMade': WHATEVER THE INPUT: true; the input reads as it did. -/
def labelMadeSpec : ChangeSpec := { name := "labelMade", fn := fun _ => fun
  | [d] => { results := [.lit (.bool true)], args := [d] }
  | _ => none }
def labelMadeRow : OpenClaim := { program := "ytickejlolpoboaa", sum := "212e98b45e0d00573f4ba2db4943dc5426c1a6ef9d9615d4111d9c3f460a6eca", func := "watchtower/watchtowerlaw03.LabelMade", spec := "labelMade", unfollowed := true, recurses := true, apart := false }
def LabelMadeSaid : Prop := labelMadeRow.holds Try.pinned (OpenSpec.ofChange labelMadeSpec)

/-- ITS FALSE NEIGHBOUR: 'it returns false'. Refute it at one input. -/
def labelMadeWrong : ChangeSpec := { name := "labelMade", fn := fun _ => fun
  | [d] => { results := [.lit (.bool false)], args := [d] }
  | _ => none }
def LabelMadeWrongFalsely : Prop := labelMadeRow.holds Try.pinned (OpenSpec.ofChange labelMadeWrong)

/-- 'watchtowerlaw03.LabelOrder': WHATEVER THE INPUT: true; the input reads as it did. -/
def labelOrderSpec : ChangeSpec := { name := "labelOrder", fn := fun _ => fun
  | [d1, d2, d3] => { results := [.lit (.bool true)], args := [d1, d2, d3] }
  | _ => none }
def labelOrderRow : OpenClaim := { program := "ytickejlolpoboaa", sum := "212e98b45e0d00573f4ba2db4943dc5426c1a6ef9d9615d4111d9c3f460a6eca", func := "watchtower/watchtowerlaw03.LabelOrder", spec := "labelOrder", unfollowed := true, recurses := true, apart := false }
def LabelOrderSaid : Prop := labelOrderRow.holds Try.pinned (OpenSpec.ofChange labelOrderSpec)

/-- ITS FALSE NEIGHBOUR: 'it returns false'. Refute it at one input. -/
def labelOrderWrong : ChangeSpec := { name := "labelOrder", fn := fun _ => fun
  | [d1, d2, d3] => { results := [.lit (.bool false)], args := [d1, d2, d3] }
  | _ => none }
def LabelOrderWrongFalsely : Prop := labelOrderRow.holds Try.pinned (OpenSpec.ofChange labelOrderWrong)

/-- 'watchtowerlaw03.LabelMerges': WHATEVER THE INPUT: true; the input reads as it did. -/
def labelMergesSpec : ChangeSpec := { name := "labelMerges", fn := fun _ => fun
  | [d1, d2, d3] => { results := [.lit (.bool true)], args := [d1, d2, d3] }
  | _ => none }
def labelMergesRow : OpenClaim := { program := "ytickejlolpoboaa", sum := "212e98b45e0d00573f4ba2db4943dc5426c1a6ef9d9615d4111d9c3f460a6eca", func := "watchtower/watchtowerlaw03.LabelMerges", spec := "labelMerges", unfollowed := true, recurses := true, apart := false }
def LabelMergesSaid : Prop := labelMergesRow.holds Try.pinned (OpenSpec.ofChange labelMergesSpec)

/-- ITS FALSE NEIGHBOUR: 'it returns false'. Refute it at one input. -/
def labelMergesWrong : ChangeSpec := { name := "labelMerges", fn := fun _ => fun
  | [d1, d2, d3] => { results := [.lit (.bool false)], args := [d1, d2, d3] }
  | _ => none }
def LabelMergesWrongFalsely : Prop := labelMergesRow.holds Try.pinned (OpenSpec.ofChange labelMergesWrong)

/-- 'watchtowerlaw03.LabelCut': WHATEVER THE INPUT: true; the input reads as it did. -/
def labelCutSpec : ChangeSpec := { name := "labelCut", fn := fun _ => fun
  | [d1, d2] => { results := [.lit (.bool true)], args := [d1, d2] }
  | _ => none }
def labelCutRow : OpenClaim := { program := "ytickejlolpoboaa", sum := "212e98b45e0d00573f4ba2db4943dc5426c1a6ef9d9615d4111d9c3f460a6eca", func := "watchtower/watchtowerlaw03.LabelCut", spec := "labelCut", unfollowed := true, recurses := true, apart := false }
def LabelCutSaid : Prop := labelCutRow.holds Try.pinned (OpenSpec.ofChange labelCutSpec)

/-- ITS FALSE NEIGHBOUR: 'it returns false'. Refute it at one input. -/
def labelCutWrong : ChangeSpec := { name := "labelCut", fn := fun _ => fun
  | [d1, d2] => { results := [.lit (.bool false)], args := [d1, d2] }
  | _ => none }
def LabelCutWrongFalsely : Prop := labelCutRow.holds Try.pinned (OpenSpec.ofChange labelCutWrong)

/-- 'watchtowerlaw03.LabelName': WHATEVER THE INPUT: true; the input reads as it did. -/
def labelNameSpec : ChangeSpec := { name := "labelName", fn := fun _ => fun
  | [d] => { results := [.lit (.bool true)], args := [d] }
  | _ => none }
def labelNameRow : OpenClaim := { program := "ytickejlolpoboaa", sum := "212e98b45e0d00573f4ba2db4943dc5426c1a6ef9d9615d4111d9c3f460a6eca", func := "watchtower/watchtowerlaw03.LabelName", spec := "labelName", unfollowed := true, recurses := true, apart := false }
def LabelNameSaid : Prop := labelNameRow.holds Try.pinned (OpenSpec.ofChange labelNameSpec)

/-- ITS FALSE NEIGHBOUR: 'it returns false'. Refute it at one input. -/
def labelNameWrong : ChangeSpec := { name := "labelName", fn := fun _ => fun
  | [d] => { results := [.lit (.bool false)], args := [d] }
  | _ => none }
def LabelNameWrongFalsely : Prop := labelNameRow.holds Try.pinned (OpenSpec.ofChange labelNameWrong)

/-- 'watchtowerlaw03.LabelIs': WHATEVER THE INPUT: true; the input reads as it did. -/
def labelIsSpec : ChangeSpec := { name := "labelIs", fn := fun _ => fun
  | [d1, d2, d3, d4] => { results := [.lit (.bool true)], args := [d1, d2, d3, d4] }
  | _ => none }
def labelIsRow : OpenClaim := { program := "ytickejlolpoboaa", sum := "212e98b45e0d00573f4ba2db4943dc5426c1a6ef9d9615d4111d9c3f460a6eca", func := "watchtower/watchtowerlaw03.LabelIs", spec := "labelIs", unfollowed := true, recurses := true, apart := false }
def LabelIsSaid : Prop := labelIsRow.holds Try.pinned (OpenSpec.ofChange labelIsSpec)

/-- ITS FALSE NEIGHBOUR: 'it returns false'. Refute it at one input. -/
def labelIsWrong : ChangeSpec := { name := "labelIs", fn := fun _ => fun
  | [d1, d2, d3, d4] => { results := [.lit (.bool false)], args := [d1, d2, d3, d4] }
  | _ => none }
def LabelIsWrongFalsely : Prop := labelIsRow.holds Try.pinned (OpenSpec.ofChange labelIsWrong)

/-- 'watchtowerlaw03.LabelWith': WHATEVER THE INPUT: true; the input reads as it did. -/
def labelWithSpec : ChangeSpec := { name := "labelWith", fn := fun _ => fun
  | [d1, d2, d3, d4] => { results := [.lit (.bool true)], args := [d1, d2, d3, d4] }
  | _ => none }
def labelWithRow : OpenClaim := { program := "ytickejlolpoboaa", sum := "212e98b45e0d00573f4ba2db4943dc5426c1a6ef9d9615d4111d9c3f460a6eca", func := "watchtower/watchtowerlaw03.LabelWith", spec := "labelWith", unfollowed := true, recurses := true, apart := false }
def LabelWithSaid : Prop := labelWithRow.holds Try.pinned (OpenSpec.ofChange labelWithSpec)

/-- ITS FALSE NEIGHBOUR: 'it returns false'. Refute it at one input. -/
def labelWithWrong : ChangeSpec := { name := "labelWith", fn := fun _ => fun
  | [d1, d2, d3, d4] => { results := [.lit (.bool false)], args := [d1, d2, d3, d4] }
  | _ => none }
def LabelWithWrongFalsely : Prop := labelWithRow.holds Try.pinned (OpenSpec.ofChange labelWithWrong)

/- THE SECOND FORM. 'bulk': how many values and letters a reading holds, each counted each time it is reached (what is shared counts as often as it is met; a slice's spare places count too). A statement '..UptoSaid' is the law's where the arguments, and the package variables that the reading takes, are together of bulk at most 1048576: NARROWER than '..Said'. Prove '..Said' where nothing that the law and all that it calls make is longer than what came in: it says more and counts as full. Else prove '..UptoSaid'. A law counts once. -/
mutual
def uptoBulk {H : Type} : DataW H → Nat
  | .lit (.string bytes) => bytes.length + 1
  | .lit _ => 1
  | .nil => 1
  | .ptr d => uptoBulk d + 1
  | .slice elems spare => uptoBulkAll elems + uptoBulkAll spare + 1
  | .agg parts => uptoBulkAll parts + 1
  | .iface _ d => uptoBulk d + 1
  | .map entries => uptoBulkEntries entries + 1
  | .held _ => 1
def uptoBulkAll {H : Type} : List (DataW H) → Nat
  | [] => 0
  | d :: r => uptoBulk d + uptoBulkAll r
def uptoBulkEntries {H : Type} : List (Lit × DataW H) → Nat
  | [] => 0
  | x :: r => uptoBulkEntry x + uptoBulkEntries r
def uptoBulkEntry {H : Type} : Lit × DataW H → Nat
  | (.string bytes, d) => bytes.length + uptoBulk d + 1
  | (_, d) => uptoBulk d + 1
 end
def uptoSmall : (H : Type) → List (DataW H) → Bool := fun _ ds => decide (uptoBulkAll ds ≤ 1048576)
def OpenSpec.upto (s : _root_.Go.ChangeSpec) : _root_.Go.OpenSpec := { _root_.Go.OpenSpec.ofChange s with cond := some uptoSmall }

/-- 'watchtowerlaw03.LabelMade', WHERE WHAT IT READS IS OF BULK AT MOST 1048576: true; the input reads as it did. -/
def labelMadeUptoRow : OpenClaim := { program := "ytickejlolpoboaa", sum := "212e98b45e0d00573f4ba2db4943dc5426c1a6ef9d9615d4111d9c3f460a6eca", func := "watchtower/watchtowerlaw03.LabelMade", spec := "labelMade", unfollowed := true, recurses := true, apart := false, narrowed := true }
def LabelMadeUptoSaid : Prop := labelMadeUptoRow.holds Try.pinned (OpenSpec.upto labelMadeSpec)

/-- 'watchtowerlaw03.LabelOrder', WHERE WHAT IT READS IS OF BULK AT MOST 1048576: true; the input reads as it did. -/
def labelOrderUptoRow : OpenClaim := { program := "ytickejlolpoboaa", sum := "212e98b45e0d00573f4ba2db4943dc5426c1a6ef9d9615d4111d9c3f460a6eca", func := "watchtower/watchtowerlaw03.LabelOrder", spec := "labelOrder", unfollowed := true, recurses := true, apart := false, narrowed := true }
def LabelOrderUptoSaid : Prop := labelOrderUptoRow.holds Try.pinned (OpenSpec.upto labelOrderSpec)

/-- 'watchtowerlaw03.LabelMerges', WHERE WHAT IT READS IS OF BULK AT MOST 1048576: true; the input reads as it did. -/
def labelMergesUptoRow : OpenClaim := { program := "ytickejlolpoboaa", sum := "212e98b45e0d00573f4ba2db4943dc5426c1a6ef9d9615d4111d9c3f460a6eca", func := "watchtower/watchtowerlaw03.LabelMerges", spec := "labelMerges", unfollowed := true, recurses := true, apart := false, narrowed := true }
def LabelMergesUptoSaid : Prop := labelMergesUptoRow.holds Try.pinned (OpenSpec.upto labelMergesSpec)

/-- 'watchtowerlaw03.LabelCut', WHERE WHAT IT READS IS OF BULK AT MOST 1048576: true; the input reads as it did. -/
def labelCutUptoRow : OpenClaim := { program := "ytickejlolpoboaa", sum := "212e98b45e0d00573f4ba2db4943dc5426c1a6ef9d9615d4111d9c3f460a6eca", func := "watchtower/watchtowerlaw03.LabelCut", spec := "labelCut", unfollowed := true, recurses := true, apart := false, narrowed := true }
def LabelCutUptoSaid : Prop := labelCutUptoRow.holds Try.pinned (OpenSpec.upto labelCutSpec)

/-- 'watchtowerlaw03.LabelName', WHERE WHAT IT READS IS OF BULK AT MOST 1048576: true; the input reads as it did. -/
def labelNameUptoRow : OpenClaim := { program := "ytickejlolpoboaa", sum := "212e98b45e0d00573f4ba2db4943dc5426c1a6ef9d9615d4111d9c3f460a6eca", func := "watchtower/watchtowerlaw03.LabelName", spec := "labelName", unfollowed := true, recurses := true, apart := false, narrowed := true }
def LabelNameUptoSaid : Prop := labelNameUptoRow.holds Try.pinned (OpenSpec.upto labelNameSpec)

/-- 'watchtowerlaw03.LabelIs', WHERE WHAT IT READS IS OF BULK AT MOST 1048576: true; the input reads as it did. -/
def labelIsUptoRow : OpenClaim := { program := "ytickejlolpoboaa", sum := "212e98b45e0d00573f4ba2db4943dc5426c1a6ef9d9615d4111d9c3f460a6eca", func := "watchtower/watchtowerlaw03.LabelIs", spec := "labelIs", unfollowed := true, recurses := true, apart := false, narrowed := true }
def LabelIsUptoSaid : Prop := labelIsUptoRow.holds Try.pinned (OpenSpec.upto labelIsSpec)

/-- 'watchtowerlaw03.LabelWith', WHERE WHAT IT READS IS OF BULK AT MOST 1048576: true; the input reads as it did. -/
def labelWithUptoRow : OpenClaim := { program := "ytickejlolpoboaa", sum := "212e98b45e0d00573f4ba2db4943dc5426c1a6ef9d9615d4111d9c3f460a6eca", func := "watchtower/watchtowerlaw03.LabelWith", spec := "labelWith", unfollowed := true, recurses := true, apart := false, narrowed := true }
def LabelWithUptoSaid : Prop := labelWithUptoRow.holds Try.pinned (OpenSpec.upto labelWithSpec)

end Rows
end Go.Proofs.Ytickejlolpoboaa
