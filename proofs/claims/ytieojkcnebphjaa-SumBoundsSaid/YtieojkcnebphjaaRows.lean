/-
  No cell of these rows narrows 'for every input' (looked for: loops, veiled, ifaces, maps, wideKeys, modest, calm, conditions, laid).
  DERIVED. THE GIVEN ROWS OF THIS SEAT. 11 by the template 'for every input the law returns true; each argument reads behind the call as it read before'; 0 by the template 'total and deterministic' (their statements: YtieojkcnebphjaaTotals.lean).
  GIVEN WITH THE SEED: the statements are not yours to turn. If you find one false, say at which input.
  Laid BY PROGRAM, IN A SANDBOX (cutbox-rows.mjs): the forced cells as the released guide's own fill.sh prints them over the translation 7e59a4dd78c109d5… (all of the seat's roots in one cut). By AI agents, Wed Nov 11 2026. No macro, syntax, notation, axiom, sorry.
-/
import Derived.Test.YtieojkcnebphjaaChecked
import GoSem.Claim
import GoSem.ClaimJoined
import GoSem.ClaimMapViews
import Derived.JoinedTies
import Derived.KernelRfl
namespace Go.Proofs.Ytieojkcnebphjaa
/- THE CELL 'sum', in the pinned program and in every row, IS THE sha256 OF THE DUMP (.gsa) THAT YtieojkcnebphjaaProg.lean LOADS. Nothing in Lean hashes anything: it is a label: what it is worth is what the hold of that sum in a sandbox is worth. -/
noncomputable def Try.pinned : Pinned := { name := "ytieojkcnebphjaa", sum := "7e59a4dd78c109d5885945b3f729a9d5b71b92765d45948b89175a3563b13d6e", checked := Try.checked }
namespace Rows
def none {H : Type} : Left H := { results := [], args := [] }

/-- 'gangplanklaw01.OctetTells': WHATEVER THE INPUT: true; the input reads as it did. -/
def octetTellsSpec : ChangeSpec := { name := "octetTells", fn := fun _ => fun
  | [d1, d2, d3, d4] => { results := [.lit (.bool true)], args := [d1, d2, d3, d4] }
  | _ => none }
def octetTellsRow : OpenClaim := { program := "ytieojkcnebphjaa", sum := "7e59a4dd78c109d5885945b3f729a9d5b71b92765d45948b89175a3563b13d6e", func := "gangplank/gangplanklaw01.OctetTells", spec := "octetTells", unfollowed := true, recurses := true, apart := false }
def OctetTellsSaid : Prop := octetTellsRow.holds Try.pinned (OpenSpec.ofChange octetTellsSpec)

/-- ITS FALSE NEIGHBOUR: 'it returns false'. Refute it at one input. -/
def octetTellsWrong : ChangeSpec := { name := "octetTells", fn := fun _ => fun
  | [d1, d2, d3, d4] => { results := [.lit (.bool false)], args := [d1, d2, d3, d4] }
  | _ => none }
def OctetTellsWrongFalsely : Prop := octetTellsRow.holds Try.pinned (OpenSpec.ofChange octetTellsWrong)

/-- 'gangplanklaw01.OctetBack': WHATEVER THE INPUT: true; the input reads as it did. -/
def octetBackSpec : ChangeSpec := { name := "octetBack", fn := fun _ => fun
  | [d1, d2, d3, d4] => { results := [.lit (.bool true)], args := [d1, d2, d3, d4] }
  | _ => none }
def octetBackRow : OpenClaim := { program := "ytieojkcnebphjaa", sum := "7e59a4dd78c109d5885945b3f729a9d5b71b92765d45948b89175a3563b13d6e", func := "gangplank/gangplanklaw01.OctetBack", spec := "octetBack", unfollowed := true, recurses := true, apart := false }
def OctetBackSaid : Prop := octetBackRow.holds Try.pinned (OpenSpec.ofChange octetBackSpec)

/-- ITS FALSE NEIGHBOUR: 'it returns false'. Refute it at one input. -/
def octetBackWrong : ChangeSpec := { name := "octetBack", fn := fun _ => fun
  | [d1, d2, d3, d4] => { results := [.lit (.bool false)], args := [d1, d2, d3, d4] }
  | _ => none }
def OctetBackWrongFalsely : Prop := octetBackRow.holds Try.pinned (OpenSpec.ofChange octetBackWrong)

/-- 'gangplanklaw01.OctetOnly': WHATEVER THE INPUT: true; the input reads as it did. -/
def octetOnlySpec : ChangeSpec := { name := "octetOnly", fn := fun _ => fun
  | [d1, d2, d3] => { results := [.lit (.bool true)], args := [d1, d2, d3] }
  | _ => none }
def octetOnlyRow : OpenClaim := { program := "ytieojkcnebphjaa", sum := "7e59a4dd78c109d5885945b3f729a9d5b71b92765d45948b89175a3563b13d6e", func := "gangplank/gangplanklaw01.OctetOnly", spec := "octetOnly", unfollowed := true, recurses := true, apart := false }
def OctetOnlySaid : Prop := octetOnlyRow.holds Try.pinned (OpenSpec.ofChange octetOnlySpec)

/-- ITS FALSE NEIGHBOUR: 'it returns false'. Refute it at one input. -/
def octetOnlyWrong : ChangeSpec := { name := "octetOnly", fn := fun _ => fun
  | [d1, d2, d3] => { results := [.lit (.bool false)], args := [d1, d2, d3] }
  | _ => none }
def OctetOnlyWrongFalsely : Prop := octetOnlyRow.holds Try.pinned (OpenSpec.ofChange octetOnlyWrong)

/-- 'gangplanklaw01.OctetParts': WHATEVER THE INPUT: true; the input reads as it did. -/
def octetPartsSpec : ChangeSpec := { name := "octetParts", fn := fun _ => fun
  | [d1, d2, d3] => { results := [.lit (.bool true)], args := [d1, d2, d3] }
  | _ => none }
def octetPartsRow : OpenClaim := { program := "ytieojkcnebphjaa", sum := "7e59a4dd78c109d5885945b3f729a9d5b71b92765d45948b89175a3563b13d6e", func := "gangplank/gangplanklaw01.OctetParts", spec := "octetParts", unfollowed := true, recurses := true, apart := false }
def OctetPartsSaid : Prop := octetPartsRow.holds Try.pinned (OpenSpec.ofChange octetPartsSpec)

/-- ITS FALSE NEIGHBOUR: 'it returns false'. Refute it at one input. -/
def octetPartsWrong : ChangeSpec := { name := "octetParts", fn := fun _ => fun
  | [d1, d2, d3] => { results := [.lit (.bool false)], args := [d1, d2, d3] }
  | _ => none }
def OctetPartsWrongFalsely : Prop := octetPartsRow.holds Try.pinned (OpenSpec.ofChange octetPartsWrong)

/-- 'gangplanklaw01.OctetOrder': WHATEVER THE INPUT: true; the input reads as it did. -/
def octetOrderSpec : ChangeSpec := { name := "octetOrder", fn := fun _ => fun
  | [d1, d2] => { results := [.lit (.bool true)], args := [d1, d2] }
  | _ => none }
def octetOrderRow : OpenClaim := { program := "ytieojkcnebphjaa", sum := "7e59a4dd78c109d5885945b3f729a9d5b71b92765d45948b89175a3563b13d6e", func := "gangplank/gangplanklaw01.OctetOrder", spec := "octetOrder", unfollowed := true, recurses := true, apart := false }
def OctetOrderSaid : Prop := octetOrderRow.holds Try.pinned (OpenSpec.ofChange octetOrderSpec)

/-- ITS FALSE NEIGHBOUR: 'it returns false'. Refute it at one input. -/
def octetOrderWrong : ChangeSpec := { name := "octetOrder", fn := fun _ => fun
  | [d1, d2] => { results := [.lit (.bool false)], args := [d1, d2] }
  | _ => none }
def OctetOrderWrongFalsely : Prop := octetOrderRow.holds Try.pinned (OpenSpec.ofChange octetOrderWrong)

/-- 'gangplanklaw01.OctetWithin': WHATEVER THE INPUT: true; the input reads as it did. -/
def octetWithinSpec : ChangeSpec := { name := "octetWithin", fn := fun _ => fun
  | [d1, d2, d3] => { results := [.lit (.bool true)], args := [d1, d2, d3] }
  | _ => none }
def octetWithinRow : OpenClaim := { program := "ytieojkcnebphjaa", sum := "7e59a4dd78c109d5885945b3f729a9d5b71b92765d45948b89175a3563b13d6e", func := "gangplank/gangplanklaw01.OctetWithin", spec := "octetWithin", unfollowed := true, recurses := true, apart := false }
def OctetWithinSaid : Prop := octetWithinRow.holds Try.pinned (OpenSpec.ofChange octetWithinSpec)

/-- ITS FALSE NEIGHBOUR: 'it returns false'. Refute it at one input. -/
def octetWithinWrong : ChangeSpec := { name := "octetWithin", fn := fun _ => fun
  | [d1, d2, d3] => { results := [.lit (.bool false)], args := [d1, d2, d3] }
  | _ => none }
def OctetWithinWrongFalsely : Prop := octetWithinRow.holds Try.pinned (OpenSpec.ofChange octetWithinWrong)

/-- 'gangplanklaw03.SumTells': WHATEVER THE INPUT: true; the input reads as it did. -/
def sumTellsSpec : ChangeSpec := { name := "sumTells", fn := fun _ => fun
  | [d] => { results := [.lit (.bool true)], args := [d] }
  | _ => none }
def sumTellsRow : OpenClaim := { program := "ytieojkcnebphjaa", sum := "7e59a4dd78c109d5885945b3f729a9d5b71b92765d45948b89175a3563b13d6e", func := "gangplank/gangplanklaw03.SumTells", spec := "sumTells", unfollowed := true, recurses := true, apart := false }
def SumTellsSaid : Prop := sumTellsRow.holds Try.pinned (OpenSpec.ofChange sumTellsSpec)

/-- ITS FALSE NEIGHBOUR: 'it returns false'. Refute it at one input. -/
def sumTellsWrong : ChangeSpec := { name := "sumTells", fn := fun _ => fun
  | [d] => { results := [.lit (.bool false)], args := [d] }
  | _ => none }
def SumTellsWrongFalsely : Prop := sumTellsRow.holds Try.pinned (OpenSpec.ofChange sumTellsWrong)

/-- 'gangplanklaw03.SumSwaps': WHATEVER THE INPUT: true; the input reads as it did. -/
def sumSwapsSpec : ChangeSpec := { name := "sumSwaps", fn := fun _ => fun
  | [d1, d2, d3] => { results := [.lit (.bool true)], args := [d1, d2, d3] }
  | _ => none }
def sumSwapsRow : OpenClaim := { program := "ytieojkcnebphjaa", sum := "7e59a4dd78c109d5885945b3f729a9d5b71b92765d45948b89175a3563b13d6e", func := "gangplank/gangplanklaw03.SumSwaps", spec := "sumSwaps", unfollowed := true, recurses := true, apart := false }
def SumSwapsSaid : Prop := sumSwapsRow.holds Try.pinned (OpenSpec.ofChange sumSwapsSpec)

/-- ITS FALSE NEIGHBOUR: 'it returns false'. Refute it at one input. -/
def sumSwapsWrong : ChangeSpec := { name := "sumSwaps", fn := fun _ => fun
  | [d1, d2, d3] => { results := [.lit (.bool false)], args := [d1, d2, d3] }
  | _ => none }
def SumSwapsWrongFalsely : Prop := sumSwapsRow.holds Try.pinned (OpenSpec.ofChange sumSwapsWrong)

/-- 'gangplanklaw03.SumBounds': WHATEVER THE INPUT: true; the input reads as it did. -/
def sumBoundsSpec : ChangeSpec := { name := "sumBounds", fn := fun _ => fun
  | [d1, d2] => { results := [.lit (.bool true)], args := [d1, d2] }
  | _ => none }
def sumBoundsRow : OpenClaim := { program := "ytieojkcnebphjaa", sum := "7e59a4dd78c109d5885945b3f729a9d5b71b92765d45948b89175a3563b13d6e", func := "gangplank/gangplanklaw03.SumBounds", spec := "sumBounds", unfollowed := true, recurses := true, apart := false }
def SumBoundsSaid : Prop := sumBoundsRow.holds Try.pinned (OpenSpec.ofChange sumBoundsSpec)

/-- ITS FALSE NEIGHBOUR: 'it returns false'. Refute it at one input. -/
def sumBoundsWrong : ChangeSpec := { name := "sumBounds", fn := fun _ => fun
  | [d1, d2] => { results := [.lit (.bool false)], args := [d1, d2] }
  | _ => none }
def SumBoundsWrongFalsely : Prop := sumBoundsRow.holds Try.pinned (OpenSpec.ofChange sumBoundsWrong)

/-- 'gangplanklaw03.SumOwn': WHATEVER THE INPUT: true; the input reads as it did. -/
def sumOwnSpec : ChangeSpec := { name := "sumOwn", fn := fun _ => fun
  | [d1, d2] => { results := [.lit (.bool true)], args := [d1, d2] }
  | _ => none }
def sumOwnRow : OpenClaim := { program := "ytieojkcnebphjaa", sum := "7e59a4dd78c109d5885945b3f729a9d5b71b92765d45948b89175a3563b13d6e", func := "gangplank/gangplanklaw03.SumOwn", spec := "sumOwn", unfollowed := true, recurses := true, apart := false }
def SumOwnSaid : Prop := sumOwnRow.holds Try.pinned (OpenSpec.ofChange sumOwnSpec)

/-- ITS FALSE NEIGHBOUR: 'it returns false'. Refute it at one input. -/
def sumOwnWrong : ChangeSpec := { name := "sumOwn", fn := fun _ => fun
  | [d1, d2] => { results := [.lit (.bool false)], args := [d1, d2] }
  | _ => none }
def SumOwnWrongFalsely : Prop := sumOwnRow.holds Try.pinned (OpenSpec.ofChange sumOwnWrong)

/-- 'gangplanklaw03.SumWord': WHATEVER THE INPUT: true; the input reads as it did. -/
def sumWordSpec : ChangeSpec := { name := "sumWord", fn := fun _ => fun
  | [d1, d2, d3, d4] => { results := [.lit (.bool true)], args := [d1, d2, d3, d4] }
  | _ => none }
def sumWordRow : OpenClaim := { program := "ytieojkcnebphjaa", sum := "7e59a4dd78c109d5885945b3f729a9d5b71b92765d45948b89175a3563b13d6e", func := "gangplank/gangplanklaw03.SumWord", spec := "sumWord", unfollowed := true, recurses := true, apart := false }
def SumWordSaid : Prop := sumWordRow.holds Try.pinned (OpenSpec.ofChange sumWordSpec)

/-- ITS FALSE NEIGHBOUR: 'it returns false'. Refute it at one input. -/
def sumWordWrong : ChangeSpec := { name := "sumWord", fn := fun _ => fun
  | [d1, d2, d3, d4] => { results := [.lit (.bool false)], args := [d1, d2, d3, d4] }
  | _ => none }
def SumWordWrongFalsely : Prop := sumWordRow.holds Try.pinned (OpenSpec.ofChange sumWordWrong)

/- THE SECOND FORM. 'bulk': how many values and letters a reading holds, each counted each time it is reached (what is shared counts as often as it is met; a slice's spare places count too). A statement '..UptoSaid' is the law's where the arguments, and the package variables that the reading takes, are together of bulk at most 1048576: NARROWER than '..Said'. Prove '..Said' where nothing that the law and all that it calls make is longer than what came in: it says more and counts as full. Else prove '..UptoSaid'. A law counts once. -/
mutual
def uptoBulk {H : Type} : DataW H → Nat
  | .lit (.string bytes) => bytes.length + 1
  | .lit _ => 1
  | .nil => 1
  | .ptr d => uptoBulk d + 1
  | .slice elems spare => uptoBulkAll elems + uptoBulkAll spare + 1
  | .agg parts => uptoBulkAll parts + 1
  | .iface _ d => uptoBulk d + 1
  | .map entries => uptoBulkEntries entries + 1
  | .held _ => 1
def uptoBulkAll {H : Type} : List (DataW H) → Nat
  | [] => 0
  | d :: r => uptoBulk d + uptoBulkAll r
def uptoBulkEntries {H : Type} : List (Lit × DataW H) → Nat
  | [] => 0
  | x :: r => uptoBulkEntry x + uptoBulkEntries r
def uptoBulkEntry {H : Type} : Lit × DataW H → Nat
  | (.string bytes, d) => bytes.length + uptoBulk d + 1
  | (_, d) => uptoBulk d + 1
 end
def uptoSmall : (H : Type) → List (DataW H) → Bool := fun _ ds => decide (uptoBulkAll ds ≤ 1048576)
def OpenSpec.upto (s : _root_.Go.ChangeSpec) : _root_.Go.OpenSpec := { _root_.Go.OpenSpec.ofChange s with cond := some uptoSmall }

/-- 'gangplanklaw01.OctetTells', WHERE WHAT IT READS IS OF BULK AT MOST 1048576: true; the input reads as it did. -/
def octetTellsUptoRow : OpenClaim := { program := "ytieojkcnebphjaa", sum := "7e59a4dd78c109d5885945b3f729a9d5b71b92765d45948b89175a3563b13d6e", func := "gangplank/gangplanklaw01.OctetTells", spec := "octetTells", unfollowed := true, recurses := true, apart := false, narrowed := true }
def OctetTellsUptoSaid : Prop := octetTellsUptoRow.holds Try.pinned (OpenSpec.upto octetTellsSpec)

/-- 'gangplanklaw01.OctetBack', WHERE WHAT IT READS IS OF BULK AT MOST 1048576: true; the input reads as it did. -/
def octetBackUptoRow : OpenClaim := { program := "ytieojkcnebphjaa", sum := "7e59a4dd78c109d5885945b3f729a9d5b71b92765d45948b89175a3563b13d6e", func := "gangplank/gangplanklaw01.OctetBack", spec := "octetBack", unfollowed := true, recurses := true, apart := false, narrowed := true }
def OctetBackUptoSaid : Prop := octetBackUptoRow.holds Try.pinned (OpenSpec.upto octetBackSpec)

/-- 'gangplanklaw01.OctetOnly', WHERE WHAT IT READS IS OF BULK AT MOST 1048576: true; the input reads as it did. -/
def octetOnlyUptoRow : OpenClaim := { program := "ytieojkcnebphjaa", sum := "7e59a4dd78c109d5885945b3f729a9d5b71b92765d45948b89175a3563b13d6e", func := "gangplank/gangplanklaw01.OctetOnly", spec := "octetOnly", unfollowed := true, recurses := true, apart := false, narrowed := true }
def OctetOnlyUptoSaid : Prop := octetOnlyUptoRow.holds Try.pinned (OpenSpec.upto octetOnlySpec)

/-- 'gangplanklaw01.OctetParts', WHERE WHAT IT READS IS OF BULK AT MOST 1048576: true; the input reads as it did. -/
def octetPartsUptoRow : OpenClaim := { program := "ytieojkcnebphjaa", sum := "7e59a4dd78c109d5885945b3f729a9d5b71b92765d45948b89175a3563b13d6e", func := "gangplank/gangplanklaw01.OctetParts", spec := "octetParts", unfollowed := true, recurses := true, apart := false, narrowed := true }
def OctetPartsUptoSaid : Prop := octetPartsUptoRow.holds Try.pinned (OpenSpec.upto octetPartsSpec)

/-- 'gangplanklaw01.OctetOrder', WHERE WHAT IT READS IS OF BULK AT MOST 1048576: true; the input reads as it did. -/
def octetOrderUptoRow : OpenClaim := { program := "ytieojkcnebphjaa", sum := "7e59a4dd78c109d5885945b3f729a9d5b71b92765d45948b89175a3563b13d6e", func := "gangplank/gangplanklaw01.OctetOrder", spec := "octetOrder", unfollowed := true, recurses := true, apart := false, narrowed := true }
def OctetOrderUptoSaid : Prop := octetOrderUptoRow.holds Try.pinned (OpenSpec.upto octetOrderSpec)

/-- 'gangplanklaw01.OctetWithin', WHERE WHAT IT READS IS OF BULK AT MOST 1048576: true; the input reads as it did. -/
def octetWithinUptoRow : OpenClaim := { program := "ytieojkcnebphjaa", sum := "7e59a4dd78c109d5885945b3f729a9d5b71b92765d45948b89175a3563b13d6e", func := "gangplank/gangplanklaw01.OctetWithin", spec := "octetWithin", unfollowed := true, recurses := true, apart := false, narrowed := true }
def OctetWithinUptoSaid : Prop := octetWithinUptoRow.holds Try.pinned (OpenSpec.upto octetWithinSpec)

/-- 'gangplanklaw03.SumTells', WHERE WHAT IT READS IS OF BULK AT MOST 1048576: true; the input reads as it did. -/
def sumTellsUptoRow : OpenClaim := { program := "ytieojkcnebphjaa", sum := "7e59a4dd78c109d5885945b3f729a9d5b71b92765d45948b89175a3563b13d6e", func := "gangplank/gangplanklaw03.SumTells", spec := "sumTells", unfollowed := true, recurses := true, apart := false, narrowed := true }
def SumTellsUptoSaid : Prop := sumTellsUptoRow.holds Try.pinned (OpenSpec.upto sumTellsSpec)

/-- 'gangplanklaw03.SumSwaps', WHERE WHAT IT READS IS OF BULK AT MOST 1048576: true; the input reads as it did. -/
def sumSwapsUptoRow : OpenClaim := { program := "ytieojkcnebphjaa", sum := "7e59a4dd78c109d5885945b3f729a9d5b71b92765d45948b89175a3563b13d6e", func := "gangplank/gangplanklaw03.SumSwaps", spec := "sumSwaps", unfollowed := true, recurses := true, apart := false, narrowed := true }
def SumSwapsUptoSaid : Prop := sumSwapsUptoRow.holds Try.pinned (OpenSpec.upto sumSwapsSpec)

/-- 'gangplanklaw03.SumBounds', WHERE WHAT IT READS IS OF BULK AT MOST 1048576: true; the input reads as it did. -/
def sumBoundsUptoRow : OpenClaim := { program := "ytieojkcnebphjaa", sum := "7e59a4dd78c109d5885945b3f729a9d5b71b92765d45948b89175a3563b13d6e", func := "gangplank/gangplanklaw03.SumBounds", spec := "sumBounds", unfollowed := true, recurses := true, apart := false, narrowed := true }
def SumBoundsUptoSaid : Prop := sumBoundsUptoRow.holds Try.pinned (OpenSpec.upto sumBoundsSpec)

/-- 'gangplanklaw03.SumOwn', WHERE WHAT IT READS IS OF BULK AT MOST 1048576: true; the input reads as it did. -/
def sumOwnUptoRow : OpenClaim := { program := "ytieojkcnebphjaa", sum := "7e59a4dd78c109d5885945b3f729a9d5b71b92765d45948b89175a3563b13d6e", func := "gangplank/gangplanklaw03.SumOwn", spec := "sumOwn", unfollowed := true, recurses := true, apart := false, narrowed := true }
def SumOwnUptoSaid : Prop := sumOwnUptoRow.holds Try.pinned (OpenSpec.upto sumOwnSpec)

/-- 'gangplanklaw03.SumWord', WHERE WHAT IT READS IS OF BULK AT MOST 1048576: true; the input reads as it did. -/
def sumWordUptoRow : OpenClaim := { program := "ytieojkcnebphjaa", sum := "7e59a4dd78c109d5885945b3f729a9d5b71b92765d45948b89175a3563b13d6e", func := "gangplank/gangplanklaw03.SumWord", spec := "sumWord", unfollowed := true, recurses := true, apart := false, narrowed := true }
def SumWordUptoSaid : Prop := sumWordUptoRow.holds Try.pinned (OpenSpec.upto sumWordSpec)

end Rows
end Go.Proofs.Ytieojkcnebphjaa
