/-
  No cell of these rows narrows 'for every input' (looked for: loops, veiled, ifaces, maps, wideKeys, modest, calm, conditions, laid).
  DERIVED. THE GIVEN ROWS OF THIS SEAT. 10 by the template 'for every input the law returns true; each argument reads behind the call as it read before'; 0 by the template 'total and deterministic' (their statements: YtoekipjnjlbjgaaTotals.lean).
  GIVEN WITH THE SEED: the statements are not yours to turn. If you find one false, say at which input.
  Laid BY PROGRAM, IN A SANDBOX (cutbox-rows.mjs): the forced cells as the released guide's own fill.sh prints them over the translation 6a237ca69d6e01bd… (all of the seat's roots in one cut). By AI agents, Wed Nov 11 2026. No macro, syntax, notation, axiom, sorry.
-/
import Derived.Test.YtoekipjnjlbjgaaChecked
import GoSem.Claim
import GoSem.ClaimJoined
import GoSem.ClaimMapViews
import Derived.JoinedTies
import Derived.KernelRfl
namespace Go.Proofs.Ytoekipjnjlbjgaa
/- THE CELL 'sum', in the pinned program and in every row, IS THE sha256 OF THE DUMP (.gsa) THAT YtoekipjnjlbjgaaProg.lean LOADS. Nothing in Lean hashes anything: it is a label: what it is worth is what the hold of that sum in a sandbox is worth. -/
noncomputable def Try.pinned : Pinned := { name := "ytoekipjnjlbjgaa", sum := "6a237ca69d6e01bd6b396a83b3b0b480a4b2ba81c5dcab8156e569efee196629", checked := Try.checked }
namespace Rows
def none {H : Type} : Left H := { results := [], args := [] }

/-- 'gangplanklaw05.Ip6Parses': WHATEVER THE INPUT: true; the input reads as it did. -/
def ip6ParsesSpec : ChangeSpec := { name := "ip6Parses", fn := fun _ => fun
  | [d] => { results := [.lit (.bool true)], args := [d] }
  | _ => none }
def ip6ParsesRow : OpenClaim := { program := "ytoekipjnjlbjgaa", sum := "6a237ca69d6e01bd6b396a83b3b0b480a4b2ba81c5dcab8156e569efee196629", func := "gangplank/gangplanklaw05.Ip6Parses", spec := "ip6Parses", inPlace := ["internal/abi.NoEscape"], unfollowed := true, recurses := true, apart := false }
def Ip6ParsesSaid : Prop := ip6ParsesRow.holds Try.pinned (OpenSpec.ofChange ip6ParsesSpec)

/-- ITS FALSE NEIGHBOUR: 'it returns false'. Refute it at one input. -/
def ip6ParsesWrong : ChangeSpec := { name := "ip6Parses", fn := fun _ => fun
  | [d] => { results := [.lit (.bool false)], args := [d] }
  | _ => none }
def Ip6ParsesWrongFalsely : Prop := ip6ParsesRow.holds Try.pinned (OpenSpec.ofChange ip6ParsesWrong)

/-- 'gangplanklaw05.Ip6Puts': WHATEVER THE INPUT: true; the input reads as it did. -/
def ip6PutsSpec : ChangeSpec := { name := "ip6Puts", fn := fun _ => fun
  | [d1, d2, d3, d4] => { results := [.lit (.bool true)], args := [d1, d2, d3, d4] }
  | _ => none }
def ip6PutsRow : OpenClaim := { program := "ytoekipjnjlbjgaa", sum := "6a237ca69d6e01bd6b396a83b3b0b480a4b2ba81c5dcab8156e569efee196629", func := "gangplank/gangplanklaw05.Ip6Puts", spec := "ip6Puts", inPlace := ["internal/abi.NoEscape"], unfollowed := true, recurses := true, apart := false }
def Ip6PutsSaid : Prop := ip6PutsRow.holds Try.pinned (OpenSpec.ofChange ip6PutsSpec)

/-- ITS FALSE NEIGHBOUR: 'it returns false'. Refute it at one input. -/
def ip6PutsWrong : ChangeSpec := { name := "ip6Puts", fn := fun _ => fun
  | [d1, d2, d3, d4] => { results := [.lit (.bool false)], args := [d1, d2, d3, d4] }
  | _ => none }
def Ip6PutsWrongFalsely : Prop := ip6PutsRow.holds Try.pinned (OpenSpec.ofChange ip6PutsWrong)

/-- 'gangplanklaw05.Ip6Back': WHATEVER THE INPUT: true; the input reads as it did. -/
def ip6BackSpec : ChangeSpec := { name := "ip6Back", fn := fun _ => fun
  | [d1, d2, d3, d4, d5] => { results := [.lit (.bool true)], args := [d1, d2, d3, d4, d5] }
  | _ => none }
def ip6BackRow : OpenClaim := { program := "ytoekipjnjlbjgaa", sum := "6a237ca69d6e01bd6b396a83b3b0b480a4b2ba81c5dcab8156e569efee196629", func := "gangplank/gangplanklaw05.Ip6Back", spec := "ip6Back", inPlace := ["internal/abi.NoEscape"], unfollowed := true, recurses := true, apart := false }
def Ip6BackSaid : Prop := ip6BackRow.holds Try.pinned (OpenSpec.ofChange ip6BackSpec)

/-- ITS FALSE NEIGHBOUR: 'it returns false'. Refute it at one input. -/
def ip6BackWrong : ChangeSpec := { name := "ip6Back", fn := fun _ => fun
  | [d1, d2, d3, d4, d5] => { results := [.lit (.bool false)], args := [d1, d2, d3, d4, d5] }
  | _ => none }
def Ip6BackWrongFalsely : Prop := ip6BackRow.holds Try.pinned (OpenSpec.ofChange ip6BackWrong)

/-- 'gangplanklaw05.Ip6Held': WHATEVER THE INPUT: true; the input reads as it did. -/
def ip6HeldSpec : ChangeSpec := { name := "ip6Held", fn := fun _ => fun
  | [d1, d2] => { results := [.lit (.bool true)], args := [d1, d2] }
  | _ => none }
def ip6HeldRow : OpenClaim := { program := "ytoekipjnjlbjgaa", sum := "6a237ca69d6e01bd6b396a83b3b0b480a4b2ba81c5dcab8156e569efee196629", func := "gangplank/gangplanklaw05.Ip6Held", spec := "ip6Held", inPlace := ["internal/abi.NoEscape"], unfollowed := true, recurses := true, apart := false }
def Ip6HeldSaid : Prop := ip6HeldRow.holds Try.pinned (OpenSpec.ofChange ip6HeldSpec)

/-- ITS FALSE NEIGHBOUR: 'it returns false'. Refute it at one input. -/
def ip6HeldWrong : ChangeSpec := { name := "ip6Held", fn := fun _ => fun
  | [d1, d2] => { results := [.lit (.bool false)], args := [d1, d2] }
  | _ => none }
def Ip6HeldWrongFalsely : Prop := ip6HeldRow.holds Try.pinned (OpenSpec.ofChange ip6HeldWrong)

/-- 'gangplanklaw05.Ip6Cut': WHATEVER THE INPUT: true; the input reads as it did. -/
def ip6CutSpec : ChangeSpec := { name := "ip6Cut", fn := fun _ => fun
  | [d1, d2, d3, d4, d5] => { results := [.lit (.bool true)], args := [d1, d2, d3, d4, d5] }
  | _ => none }
def ip6CutRow : OpenClaim := { program := "ytoekipjnjlbjgaa", sum := "6a237ca69d6e01bd6b396a83b3b0b480a4b2ba81c5dcab8156e569efee196629", func := "gangplank/gangplanklaw05.Ip6Cut", spec := "ip6Cut", inPlace := ["internal/abi.NoEscape"], unfollowed := true, recurses := true, apart := false }
def Ip6CutSaid : Prop := ip6CutRow.holds Try.pinned (OpenSpec.ofChange ip6CutSpec)

/-- ITS FALSE NEIGHBOUR: 'it returns false'. Refute it at one input. -/
def ip6CutWrong : ChangeSpec := { name := "ip6Cut", fn := fun _ => fun
  | [d1, d2, d3, d4, d5] => { results := [.lit (.bool false)], args := [d1, d2, d3, d4, d5] }
  | _ => none }
def Ip6CutWrongFalsely : Prop := ip6CutRow.holds Try.pinned (OpenSpec.ofChange ip6CutWrong)

/-- 'gangplanklaw04.Ip4Parses': WHATEVER THE INPUT: true; the input reads as it did. -/
def ip4ParsesSpec : ChangeSpec := { name := "ip4Parses", fn := fun _ => fun
  | [d] => { results := [.lit (.bool true)], args := [d] }
  | _ => none }
def ip4ParsesRow : OpenClaim := { program := "ytoekipjnjlbjgaa", sum := "6a237ca69d6e01bd6b396a83b3b0b480a4b2ba81c5dcab8156e569efee196629", func := "gangplank/gangplanklaw04.Ip4Parses", spec := "ip4Parses", unfollowed := true, recurses := true, apart := false }
def Ip4ParsesSaid : Prop := ip4ParsesRow.holds Try.pinned (OpenSpec.ofChange ip4ParsesSpec)

/-- ITS FALSE NEIGHBOUR: 'it returns false'. Refute it at one input. -/
def ip4ParsesWrong : ChangeSpec := { name := "ip4Parses", fn := fun _ => fun
  | [d] => { results := [.lit (.bool false)], args := [d] }
  | _ => none }
def Ip4ParsesWrongFalsely : Prop := ip4ParsesRow.holds Try.pinned (OpenSpec.ofChange ip4ParsesWrong)

/-- 'gangplanklaw04.Ip4Puts': WHATEVER THE INPUT: true; the input reads as it did. -/
def ip4PutsSpec : ChangeSpec := { name := "ip4Puts", fn := fun _ => fun
  | [d1, d2, d3, d4] => { results := [.lit (.bool true)], args := [d1, d2, d3, d4] }
  | _ => none }
def ip4PutsRow : OpenClaim := { program := "ytoekipjnjlbjgaa", sum := "6a237ca69d6e01bd6b396a83b3b0b480a4b2ba81c5dcab8156e569efee196629", func := "gangplank/gangplanklaw04.Ip4Puts", spec := "ip4Puts", unfollowed := true, recurses := true, apart := false }
def Ip4PutsSaid : Prop := ip4PutsRow.holds Try.pinned (OpenSpec.ofChange ip4PutsSpec)

/-- ITS FALSE NEIGHBOUR: 'it returns false'. Refute it at one input. -/
def ip4PutsWrong : ChangeSpec := { name := "ip4Puts", fn := fun _ => fun
  | [d1, d2, d3, d4] => { results := [.lit (.bool false)], args := [d1, d2, d3, d4] }
  | _ => none }
def Ip4PutsWrongFalsely : Prop := ip4PutsRow.holds Try.pinned (OpenSpec.ofChange ip4PutsWrong)

/-- 'gangplanklaw04.Ip4Back': WHATEVER THE INPUT: true; the input reads as it did. -/
def ip4BackSpec : ChangeSpec := { name := "ip4Back", fn := fun _ => fun
  | [d1, d2, d3, d4, d5] => { results := [.lit (.bool true)], args := [d1, d2, d3, d4, d5] }
  | _ => none }
def ip4BackRow : OpenClaim := { program := "ytoekipjnjlbjgaa", sum := "6a237ca69d6e01bd6b396a83b3b0b480a4b2ba81c5dcab8156e569efee196629", func := "gangplank/gangplanklaw04.Ip4Back", spec := "ip4Back", unfollowed := true, recurses := true, apart := false }
def Ip4BackSaid : Prop := ip4BackRow.holds Try.pinned (OpenSpec.ofChange ip4BackSpec)

/-- ITS FALSE NEIGHBOUR: 'it returns false'. Refute it at one input. -/
def ip4BackWrong : ChangeSpec := { name := "ip4Back", fn := fun _ => fun
  | [d1, d2, d3, d4, d5] => { results := [.lit (.bool false)], args := [d1, d2, d3, d4, d5] }
  | _ => none }
def Ip4BackWrongFalsely : Prop := ip4BackRow.holds Try.pinned (OpenSpec.ofChange ip4BackWrong)

/-- 'gangplanklaw04.Ip4Held': WHATEVER THE INPUT: true; the input reads as it did. -/
def ip4HeldSpec : ChangeSpec := { name := "ip4Held", fn := fun _ => fun
  | [d1, d2] => { results := [.lit (.bool true)], args := [d1, d2] }
  | _ => none }
def ip4HeldRow : OpenClaim := { program := "ytoekipjnjlbjgaa", sum := "6a237ca69d6e01bd6b396a83b3b0b480a4b2ba81c5dcab8156e569efee196629", func := "gangplank/gangplanklaw04.Ip4Held", spec := "ip4Held", unfollowed := true, recurses := true, apart := false }
def Ip4HeldSaid : Prop := ip4HeldRow.holds Try.pinned (OpenSpec.ofChange ip4HeldSpec)

/-- ITS FALSE NEIGHBOUR: 'it returns false'. Refute it at one input. -/
def ip4HeldWrong : ChangeSpec := { name := "ip4Held", fn := fun _ => fun
  | [d1, d2] => { results := [.lit (.bool false)], args := [d1, d2] }
  | _ => none }
def Ip4HeldWrongFalsely : Prop := ip4HeldRow.holds Try.pinned (OpenSpec.ofChange ip4HeldWrong)

/-- 'gangplanklaw04.Ip4Cut': WHATEVER THE INPUT: true; the input reads as it did. -/
def ip4CutSpec : ChangeSpec := { name := "ip4Cut", fn := fun _ => fun
  | [d1, d2, d3, d4, d5] => { results := [.lit (.bool true)], args := [d1, d2, d3, d4, d5] }
  | _ => none }
def ip4CutRow : OpenClaim := { program := "ytoekipjnjlbjgaa", sum := "6a237ca69d6e01bd6b396a83b3b0b480a4b2ba81c5dcab8156e569efee196629", func := "gangplank/gangplanklaw04.Ip4Cut", spec := "ip4Cut", unfollowed := true, recurses := true, apart := false }
def Ip4CutSaid : Prop := ip4CutRow.holds Try.pinned (OpenSpec.ofChange ip4CutSpec)

/-- ITS FALSE NEIGHBOUR: 'it returns false'. Refute it at one input. -/
def ip4CutWrong : ChangeSpec := { name := "ip4Cut", fn := fun _ => fun
  | [d1, d2, d3, d4, d5] => { results := [.lit (.bool false)], args := [d1, d2, d3, d4, d5] }
  | _ => none }
def Ip4CutWrongFalsely : Prop := ip4CutRow.holds Try.pinned (OpenSpec.ofChange ip4CutWrong)

/- THE SECOND FORM. 'bulk': how many values and letters a reading holds, each counted each time it is reached (what is shared counts as often as it is met; a slice's spare places count too). A statement '..UptoSaid' is the law's where the arguments, and the package variables that the reading takes, are together of bulk at most 1048576: NARROWER than '..Said'. Prove '..Said' where nothing that the law and all that it calls make is longer than what came in: it says more and counts as full. Else prove '..UptoSaid'. A law counts once. -/
mutual
def uptoBulk {H : Type} : DataW H → Nat
  | .lit (.string bytes) => bytes.length + 1
  | .lit _ => 1
  | .nil => 1
  | .ptr d => uptoBulk d + 1
  | .slice elems spare => uptoBulkAll elems + uptoBulkAll spare + 1
  | .agg parts => uptoBulkAll parts + 1
  | .iface _ d => uptoBulk d + 1
  | .map entries => uptoBulkEntries entries + 1
  | .held _ => 1
def uptoBulkAll {H : Type} : List (DataW H) → Nat
  | [] => 0
  | d :: r => uptoBulk d + uptoBulkAll r
def uptoBulkEntries {H : Type} : List (Lit × DataW H) → Nat
  | [] => 0
  | x :: r => uptoBulkEntry x + uptoBulkEntries r
def uptoBulkEntry {H : Type} : Lit × DataW H → Nat
  | (.string bytes, d) => bytes.length + uptoBulk d + 1
  | (_, d) => uptoBulk d + 1
 end
def uptoSmall : (H : Type) → List (DataW H) → Bool := fun _ ds => decide (uptoBulkAll ds ≤ 1048576)
def OpenSpec.upto (s : _root_.Go.ChangeSpec) : _root_.Go.OpenSpec := { _root_.Go.OpenSpec.ofChange s with cond := some uptoSmall }

/-- 'gangplanklaw05.Ip6Parses', WHERE WHAT IT READS IS OF BULK AT MOST 1048576: true; the input reads as it did. -/
def ip6ParsesUptoRow : OpenClaim := { program := "ytoekipjnjlbjgaa", sum := "6a237ca69d6e01bd6b396a83b3b0b480a4b2ba81c5dcab8156e569efee196629", func := "gangplank/gangplanklaw05.Ip6Parses", spec := "ip6Parses", inPlace := ["internal/abi.NoEscape"], unfollowed := true, recurses := true, apart := false, narrowed := true }
def Ip6ParsesUptoSaid : Prop := ip6ParsesUptoRow.holds Try.pinned (OpenSpec.upto ip6ParsesSpec)

/-- 'gangplanklaw05.Ip6Puts', WHERE WHAT IT READS IS OF BULK AT MOST 1048576: true; the input reads as it did. -/
def ip6PutsUptoRow : OpenClaim := { program := "ytoekipjnjlbjgaa", sum := "6a237ca69d6e01bd6b396a83b3b0b480a4b2ba81c5dcab8156e569efee196629", func := "gangplank/gangplanklaw05.Ip6Puts", spec := "ip6Puts", inPlace := ["internal/abi.NoEscape"], unfollowed := true, recurses := true, apart := false, narrowed := true }
def Ip6PutsUptoSaid : Prop := ip6PutsUptoRow.holds Try.pinned (OpenSpec.upto ip6PutsSpec)

/-- 'gangplanklaw05.Ip6Back', WHERE WHAT IT READS IS OF BULK AT MOST 1048576: true; the input reads as it did. -/
def ip6BackUptoRow : OpenClaim := { program := "ytoekipjnjlbjgaa", sum := "6a237ca69d6e01bd6b396a83b3b0b480a4b2ba81c5dcab8156e569efee196629", func := "gangplank/gangplanklaw05.Ip6Back", spec := "ip6Back", inPlace := ["internal/abi.NoEscape"], unfollowed := true, recurses := true, apart := false, narrowed := true }
def Ip6BackUptoSaid : Prop := ip6BackUptoRow.holds Try.pinned (OpenSpec.upto ip6BackSpec)

/-- 'gangplanklaw05.Ip6Held', WHERE WHAT IT READS IS OF BULK AT MOST 1048576: true; the input reads as it did. -/
def ip6HeldUptoRow : OpenClaim := { program := "ytoekipjnjlbjgaa", sum := "6a237ca69d6e01bd6b396a83b3b0b480a4b2ba81c5dcab8156e569efee196629", func := "gangplank/gangplanklaw05.Ip6Held", spec := "ip6Held", inPlace := ["internal/abi.NoEscape"], unfollowed := true, recurses := true, apart := false, narrowed := true }
def Ip6HeldUptoSaid : Prop := ip6HeldUptoRow.holds Try.pinned (OpenSpec.upto ip6HeldSpec)

/-- 'gangplanklaw05.Ip6Cut', WHERE WHAT IT READS IS OF BULK AT MOST 1048576: true; the input reads as it did. -/
def ip6CutUptoRow : OpenClaim := { program := "ytoekipjnjlbjgaa", sum := "6a237ca69d6e01bd6b396a83b3b0b480a4b2ba81c5dcab8156e569efee196629", func := "gangplank/gangplanklaw05.Ip6Cut", spec := "ip6Cut", inPlace := ["internal/abi.NoEscape"], unfollowed := true, recurses := true, apart := false, narrowed := true }
def Ip6CutUptoSaid : Prop := ip6CutUptoRow.holds Try.pinned (OpenSpec.upto ip6CutSpec)

/-- 'gangplanklaw04.Ip4Parses', WHERE WHAT IT READS IS OF BULK AT MOST 1048576: true; the input reads as it did. -/
def ip4ParsesUptoRow : OpenClaim := { program := "ytoekipjnjlbjgaa", sum := "6a237ca69d6e01bd6b396a83b3b0b480a4b2ba81c5dcab8156e569efee196629", func := "gangplank/gangplanklaw04.Ip4Parses", spec := "ip4Parses", unfollowed := true, recurses := true, apart := false, narrowed := true }
def Ip4ParsesUptoSaid : Prop := ip4ParsesUptoRow.holds Try.pinned (OpenSpec.upto ip4ParsesSpec)

/-- 'gangplanklaw04.Ip4Puts', WHERE WHAT IT READS IS OF BULK AT MOST 1048576: true; the input reads as it did. -/
def ip4PutsUptoRow : OpenClaim := { program := "ytoekipjnjlbjgaa", sum := "6a237ca69d6e01bd6b396a83b3b0b480a4b2ba81c5dcab8156e569efee196629", func := "gangplank/gangplanklaw04.Ip4Puts", spec := "ip4Puts", unfollowed := true, recurses := true, apart := false, narrowed := true }
def Ip4PutsUptoSaid : Prop := ip4PutsUptoRow.holds Try.pinned (OpenSpec.upto ip4PutsSpec)

/-- 'gangplanklaw04.Ip4Back', WHERE WHAT IT READS IS OF BULK AT MOST 1048576: true; the input reads as it did. -/
def ip4BackUptoRow : OpenClaim := { program := "ytoekipjnjlbjgaa", sum := "6a237ca69d6e01bd6b396a83b3b0b480a4b2ba81c5dcab8156e569efee196629", func := "gangplank/gangplanklaw04.Ip4Back", spec := "ip4Back", unfollowed := true, recurses := true, apart := false, narrowed := true }
def Ip4BackUptoSaid : Prop := ip4BackUptoRow.holds Try.pinned (OpenSpec.upto ip4BackSpec)

/-- 'gangplanklaw04.Ip4Held', WHERE WHAT IT READS IS OF BULK AT MOST 1048576: true; the input reads as it did. -/
def ip4HeldUptoRow : OpenClaim := { program := "ytoekipjnjlbjgaa", sum := "6a237ca69d6e01bd6b396a83b3b0b480a4b2ba81c5dcab8156e569efee196629", func := "gangplank/gangplanklaw04.Ip4Held", spec := "ip4Held", unfollowed := true, recurses := true, apart := false, narrowed := true }
def Ip4HeldUptoSaid : Prop := ip4HeldUptoRow.holds Try.pinned (OpenSpec.upto ip4HeldSpec)

/-- 'gangplanklaw04.Ip4Cut', WHERE WHAT IT READS IS OF BULK AT MOST 1048576: true; the input reads as it did. -/
def ip4CutUptoRow : OpenClaim := { program := "ytoekipjnjlbjgaa", sum := "6a237ca69d6e01bd6b396a83b3b0b480a4b2ba81c5dcab8156e569efee196629", func := "gangplank/gangplanklaw04.Ip4Cut", spec := "ip4Cut", unfollowed := true, recurses := true, apart := false, narrowed := true }
def Ip4CutUptoSaid : Prop := ip4CutUptoRow.holds Try.pinned (OpenSpec.upto ip4CutSpec)

end Rows
end Go.Proofs.Ytoekipjnjlbjgaa
