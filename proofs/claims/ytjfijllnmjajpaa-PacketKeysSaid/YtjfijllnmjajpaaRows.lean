/-
  No cell of these rows narrows 'for every input' (looked for: loops, veiled, ifaces, maps, wideKeys, modest, calm, conditions, laid).
  DERIVED. THE GIVEN ROWS OF THIS SEAT. 12 by the template 'for every input the law returns true; each argument reads behind the call as it read before'; 0 by the template 'total and deterministic' (their statements: YtjfijllnmjajpaaTotals.lean).
  GIVEN WITH THE SEED: the statements are not yours to turn. If you find one false, say at which input.
  Laid BY PROGRAM, IN A SANDBOX (cutbox-rows.mjs): the forced cells as the released guide's own fill.sh prints them over the translation 29f6b85ba075907b… (all of the seat's roots in one cut). By AI agents, Wed Nov 11 2026. No macro, syntax, notation, axiom, sorry.
-/
import Derived.Test.YtjfijllnmjajpaaChecked
import GoSem.Claim
import GoSem.ClaimJoined
import GoSem.ClaimMapViews
import Derived.JoinedTies
import Derived.KernelRfl
namespace Go.Proofs.Ytjfijllnmjajpaa
/- THE CELL 'sum', in the pinned program and in every row, IS THE sha256 OF THE DUMP (.gsa) THAT YtjfijllnmjajpaaProg.lean LOADS. Nothing in Lean hashes anything: it is a label: what it is worth is what the hold of that sum in a sandbox is worth. -/
noncomputable def Try.pinned : Pinned := { name := "ytjfijllnmjajpaa", sum := "29f6b85ba075907b696f937bcf58268d05087124d9acd7053c9dd73f85f96c05", checked := Try.checked }
namespace Rows
def none {H : Type} : Left H := { results := [], args := [] }

/-- 'gangplanklaw06.PortParses': WHATEVER THE INPUT: true; the input reads as it did. -/
def portParsesSpec : ChangeSpec := { name := "portParses", fn := fun _ => fun
  | [d1, d2] => { results := [.lit (.bool true)], args := [d1, d2] }
  | _ => none }
def portParsesRow : OpenClaim := { program := "ytjfijllnmjajpaa", sum := "29f6b85ba075907b696f937bcf58268d05087124d9acd7053c9dd73f85f96c05", func := "gangplank/gangplanklaw06.PortParses", spec := "portParses", unfollowed := true, recurses := true, apart := false }
def PortParsesSaid : Prop := portParsesRow.holds Try.pinned (OpenSpec.ofChange portParsesSpec)

/-- ITS FALSE NEIGHBOUR: 'it returns false'. Refute it at one input. -/
def portParsesWrong : ChangeSpec := { name := "portParses", fn := fun _ => fun
  | [d1, d2] => { results := [.lit (.bool false)], args := [d1, d2] }
  | _ => none }
def PortParsesWrongFalsely : Prop := portParsesRow.holds Try.pinned (OpenSpec.ofChange portParsesWrong)

/-- 'gangplanklaw06.PortPuts': WHATEVER THE INPUT: true; the input reads as it did. -/
def portPutsSpec : ChangeSpec := { name := "portPuts", fn := fun _ => fun
  | [d1, d2, d3, d4] => { results := [.lit (.bool true)], args := [d1, d2, d3, d4] }
  | _ => none }
def portPutsRow : OpenClaim := { program := "ytjfijllnmjajpaa", sum := "29f6b85ba075907b696f937bcf58268d05087124d9acd7053c9dd73f85f96c05", func := "gangplank/gangplanklaw06.PortPuts", spec := "portPuts", unfollowed := true, recurses := true, apart := false }
def PortPutsSaid : Prop := portPutsRow.holds Try.pinned (OpenSpec.ofChange portPutsSpec)

/-- ITS FALSE NEIGHBOUR: 'it returns false'. Refute it at one input. -/
def portPutsWrong : ChangeSpec := { name := "portPuts", fn := fun _ => fun
  | [d1, d2, d3, d4] => { results := [.lit (.bool false)], args := [d1, d2, d3, d4] }
  | _ => none }
def PortPutsWrongFalsely : Prop := portPutsRow.holds Try.pinned (OpenSpec.ofChange portPutsWrong)

/-- 'gangplanklaw06.PortBack': WHATEVER THE INPUT: true; the input reads as it did. -/
def portBackSpec : ChangeSpec := { name := "portBack", fn := fun _ => fun
  | [d1, d2, d3, d4, d5] => { results := [.lit (.bool true)], args := [d1, d2, d3, d4, d5] }
  | _ => none }
def portBackRow : OpenClaim := { program := "ytjfijllnmjajpaa", sum := "29f6b85ba075907b696f937bcf58268d05087124d9acd7053c9dd73f85f96c05", func := "gangplank/gangplanklaw06.PortBack", spec := "portBack", unfollowed := true, recurses := true, apart := false }
def PortBackSaid : Prop := portBackRow.holds Try.pinned (OpenSpec.ofChange portBackSpec)

/-- ITS FALSE NEIGHBOUR: 'it returns false'. Refute it at one input. -/
def portBackWrong : ChangeSpec := { name := "portBack", fn := fun _ => fun
  | [d1, d2, d3, d4, d5] => { results := [.lit (.bool false)], args := [d1, d2, d3, d4, d5] }
  | _ => none }
def PortBackWrongFalsely : Prop := portBackRow.holds Try.pinned (OpenSpec.ofChange portBackWrong)

/-- 'gangplanklaw06.PortHeld': WHATEVER THE INPUT: true; the input reads as it did. -/
def portHeldSpec : ChangeSpec := { name := "portHeld", fn := fun _ => fun
  | [d1, d2, d3] => { results := [.lit (.bool true)], args := [d1, d2, d3] }
  | _ => none }
def portHeldRow : OpenClaim := { program := "ytjfijllnmjajpaa", sum := "29f6b85ba075907b696f937bcf58268d05087124d9acd7053c9dd73f85f96c05", func := "gangplank/gangplanklaw06.PortHeld", spec := "portHeld", unfollowed := true, recurses := true, apart := false }
def PortHeldSaid : Prop := portHeldRow.holds Try.pinned (OpenSpec.ofChange portHeldSpec)

/-- ITS FALSE NEIGHBOUR: 'it returns false'. Refute it at one input. -/
def portHeldWrong : ChangeSpec := { name := "portHeld", fn := fun _ => fun
  | [d1, d2, d3] => { results := [.lit (.bool false)], args := [d1, d2, d3] }
  | _ => none }
def PortHeldWrongFalsely : Prop := portHeldRow.holds Try.pinned (OpenSpec.ofChange portHeldWrong)

/-- 'gangplanklaw06.PortCut': WHATEVER THE INPUT: true; the input reads as it did. -/
def portCutSpec : ChangeSpec := { name := "portCut", fn := fun _ => fun
  | [d1, d2, d3, d4, d5] => { results := [.lit (.bool true)], args := [d1, d2, d3, d4, d5] }
  | _ => none }
def portCutRow : OpenClaim := { program := "ytjfijllnmjajpaa", sum := "29f6b85ba075907b696f937bcf58268d05087124d9acd7053c9dd73f85f96c05", func := "gangplank/gangplanklaw06.PortCut", spec := "portCut", unfollowed := true, recurses := true, apart := false }
def PortCutSaid : Prop := portCutRow.holds Try.pinned (OpenSpec.ofChange portCutSpec)

/-- ITS FALSE NEIGHBOUR: 'it returns false'. Refute it at one input. -/
def portCutWrong : ChangeSpec := { name := "portCut", fn := fun _ => fun
  | [d1, d2, d3, d4, d5] => { results := [.lit (.bool false)], args := [d1, d2, d3, d4, d5] }
  | _ => none }
def PortCutWrongFalsely : Prop := portCutRow.holds Try.pinned (OpenSpec.ofChange portCutWrong)

/-- 'gangplanklaw07.PacketParses': WHATEVER THE INPUT: true; the input reads as it did. -/
def packetParsesSpec : ChangeSpec := { name := "packetParses", fn := fun _ => fun
  | [d] => { results := [.lit (.bool true)], args := [d] }
  | _ => none }
def packetParsesRow : OpenClaim := { program := "ytjfijllnmjajpaa", sum := "29f6b85ba075907b696f937bcf58268d05087124d9acd7053c9dd73f85f96c05", func := "gangplank/gangplanklaw07.PacketParses", spec := "packetParses", inPlace := ["internal/abi.NoEscape"], unfollowed := true, recurses := true, apart := false }
def PacketParsesSaid : Prop := packetParsesRow.holds Try.pinned (OpenSpec.ofChange packetParsesSpec)

/-- ITS FALSE NEIGHBOUR: 'it returns false'. Refute it at one input. -/
def packetParsesWrong : ChangeSpec := { name := "packetParses", fn := fun _ => fun
  | [d] => { results := [.lit (.bool false)], args := [d] }
  | _ => none }
def PacketParsesWrongFalsely : Prop := packetParsesRow.holds Try.pinned (OpenSpec.ofChange packetParsesWrong)

/-- 'gangplanklaw07.PacketPuts': WHATEVER THE INPUT: true; the input reads as it did. -/
def packetPutsSpec : ChangeSpec := { name := "packetPuts", fn := fun _ => fun
  | [d] => { results := [.lit (.bool true)], args := [d] }
  | _ => none }
def packetPutsRow : OpenClaim := { program := "ytjfijllnmjajpaa", sum := "29f6b85ba075907b696f937bcf58268d05087124d9acd7053c9dd73f85f96c05", func := "gangplank/gangplanklaw07.PacketPuts", spec := "packetPuts", inPlace := ["internal/abi.NoEscape"], unfollowed := true, recurses := true, apart := false }
def PacketPutsSaid : Prop := packetPutsRow.holds Try.pinned (OpenSpec.ofChange packetPutsSpec)

/-- ITS FALSE NEIGHBOUR: 'it returns false'. Refute it at one input. -/
def packetPutsWrong : ChangeSpec := { name := "packetPuts", fn := fun _ => fun
  | [d] => { results := [.lit (.bool false)], args := [d] }
  | _ => none }
def PacketPutsWrongFalsely : Prop := packetPutsRow.holds Try.pinned (OpenSpec.ofChange packetPutsWrong)

/-- 'gangplanklaw07.PacketKeys': WHATEVER THE INPUT: true; the input reads as it did. -/
def packetKeysSpec : ChangeSpec := { name := "packetKeys", fn := fun _ => fun
  | [d1, d2] => { results := [.lit (.bool true)], args := [d1, d2] }
  | _ => none }
def packetKeysRow : OpenClaim := { program := "ytjfijllnmjajpaa", sum := "29f6b85ba075907b696f937bcf58268d05087124d9acd7053c9dd73f85f96c05", func := "gangplank/gangplanklaw07.PacketKeys", spec := "packetKeys", inPlace := ["internal/abi.NoEscape"], unfollowed := true, recurses := true, apart := false }
def PacketKeysSaid : Prop := packetKeysRow.holds Try.pinned (OpenSpec.ofChange packetKeysSpec)

/-- ITS FALSE NEIGHBOUR: 'it returns false'. Refute it at one input. -/
def packetKeysWrong : ChangeSpec := { name := "packetKeys", fn := fun _ => fun
  | [d1, d2] => { results := [.lit (.bool false)], args := [d1, d2] }
  | _ => none }
def PacketKeysWrongFalsely : Prop := packetKeysRow.holds Try.pinned (OpenSpec.ofChange packetKeysWrong)

/-- 'gangplanklaw07.PacketBack': WHATEVER THE INPUT: true; the input reads as it did. -/
def packetBackSpec : ChangeSpec := { name := "packetBack", fn := fun _ => fun
  | [d1, d2] => { results := [.lit (.bool true)], args := [d1, d2] }
  | _ => none }
def packetBackRow : OpenClaim := { program := "ytjfijllnmjajpaa", sum := "29f6b85ba075907b696f937bcf58268d05087124d9acd7053c9dd73f85f96c05", func := "gangplank/gangplanklaw07.PacketBack", spec := "packetBack", inPlace := ["internal/abi.NoEscape"], unfollowed := true, recurses := true, apart := false }
def PacketBackSaid : Prop := packetBackRow.holds Try.pinned (OpenSpec.ofChange packetBackSpec)

/-- ITS FALSE NEIGHBOUR: 'it returns false'. Refute it at one input. -/
def packetBackWrong : ChangeSpec := { name := "packetBack", fn := fun _ => fun
  | [d1, d2] => { results := [.lit (.bool false)], args := [d1, d2] }
  | _ => none }
def PacketBackWrongFalsely : Prop := packetBackRow.holds Try.pinned (OpenSpec.ofChange packetBackWrong)

/-- 'gangplanklaw07.PacketHeld': WHATEVER THE INPUT: true; the input reads as it did. -/
def packetHeldSpec : ChangeSpec := { name := "packetHeld", fn := fun _ => fun
  | [d] => { results := [.lit (.bool true)], args := [d] }
  | _ => none }
def packetHeldRow : OpenClaim := { program := "ytjfijllnmjajpaa", sum := "29f6b85ba075907b696f937bcf58268d05087124d9acd7053c9dd73f85f96c05", func := "gangplank/gangplanklaw07.PacketHeld", spec := "packetHeld", inPlace := ["internal/abi.NoEscape"], unfollowed := true, recurses := true, apart := false }
def PacketHeldSaid : Prop := packetHeldRow.holds Try.pinned (OpenSpec.ofChange packetHeldSpec)

/-- ITS FALSE NEIGHBOUR: 'it returns false'. Refute it at one input. -/
def packetHeldWrong : ChangeSpec := { name := "packetHeld", fn := fun _ => fun
  | [d] => { results := [.lit (.bool false)], args := [d] }
  | _ => none }
def PacketHeldWrongFalsely : Prop := packetHeldRow.holds Try.pinned (OpenSpec.ofChange packetHeldWrong)

/-- 'gangplanklaw07.PacketApart': WHATEVER THE INPUT: true; the input reads as it did. -/
def packetApartSpec : ChangeSpec := { name := "packetApart", fn := fun _ => fun
  | [d1, d2, d3] => { results := [.lit (.bool true)], args := [d1, d2, d3] }
  | _ => none }
def packetApartRow : OpenClaim := { program := "ytjfijllnmjajpaa", sum := "29f6b85ba075907b696f937bcf58268d05087124d9acd7053c9dd73f85f96c05", func := "gangplank/gangplanklaw07.PacketApart", spec := "packetApart", inPlace := ["internal/abi.NoEscape"], unfollowed := true, recurses := true, apart := false }
def PacketApartSaid : Prop := packetApartRow.holds Try.pinned (OpenSpec.ofChange packetApartSpec)

/-- ITS FALSE NEIGHBOUR: 'it returns false'. Refute it at one input. -/
def packetApartWrong : ChangeSpec := { name := "packetApart", fn := fun _ => fun
  | [d1, d2, d3] => { results := [.lit (.bool false)], args := [d1, d2, d3] }
  | _ => none }
def PacketApartWrongFalsely : Prop := packetApartRow.holds Try.pinned (OpenSpec.ofChange packetApartWrong)

/-- 'gangplanklaw07.PacketCut': WHATEVER THE INPUT: true; the input reads as it did. -/
def packetCutSpec : ChangeSpec := { name := "packetCut", fn := fun _ => fun
  | [d1, d2] => { results := [.lit (.bool true)], args := [d1, d2] }
  | _ => none }
def packetCutRow : OpenClaim := { program := "ytjfijllnmjajpaa", sum := "29f6b85ba075907b696f937bcf58268d05087124d9acd7053c9dd73f85f96c05", func := "gangplank/gangplanklaw07.PacketCut", spec := "packetCut", inPlace := ["internal/abi.NoEscape"], unfollowed := true, recurses := true, apart := false }
def PacketCutSaid : Prop := packetCutRow.holds Try.pinned (OpenSpec.ofChange packetCutSpec)

/-- ITS FALSE NEIGHBOUR: 'it returns false'. Refute it at one input. -/
def packetCutWrong : ChangeSpec := { name := "packetCut", fn := fun _ => fun
  | [d1, d2] => { results := [.lit (.bool false)], args := [d1, d2] }
  | _ => none }
def PacketCutWrongFalsely : Prop := packetCutRow.holds Try.pinned (OpenSpec.ofChange packetCutWrong)

/- THE SECOND FORM. 'bulk': how many values and letters a reading holds, each counted each time it is reached (what is shared counts as often as it is met; a slice's spare places count too). A statement '..UptoSaid' is the law's where the arguments, and the package variables that the reading takes, are together of bulk at most 1048576: NARROWER than '..Said'. Prove '..Said' where nothing that the law and all that it calls make is longer than what came in: it says more and counts as full. Else prove '..UptoSaid'. A law counts once. -/
mutual
def uptoBulk {H : Type} : DataW H → Nat
  | .lit (.string bytes) => bytes.length + 1
  | .lit _ => 1
  | .nil => 1
  | .ptr d => uptoBulk d + 1
  | .slice elems spare => uptoBulkAll elems + uptoBulkAll spare + 1
  | .agg parts => uptoBulkAll parts + 1
  | .iface _ d => uptoBulk d + 1
  | .map entries => uptoBulkEntries entries + 1
  | .held _ => 1
def uptoBulkAll {H : Type} : List (DataW H) → Nat
  | [] => 0
  | d :: r => uptoBulk d + uptoBulkAll r
def uptoBulkEntries {H : Type} : List (Lit × DataW H) → Nat
  | [] => 0
  | x :: r => uptoBulkEntry x + uptoBulkEntries r
def uptoBulkEntry {H : Type} : Lit × DataW H → Nat
  | (.string bytes, d) => bytes.length + uptoBulk d + 1
  | (_, d) => uptoBulk d + 1
 end
def uptoSmall : (H : Type) → List (DataW H) → Bool := fun _ ds => decide (uptoBulkAll ds ≤ 1048576)
def OpenSpec.upto (s : _root_.Go.ChangeSpec) : _root_.Go.OpenSpec := { _root_.Go.OpenSpec.ofChange s with cond := some uptoSmall }

/-- 'gangplanklaw06.PortParses', WHERE WHAT IT READS IS OF BULK AT MOST 1048576: true; the input reads as it did. -/
def portParsesUptoRow : OpenClaim := { program := "ytjfijllnmjajpaa", sum := "29f6b85ba075907b696f937bcf58268d05087124d9acd7053c9dd73f85f96c05", func := "gangplank/gangplanklaw06.PortParses", spec := "portParses", unfollowed := true, recurses := true, apart := false, narrowed := true }
def PortParsesUptoSaid : Prop := portParsesUptoRow.holds Try.pinned (OpenSpec.upto portParsesSpec)

/-- 'gangplanklaw06.PortPuts', WHERE WHAT IT READS IS OF BULK AT MOST 1048576: true; the input reads as it did. -/
def portPutsUptoRow : OpenClaim := { program := "ytjfijllnmjajpaa", sum := "29f6b85ba075907b696f937bcf58268d05087124d9acd7053c9dd73f85f96c05", func := "gangplank/gangplanklaw06.PortPuts", spec := "portPuts", unfollowed := true, recurses := true, apart := false, narrowed := true }
def PortPutsUptoSaid : Prop := portPutsUptoRow.holds Try.pinned (OpenSpec.upto portPutsSpec)

/-- 'gangplanklaw06.PortBack', WHERE WHAT IT READS IS OF BULK AT MOST 1048576: true; the input reads as it did. -/
def portBackUptoRow : OpenClaim := { program := "ytjfijllnmjajpaa", sum := "29f6b85ba075907b696f937bcf58268d05087124d9acd7053c9dd73f85f96c05", func := "gangplank/gangplanklaw06.PortBack", spec := "portBack", unfollowed := true, recurses := true, apart := false, narrowed := true }
def PortBackUptoSaid : Prop := portBackUptoRow.holds Try.pinned (OpenSpec.upto portBackSpec)

/-- 'gangplanklaw06.PortHeld', WHERE WHAT IT READS IS OF BULK AT MOST 1048576: true; the input reads as it did. -/
def portHeldUptoRow : OpenClaim := { program := "ytjfijllnmjajpaa", sum := "29f6b85ba075907b696f937bcf58268d05087124d9acd7053c9dd73f85f96c05", func := "gangplank/gangplanklaw06.PortHeld", spec := "portHeld", unfollowed := true, recurses := true, apart := false, narrowed := true }
def PortHeldUptoSaid : Prop := portHeldUptoRow.holds Try.pinned (OpenSpec.upto portHeldSpec)

/-- 'gangplanklaw06.PortCut', WHERE WHAT IT READS IS OF BULK AT MOST 1048576: true; the input reads as it did. -/
def portCutUptoRow : OpenClaim := { program := "ytjfijllnmjajpaa", sum := "29f6b85ba075907b696f937bcf58268d05087124d9acd7053c9dd73f85f96c05", func := "gangplank/gangplanklaw06.PortCut", spec := "portCut", unfollowed := true, recurses := true, apart := false, narrowed := true }
def PortCutUptoSaid : Prop := portCutUptoRow.holds Try.pinned (OpenSpec.upto portCutSpec)

/-- 'gangplanklaw07.PacketParses', WHERE WHAT IT READS IS OF BULK AT MOST 1048576: true; the input reads as it did. -/
def packetParsesUptoRow : OpenClaim := { program := "ytjfijllnmjajpaa", sum := "29f6b85ba075907b696f937bcf58268d05087124d9acd7053c9dd73f85f96c05", func := "gangplank/gangplanklaw07.PacketParses", spec := "packetParses", inPlace := ["internal/abi.NoEscape"], unfollowed := true, recurses := true, apart := false, narrowed := true }
def PacketParsesUptoSaid : Prop := packetParsesUptoRow.holds Try.pinned (OpenSpec.upto packetParsesSpec)

/-- 'gangplanklaw07.PacketPuts', WHERE WHAT IT READS IS OF BULK AT MOST 1048576: true; the input reads as it did. -/
def packetPutsUptoRow : OpenClaim := { program := "ytjfijllnmjajpaa", sum := "29f6b85ba075907b696f937bcf58268d05087124d9acd7053c9dd73f85f96c05", func := "gangplank/gangplanklaw07.PacketPuts", spec := "packetPuts", inPlace := ["internal/abi.NoEscape"], unfollowed := true, recurses := true, apart := false, narrowed := true }
def PacketPutsUptoSaid : Prop := packetPutsUptoRow.holds Try.pinned (OpenSpec.upto packetPutsSpec)

/-- 'gangplanklaw07.PacketKeys', WHERE WHAT IT READS IS OF BULK AT MOST 1048576: true; the input reads as it did. -/
def packetKeysUptoRow : OpenClaim := { program := "ytjfijllnmjajpaa", sum := "29f6b85ba075907b696f937bcf58268d05087124d9acd7053c9dd73f85f96c05", func := "gangplank/gangplanklaw07.PacketKeys", spec := "packetKeys", inPlace := ["internal/abi.NoEscape"], unfollowed := true, recurses := true, apart := false, narrowed := true }
def PacketKeysUptoSaid : Prop := packetKeysUptoRow.holds Try.pinned (OpenSpec.upto packetKeysSpec)

/-- 'gangplanklaw07.PacketBack', WHERE WHAT IT READS IS OF BULK AT MOST 1048576: true; the input reads as it did. -/
def packetBackUptoRow : OpenClaim := { program := "ytjfijllnmjajpaa", sum := "29f6b85ba075907b696f937bcf58268d05087124d9acd7053c9dd73f85f96c05", func := "gangplank/gangplanklaw07.PacketBack", spec := "packetBack", inPlace := ["internal/abi.NoEscape"], unfollowed := true, recurses := true, apart := false, narrowed := true }
def PacketBackUptoSaid : Prop := packetBackUptoRow.holds Try.pinned (OpenSpec.upto packetBackSpec)

/-- 'gangplanklaw07.PacketHeld', WHERE WHAT IT READS IS OF BULK AT MOST 1048576: true; the input reads as it did. -/
def packetHeldUptoRow : OpenClaim := { program := "ytjfijllnmjajpaa", sum := "29f6b85ba075907b696f937bcf58268d05087124d9acd7053c9dd73f85f96c05", func := "gangplank/gangplanklaw07.PacketHeld", spec := "packetHeld", inPlace := ["internal/abi.NoEscape"], unfollowed := true, recurses := true, apart := false, narrowed := true }
def PacketHeldUptoSaid : Prop := packetHeldUptoRow.holds Try.pinned (OpenSpec.upto packetHeldSpec)

/-- 'gangplanklaw07.PacketApart', WHERE WHAT IT READS IS OF BULK AT MOST 1048576: true; the input reads as it did. -/
def packetApartUptoRow : OpenClaim := { program := "ytjfijllnmjajpaa", sum := "29f6b85ba075907b696f937bcf58268d05087124d9acd7053c9dd73f85f96c05", func := "gangplank/gangplanklaw07.PacketApart", spec := "packetApart", inPlace := ["internal/abi.NoEscape"], unfollowed := true, recurses := true, apart := false, narrowed := true }
def PacketApartUptoSaid : Prop := packetApartUptoRow.holds Try.pinned (OpenSpec.upto packetApartSpec)

/-- 'gangplanklaw07.PacketCut', WHERE WHAT IT READS IS OF BULK AT MOST 1048576: true; the input reads as it did. -/
def packetCutUptoRow : OpenClaim := { program := "ytjfijllnmjajpaa", sum := "29f6b85ba075907b696f937bcf58268d05087124d9acd7053c9dd73f85f96c05", func := "gangplank/gangplanklaw07.PacketCut", spec := "packetCut", inPlace := ["internal/abi.NoEscape"], unfollowed := true, recurses := true, apart := false, narrowed := true }
def PacketCutUptoSaid : Prop := packetCutUptoRow.holds Try.pinned (OpenSpec.upto packetCutSpec)

end Rows
end Go.Proofs.Ytjfijllnmjajpaa
