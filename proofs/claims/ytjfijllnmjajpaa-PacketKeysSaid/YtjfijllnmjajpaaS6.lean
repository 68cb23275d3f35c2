/- plain: what ip6.Parse and Put answer. -/
import Derived.Test.YtjfijllnmjajpaaOc
namespace Go.Proofs.Ytjfijllnmjajpaa

/-- Byte i of a text. -/
def byteN (s : ByteArray) (i : Nat) : Nat := (s.data.toList.getD i 0).toNat

def p6E (s : ByteArray) : Int :=
  if s.size < 40 then 2 else if byteN s 0 / 16 ≠ 6 then 3 else if (s.size : Int) - 40 < getV s 4 2 then 4 else 0
def p6S (s : ByteArray) : ByteArray := if p6E s = 0 then s.extract 8 24 else ⟨#[]⟩
def p6D (s : ByteArray) : ByteArray := if p6E s = 0 then s.extract 24 40 else ⟨#[]⟩
def p6P (s : ByteArray) : Int := if p6E s = 0 then (byteN s 6 : Int) else 0
def p6R (s : ByteArray) : ByteArray := if p6E s = 0 then s.extract 40 (40 + (getV s 4 2).toNat) else ⟨#[]⟩

theorem byteN_lt (s : ByteArray) (i : Nat) : byteN s i < 256 := UInt8.toNat_lt _
theorem byteN_get (s : ByteArray) (i : Nat) (h : i < s.size) : s[i].toNat = byteN s i := by
  unfold byteN; rw [byte_at s i h]

theorem getV2_bd (s : ByteArray) (p : Int) : 0 ≤ getV s p 2 ∧ getV s p 2 < 65536 := by
  refine ⟨(getV_bd s p 2).1, ?_⟩
  cases h : getB s p 2 with
  | false => rw [getV_no h]; decide
  | true =>
    rw [getV_yes h]
    have := be_take_lt (s.data.toList.drop p.toNat) 2
    have e : (2 : Int).toNat = 2 := rfl
    rw [e]
    omega
end Go.Proofs.Ytjfijllnmjajpaa
