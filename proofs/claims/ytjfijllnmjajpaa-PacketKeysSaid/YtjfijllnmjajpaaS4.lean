/- plain: what ip4.Parse answers. -/
import Derived.Test.YtjfijllnmjajpaaS6
import Derived.Test.YtjfijllnmjajpaaFd
namespace Go.Proofs.Ytjfijllnmjajpaa

/-- The head's own length, in bytes. -/
def z4 (s : ByteArray) : Nat := byteN s 0 % 16 * 4
def c4 (s : ByteArray) : Bool := decide (z4 s < 20) || decide (s.size < z4 s) || decide (getV s 2 2 < (z4 s : Int)) || decide ((s.size : Int) < getV s 2 2)
def p4E (s : ByteArray) : Int :=
  if s.size < 20 then 2 else if byteN s 0 / 16 ≠ 4 then 3 else if c4 s = true then 4 else if goodS (s.extract 0 (z4 s)).data.toList = false then 5
  else if getV s 6 2 % 16384 ≠ 0 then 6 else 0
def p4S (s : ByteArray) : ByteArray := if p4E s = 0 then s.extract 12 16 else ⟨#[]⟩
def p4D (s : ByteArray) : ByteArray := if p4E s = 0 then s.extract 16 20 else ⟨#[]⟩
def p4P (s : ByteArray) : Int := if p4E s = 0 then (byteN s 9 : Int) else 0
def p4R (s : ByteArray) : ByteArray := if p4E s = 0 then s.extract (z4 s) (getV s 2 2).toNat else ⟨#[]⟩

theorem getV1_bd (s : ByteArray) (p : Int) : 0 ≤ getV s p 1 ∧ getV s p 1 < 256 := by
  refine ⟨(getV_bd s p 1).1, ?_⟩
  cases h : getB s p 1 with
  | false => rw [getV_no h]; decide
  | true =>
    rw [getV_yes h]
    have := be_take_lt (s.data.toList.drop p.toNat) 1
    have e : (1 : Int).toNat = 1 := rfl
    rw [e]
    omega
theorem getV_byte (s : ByteArray) (i : Nat) (h : i < s.size) : getV s i 1 = (byteN s i : Int) := by
  have hg : getB s (i : Int) 1 = true := by rw [getB_iff]; omega
  rw [getV_yes hg]
  have hl : i < s.data.toList.length := by rw [Array.length_toList]; exact h
  have e : (1 : Int).toNat = 1 := rfl
  rw [e, Int.toNat_natCast, List.take_one, List.head?_drop, List.getElem?_eq_getElem hl]
  simp only [byteN, List.getD_eq_getElem?_getD, List.getElem?_eq_getElem hl]
  simp [be]
end Go.Proofs.Ytjfijllnmjajpaa
