/- plain: what ip4.Put and gangplankref04.Put answer. -/
import Derived.Test.YtjfijllnmjajpaaS4
namespace Go.Proofs.Ytjfijllnmjajpaa

/-- A head whose sum's place holds o. -/
def hd4 (a b : ByteArray) (p : Int) (r : ByteArray) (o : Int) : ByteArray := (⟨#[69, 0]⟩ : ByteArray) ++ putS (20 + (r.size : Int)) 2 ++ ⟨#[0, 0, 64, 0, 64]⟩ ++ putS p 1 ++ putS o 2 ++ a ++ b
def own4 (a b : ByteArray) (p : Int) (r : ByteArray) : Int := 65535 - ((foldS (hd4 a b p r 0).data.toList : Nat) : Int)
def u4Bad (a b : ByteArray) (p : Int) : Bool := a.size != 4 || b.size != 4 || decide (p < 0) || decide (255 < p)
def u4E (a b : ByteArray) (p : Int) (r : ByteArray) : Int := if u4Bad a b p then 1 else if 65515 < r.size then 4 else 0
def u4S (a b : ByteArray) (p : Int) (r : ByteArray) : ByteArray := if u4E a b p r = 0 then hd4 a b p r (own4 a b p r) ++ r else ⟨#[]⟩
theorem own4_bd (a b : ByteArray) (p : Int) (r : ByteArray) : 0 ≤ own4 a b p r ∧ own4 a b p r ≤ 65535 := by
  have := fold_le (wsum (hd4 a b p r 0).data.toList)
  unfold own4 foldS
  omega
theorem hd4_size {a b : ByteArray} (p : Int) (r : ByteArray) (o : Int) (ha : a.size = 4) (hb : b.size = 4) : (hd4 a b p r o).size = 20 := by
  have s1 := putS_size (20 + (r.size : Int)) 2
  have s2 := putS_size p 1
  have s3 := putS_size o 2
  simp at s1 s2 s3
  have z1 : (⟨#[69, 0]⟩ : ByteArray).size = 2 := rfl
  have z2 : (⟨#[0, 0, 64, 0, 64]⟩ : ByteArray).size = 5 := rfl
  simp only [hd4, ByteArray.size_append, z1, z2, ha, hb]
  omega
end Go.Proofs.Ytjfijllnmjajpaa
