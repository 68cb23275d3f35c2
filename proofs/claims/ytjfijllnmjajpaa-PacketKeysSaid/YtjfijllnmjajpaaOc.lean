/- What octet.Get and octet.Put hand back, as plain functions. -/
import Derived.Test.YtjfijllnmjajpaaBe
namespace Go.Proofs.Ytjfijllnmjajpaa

/-- Does Get answer? -/
def getB (s : ByteArray) (p n : Int) : Bool := decide (1 ≤ n ∧ n ≤ 8 ∧ 0 ≤ p ∧ p ≤ (s.size : Int) - n)
/-- The number that Get answers. -/
def getV (s : ByteArray) (p n : Int) : Int := if getB s p n then ((be ((s.data.toList.drop p.toNat).take n.toNat) : Nat) : Int) else 0
/-- The text that Put answers. -/
def putS (v n : Int) : ByteArray := if 1 ≤ n ∧ n ≤ 8 then ⟨(eb n.toNat v.toNat).toArray⟩ else ⟨#[]⟩

/-- What has been put together when k of m bytes have come. -/
def acc (s : ByteArray) (p m k : Nat) : Nat := be ((s.data.toList.drop p).take k) * 256 ^ (m - k)

theorem acc_zero (s : ByteArray) (p m : Nat) : acc s p m 0 = 0 := by simp [acc, be]
theorem acc_all (s : ByteArray) (p m : Nat) : acc s p m m = be ((s.data.toList.drop p).take m) := by simp [acc]
theorem be_take_lt (l : List UInt8) (k : Nat) : be (l.take k) < 256 ^ k := by
  have h := be_lt (l.take k)
  have : (l.take k).length ≤ k := List.length_take_le _ _
  exact Nat.lt_of_lt_of_le h (Nat.pow_le_pow_right (by decide) this)
theorem acc_lt (s : ByteArray) (p m k : Nat) (h : k ≤ m) : acc s p m k < 256 ^ m := by
  unfold acc
  have := be_take_lt (s.data.toList.drop p) k
  obtain ⟨r, rfl⟩ : ∃ r, m = k + r := ⟨m - k, by omega⟩
  rw [Nat.add_sub_cancel_left, Nat.pow_add]
  exact Nat.mul_lt_mul_of_lt_of_le this (Nat.le_refl _) (Nat.pow_pos (by decide))
theorem take_drop_snoc (s : ByteArray) (p k : Nat) (h : p + k < s.size) :
    (s.data.toList.drop p).take (k + 1) = (s.data.toList.drop p).take k ++ [s[p + k]] := by
  have hl : k < (s.data.toList.drop p).length := by
    rw [List.length_drop]
    have : s.data.toList.length = s.size := by simp
    omega
  rw [List.take_succ_eq_append_getElem hl, List.getElem_drop]
  rfl
theorem acc_succ (s : ByteArray) (p m k : Nat) (hk : k < m) (h : p + k < s.size) :
    acc s p m (k + 1) = acc s p m k ||| ((s[p + k]).toNat * 256 ^ (m - 1 - k)) := by
  obtain ⟨r, rfl⟩ : ∃ r, m = k + 1 + r := ⟨m - 1 - k, by omega⟩
  have e1 : k + 1 + r - (k + 1) = r := by omega
  have e2 : k + 1 + r - k = r + 1 := by omega
  have e3 : k + 1 + r - 1 - k = r := by omega
  unfold acc
  rw [e1, e2, e3, take_drop_snoc s p k h, be_snoc]
  generalize be ((s.data.toList.drop p).take k) = b
  have hb := (s[p + k]).toNat_lt
  generalize (s[p + k]).toNat = c at hb
  have h256 : (256 : Nat) = 2 ^ 8 := rfl
  have hlt : c * 256 ^ r < 2 ^ (8 * (r + 1)) := by
    rw [h256, ← Nat.pow_mul, Nat.mul_add, Nat.pow_add, Nat.mul_comm c]
    exact Nat.mul_lt_mul_of_pos_left hb (Nat.pow_pos (by decide))
  have hor := Nat.two_pow_add_eq_or_of_lt hlt b
  have hp : 256 ^ (r + 1) = 2 ^ (8 * (r + 1)) := by rw [h256, ← Nat.pow_mul]
  rw [hp, Nat.mul_comm b (2 ^ (8 * (r + 1))), ← hor, Nat.add_mul, Nat.mul_comm, Nat.mul_comm c]
  rw [← hp, Nat.pow_succ, Nat.mul_assoc, Nat.mul_comm b]

/-- What has been put together when the bytes at some places have come. -/
def accL (s : ByteArray) (p m : Nat) (l : List Nat) : Nat := l.foldl (fun v k => v ||| ((s.data.toList.getD (p + k) 0).toNat * 256 ^ (m - 1 - k))) 0
theorem accL_snoc (s : ByteArray) (p m : Nat) (l : List Nat) (k : Nat) : accL s p m (l ++ [k]) = accL s p m l ||| ((s.data.toList.getD (p + k) 0).toNat * 256 ^ (m - 1 - k)) := by simp [accL]
theorem byte_at (s : ByteArray) (i : Nat) (h : i < s.size) : s.data.toList.getD i 0 = s[i] := by
  rw [List.getD_eq_getElem?_getD, List.getElem?_eq_getElem (by simpa using h)]; rfl
theorem accL_range (s : ByteArray) (p m : Nat) (h : p + m ≤ s.size) (k : Nat) (hk : k ≤ m) : accL s p m (List.range k) = acc s p m k := by
  induction k with
  | zero => simp [accL, acc_zero]
  | succ k ih => rw [List.range_succ, accL_snoc, ih (by omega), acc_succ s p m k (by omega) (by omega), byte_at s _ (by omega)]
theorem pow_256 (r : Nat) : 256 ^ r = 2 ^ (8 * r) := by rw [show (256 : Nat) = 2 ^ 8 from rfl, ← Nat.pow_mul]
theorem part_lt (c : UInt8) (m k : Nat) (hm : m ≤ 8) (h : k < m) : c.toNat * 256 ^ (m - 1 - k) < 2 ^ 64 := by
  have hc := c.toNat_lt
  have h1 : c.toNat * 256 ^ (m - 1 - k) < 2 ^ 8 * 256 ^ (m - 1 - k) := Nat.mul_lt_mul_of_pos_right hc (Nat.pow_pos (by decide))
  have h2 : 2 ^ 8 * 256 ^ (m - 1 - k) ≤ 2 ^ 64 := by
    rw [pow_256, ← Nat.pow_add]
    exact Nat.pow_le_pow_right (by decide) (by omega)
  omega
theorem accL_lt (s : ByteArray) (p m : Nat) (hm : m ≤ 8) (l : List Nat) (h : ∀ k ∈ l, k < m) : accL s p m l < 2 ^ 64 := by
  suffices h' : ∀ v, v < 2 ^ 64 → l.foldl (fun v k => v ||| ((s.data.toList.getD (p + k) 0).toNat * 256 ^ (m - 1 - k))) v < 2 ^ 64 from h' 0 (by decide)
  induction l with
  | nil => intro v hv; exact hv
  | cons k l ih =>
    intro v hv
    exact ih (fun k hk => h k (List.mem_cons_of_mem _ hk)) _ (Nat.or_lt_two_pow hv (part_lt _ m k hm (h k (List.mem_cons_self))))
theorem getB_iff (s : ByteArray) (p n : Int) : getB s p n = true ↔ 1 ≤ n ∧ n ≤ 8 ∧ 0 ≤ p ∧ p ≤ (s.size : Int) - n := by simp [getB]
theorem getV_no {s : ByteArray} {p n : Int} (h : getB s p n = false) : getV s p n = 0 := by simp [getV, h]
theorem getV_yes {s : ByteArray} {p n : Int} (h : getB s p n = true) : getV s p n = ((be ((s.data.toList.drop p.toNat).take n.toNat) : Nat) : Int) := by simp [getV, h]
theorem putS_no {v n : Int} (h : ¬ (1 ≤ n ∧ n ≤ 8)) : putS v n = ⟨#[]⟩ := by simp [putS, h]
theorem putS_yes {v n : Int} (h : 1 ≤ n ∧ n ≤ 8) : putS v n = ⟨(eb n.toNat v.toNat).toArray⟩ := by simp [putS, h]
theorem pow_le_64 {m : Nat} (h : m ≤ 8) : 256 ^ m ≤ 18446744073709551616 := by
  have : 256 ^ m ≤ 256 ^ 8 := Nat.pow_le_pow_right (by decide) h
  simpa using this
theorem getV_bd (s : ByteArray) (p n : Int) : 0 ≤ getV s p n ∧ getV s p n < 18446744073709551616 := by
  by_cases h : getB s p n = true
  · rw [getV_yes h]
    have hn := (getB_iff _ _ _).1 h
    have := be_take_lt (s.data.toList.drop p.toNat) n.toNat
    have := pow_le_64 (m := n.toNat) (by omega)
    omega
  · rw [getV_no (by simpa using h)]; omega
theorem putS_size (v n : Int) : ((putS v n).size : Int) = if 1 ≤ n ∧ n ≤ 8 then n else 0 := by
  unfold putS
  split
  · rename_i h
    show ((eb n.toNat v.toNat).toArray.size : Int) = n
    rw [List.size_toArray, eb_length]; omega
  · rfl
theorem putS_le (v n : Int) : (putS v n).size ≤ 8 := by have := putS_size v n; split at this <;> omega
end Go.Proofs.Ytjfijllnmjajpaa
