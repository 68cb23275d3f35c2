/- Plain sums of words: each two bytes a word, the greater one first; what is above 65535 is added to what is left. No program is in sight here. -/
import Derived.Test.YtjfijllnmjajpaaBe
namespace Go.Proofs.Ytjfijllnmjajpaa

/-- All words together, nothing carried. -/
def wsum : List UInt8 → Nat
  | [] => 0
  | [a] => a.toNat * 256
  | a :: b :: l => a.toNat * 256 + b.toNat + wsum l
/-- What is carried goes round. -/
def fold (n : Nat) : Nat := if n = 0 then 0 else (n - 1) % 65535 + 1
/-- The sum of a text's words. -/
def foldS (l : List UInt8) : Nat := fold (wsum l)

theorem fold_le (n : Nat) : fold n ≤ 65535 := by unfold fold; split <;> omega
theorem fold_small {n : Nat} (h : n ≤ 65535) : fold n = n := by unfold fold; split <;> omega
theorem fold_step (n : Nat) (h : 65535 < n) : fold (n / 65536 + n % 65536) = fold n := by unfold fold; split <;> split <;> omega
theorem fold_zero (n : Nat) : fold n = 0 ↔ n = 0 := by unfold fold; split <;> omega
theorem fold_add (n m : Nat) : fold (n + m) = fold (fold n + m) := by unfold fold; split <;> split <;> split <;> omega
theorem fold_two {n m : Nat} (hn : n ≤ 65535) (hm : m ≤ 65535) : fold (n + m) = if 65535 < n + m then n + m - 65535 else n + m := by unfold fold; split <;> split <;> omega
theorem fold_full (n : Nat) : fold n = 65535 ↔ (n ≠ 0 ∧ n % 65535 = 0) := by unfold fold; split <;> omega
theorem fold_eq (n m : Nat) : fold n = fold m ↔ ((n = 0 ↔ m = 0) ∧ n % 65535 = m % 65535) := by unfold fold; split <;> split <;> omega

theorem wsum_append : ∀ (l m : List UInt8), l.length % 2 = 0 → wsum (l ++ m) = wsum l + wsum m
  | [], m, _ => by simp [wsum]
  | [a], m, h => by simp at h
  | a :: b :: l, m, h => by
    have := wsum_append l m (by simp at h; omega)
    simp only [List.cons_append, wsum, this]; omega
theorem wsum_pad (l : List UInt8) (h : l.length % 2 = 1) : wsum (l ++ [0]) = wsum l := by
  match l, h with
  | [a], _ => simp [wsum]
  | a :: b :: l, h => simp only [List.cons_append, wsum, wsum_pad l (by simp at h; omega)]
theorem wsum_zero : ∀ (l : List UInt8), wsum l = 0 ↔ ∀ b ∈ l, b.toNat = 0
  | [] => by simp [wsum]
  | [a] => by simp only [wsum, List.mem_singleton, forall_eq]; omega
  | a :: b :: l => by
    have := wsum_zero l
    simp only [wsum, List.mem_cons, forall_eq_or_imp, ← this]; omega
theorem wsum_le : ∀ (l : List UInt8), wsum l ≤ 65535 * l.length
  | [] => by simp [wsum]
  | [a] => by have := a.toNat_lt; simp [wsum]; omega
  | a :: b :: l => by
    have := wsum_le l
    have := a.toNat_lt
    have := b.toNat_lt
    simp only [wsum, List.length_cons]; omega
theorem wsum_two (v : Nat) (h : v ≤ 65535) : wsum (eb 2 v) = v := by
  simp [eb, wsum]; omega
theorem wsum_take (l : List UInt8) (k : Nat) (h : 2 * k + 1 < l.length) : wsum (l.take (2 * k + 2)) = wsum (l.take (2 * k)) + (l[2 * k].toNat * 256 + l[2 * k + 1].toNat) := by
  have e : l.take (2 * k + 2) = l.take (2 * k) ++ [l[2 * k], l[2 * k + 1]] := by
    have e1 := List.take_succ_eq_append_getElem h
    have e2 := List.take_succ_eq_append_getElem (l := l) (i := 2 * k) (by omega)
    rw [show 2 * k + 2 = (2 * k + 1) + 1 from rfl, e1, e2, List.append_assoc]; rfl
  rw [e, wsum_append _ _ (by simp; omega)]
  simp [wsum]
end Go.Proofs.Ytjfijllnmjajpaa
