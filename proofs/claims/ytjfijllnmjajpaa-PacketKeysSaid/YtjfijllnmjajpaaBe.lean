/- Plain numbers and bytes: the number of bytes (greatest first) and the bytes of a number. No program is in sight here. -/
namespace Go.Proofs.Ytjfijllnmjajpaa

/-- The number of some bytes, the greatest one first. -/
def be (l : List UInt8) : Nat := l.foldl (fun v b => v * 256 + b.toNat) 0
/-- The lowest n bytes of v, the greatest one first. -/
def eb : Nat → Nat → List UInt8
  | 0, _ => []
  | n + 1, v => eb n (v / 256) ++ [UInt8.ofNat (v % 256)]

theorem be_nil : be [] = 0 := rfl
theorem be_snoc (l : List UInt8) (b : UInt8) : be (l ++ [b]) = be l * 256 + b.toNat := by simp [be]
theorem eb_length (n : Nat) : ∀ v, (eb n v).length = n := by
  induction n with
  | zero => intro v; rfl
  | succ n ih => intro v; simp [eb, ih]
theorem be_lt (l : List UInt8) : be l < 256 ^ l.length := by
  suffices h : ∀ (k : Nat) (l : List UInt8), l.length = k → be l < 256 ^ k from h _ l rfl
  intro k
  induction k with
  | zero => intro l h; obtain rfl : l = [] := List.length_eq_zero_iff.1 h; simp [be]
  | succ k ih =>
    intro l h
    have hne : l ≠ [] := by intro e; subst e; simp at h
    obtain ⟨l', b, rfl⟩ : ∃ l' b, l = l' ++ [b] := ⟨l.dropLast, l.getLast hne, (List.dropLast_concat_getLast hne).symm⟩
    have hl : l'.length = k := by simp at h; exact h
    have := ih l' hl
    have hb := b.toNat_lt
    rw [be_snoc, Nat.pow_succ]
    omega
theorem be_eb (n : Nat) : ∀ v, be (eb n v) = v % 256 ^ n := by
  induction n with
  | zero => intro v; simp [eb, be, Nat.mod_one]
  | succ n ih =>
    intro v
    rw [eb, be_snoc, ih]
    have h1 : (UInt8.ofNat (v % 256)).toNat = v % 256 := by simp
    rw [h1, Nat.pow_succ, Nat.mul_comm (256 ^ n) 256, Nat.mod_mul]
    omega
theorem be_inj : ∀ (l m : List UInt8), l.length = m.length → be l = be m → l = m := by
  suffices h : ∀ (k : Nat) (l m : List UInt8), l.length = k → m.length = k → be l = be m → l = m from fun l m h1 h2 => h _ l m h1 rfl h2
  intro k
  induction k with
  | zero => intro l m h1 h2 _; rw [List.length_eq_zero_iff.1 h1, List.length_eq_zero_iff.1 h2]
  | succ k ih =>
    intro l m h1 h2 h
    have hne : l ≠ [] := by intro e; subst e; simp at h1
    have hnf : m ≠ [] := by intro e; subst e; simp at h2
    obtain ⟨l', b, rfl⟩ : ∃ l' b, l = l' ++ [b] := ⟨l.dropLast, l.getLast hne, (List.dropLast_concat_getLast hne).symm⟩
    obtain ⟨m', c, rfl⟩ : ∃ m' c, m = m' ++ [c] := ⟨m.dropLast, m.getLast hnf, (List.dropLast_concat_getLast hnf).symm⟩
    rw [be_snoc, be_snoc] at h
    have hb := b.toNat_lt
    have hc := c.toNat_lt
    have e1 : be l' = be m' := by omega
    have e2 : b.toNat = c.toNat := by omega
    rw [ih l' m' (by simp at h1; exact h1) (by simp at h2; exact h2) e1, UInt8.toNat_inj.1 e2]
theorem eb_be (l : List UInt8) : eb l.length (be l) = l :=
  be_inj _ _ (eb_length _ _) (by rw [be_eb, Nat.mod_eq_of_lt (be_lt l)])
theorem be_append (l m : List UInt8) : be (l ++ m) = be l * 256 ^ m.length + be m := by
  suffices h : ∀ (k : Nat) (m : List UInt8), m.length = k → be (l ++ m) = be l * 256 ^ k + be m from h _ m rfl
  intro k
  induction k with
  | zero => intro m h; rw [List.length_eq_zero_iff.1 h]; simp [be]
  | succ k ih =>
    intro m h
    have hne : m ≠ [] := by intro e; subst e; simp at h
    obtain ⟨m', b, rfl⟩ : ∃ l' b, m = l' ++ [b] := ⟨m.dropLast, m.getLast hne, (List.dropLast_concat_getLast hne).symm⟩
    rw [← List.append_assoc, be_snoc, be_snoc, ih m' (by simp at h; exact h), Nat.pow_succ]
    simp only [Nat.add_mul, Nat.mul_assoc]
    omega
theorem eb_mod (n : Nat) (v : Nat) : eb n (v % 256 ^ n) = eb n v :=
  be_inj _ _ (by rw [eb_length, eb_length]) (by rw [be_eb, be_eb, Nat.mod_mod])
theorem eb_add (n m v : Nat) : eb (n + m) v = eb n (v / 256 ^ m) ++ eb m v := by
  refine be_inj _ _ (by simp [eb_length]) ?_
  rw [be_append, be_eb, be_eb, be_eb, eb_length, Nat.add_comm n m, Nat.pow_add, Nat.mod_mul]
  rw [Nat.mul_comm, Nat.add_comm]
theorem eb_inj {n v w : Nat} (h : eb n v = eb n w) : v % 256 ^ n = w % 256 ^ n := by rw [← be_eb, ← be_eb, h]
/-- A part of a number's bytes. -/
theorem eb_part (n v at' k : Nat) (h : at' + k ≤ n) : ((eb n v).drop at').take k = eb k (v / 256 ^ (n - at' - k)) := by
  obtain ⟨r, rfl⟩ : ∃ r, n = at' + (k + r) := ⟨n - at' - k, by omega⟩
  have hr : at' + (k + r) - at' - k = r := by omega
  rw [hr, eb_add, eb_add k r, List.drop_append_of_le_length (by rw [eb_length]; exact Nat.le_refl _)]
  have hd : (eb at' (v / 256 ^ (k + r))).drop at' = [] := List.drop_of_length_le (by rw [eb_length]; exact Nat.le_refl _)
  rw [hd, List.nil_append, List.take_append_of_le_length (by rw [eb_length]; exact Nat.le_refl _), List.take_of_length_le (by rw [eb_length]; exact Nat.le_refl _)]
/-- One byte of a number. -/
theorem eb_get (n v i : Nat) (h : i < n) : (eb n v)[i]'(by rw [eb_length]; exact h) = UInt8.ofNat (v / 256 ^ (n - 1 - i) % 256) := by
  have hp := eb_part n v i 1 (by omega)
  have e : n - i - 1 = n - 1 - i := by omega
  rw [e] at hp
  have hl : i < (eb n v).length := by rw [eb_length]; exact h
  rw [List.drop_eq_getElem_cons hl, List.take_succ_cons, List.take_zero] at hp
  have h1 := (List.cons.inj hp).1
  rw [h1]
end Go.Proofs.Ytjfijllnmjajpaa
