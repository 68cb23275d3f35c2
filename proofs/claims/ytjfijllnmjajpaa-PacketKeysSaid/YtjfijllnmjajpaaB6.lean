/- plain: what ip6.Put puts, ip6.Parse parses. -/
import Derived.Test.YtjfijllnmjajpaaU6
namespace Go.Proofs.Ytjfijllnmjajpaa

theorem ba_ext {s t : ByteArray} (h : s.data.toList = t.data.toList) : s = t := by
  apply ByteArray.ext
  exact Array.toList_inj.1 h
theorem ba_len (s : ByteArray) : s.data.toList.length = s.size := by rw [Array.length_toList]; rfl
theorem ba_extract (s : ByteArray) (i j : Nat) : (s.extract i j).data.toList = (s.data.toList.take j).drop i := by
  simp [ByteArray.data_extract, List.drop_take]
theorem ba_app (s t : ByteArray) : (s ++ t).data.toList = s.data.toList ++ t.data.toList := by simp [ByteArray.data_append]

theorem p6_none {s : ByteArray} (h : p6E s ≠ 0) : p6S s = ⟨#[]⟩ ∧ p6D s = ⟨#[]⟩ ∧ p6P s = 0 ∧ p6R s = ⟨#[]⟩ := by
  simp [p6S, p6D, p6P, p6R, h]
theorem p6_some {s : ByteArray} (h : p6E s = 0) : p6S s = s.extract 8 24 ∧ p6D s = s.extract 24 40 ∧ p6P s = (byteN s 6 : Int) ∧ p6R s = s.extract 40 (40 + (getV s 4 2).toNat) := by
  simp [p6S, p6D, p6P, p6R, h]
theorem p6E_iff (s : ByteArray) : p6E s = 0 ↔ 40 ≤ s.size ∧ byteN s 0 / 16 = 6 ∧ getV s 4 2 ≤ (s.size : Int) - 40 := by
  unfold p6E
  split
  · constructor
    · intro h; cases h
    · intro h; omega
  · split
    · constructor
      · intro h; cases h
      · intro h; omega
    · split
      · constructor
        · intro h; cases h
        · intro h; omega
      · constructor
        · intro _; omega
        · intro _; rfl
theorem p6E_mem (s : ByteArray) : p6E s = 0 ∨ p6E s = 2 ∨ p6E s = 3 ∨ p6E s = 4 := by
  unfold p6E; split <;> try (split <;> try split)
  all_goals simp

theorem u6E_iff (a b : ByteArray) (p : Int) (r : ByteArray) : u6E a b p r = 0 ↔ a.size = 16 ∧ b.size = 16 ∧ 0 ≤ p ∧ p ≤ 255 ∧ r.size ≤ 65535 := by
  unfold u6E
  cases h : u6Bad a b p with
  | true =>
    simp only [if_true]
    constructor
    · intro h; cases h
    · intro g
      simp only [u6Bad, Bool.or_eq_true, bne_iff_ne, decide_eq_true_eq] at h
      omega
  | false =>
    simp only [u6Bad, Bool.or_eq_false_iff, bne_eq_false_iff_eq, decide_eq_false_iff_not] at h
    simp only [Bool.false_eq_true, if_false]
    split
    · constructor
      · intro h; cases h
      · intro h; omega
    · constructor
      · intro _; omega
      · intro _; rfl

theorem put6_len (a b : ByteArray) (p : Int) (r : ByteArray) (ha : a.size = 16) (hb : b.size = 16) : (put6 a b p r).length = 40 + r.size := by
  have h1 : (putS (r.size : Int) 2).size = 2 := by have := putS_size (r.size : Int) 2; simp at this; omega
  have h2 : (putS p 1).size = 1 := by have := putS_size p 1; simp at this; omega
  simp only [put6, List.length_append, ba_len, List.length_cons, List.length_nil]
  omega
theorem u6S_size {a b : ByteArray} {p : Int} {r : ByteArray} (h : u6E a b p r = 0) : (u6S a b p r).size = 40 + r.size := by
  have h' := (u6E_iff a b p r).1 h
  rw [← ba_len]
  simp only [u6S, h, if_true]
  exact put6_len a b p r h'.1 h'.2.1

/-- The bytes of a head and what it holds, and what stands behind, part by part. -/
theorem put6_parts (a b : ByteArray) (p : Int) (r : ByteArray) (h : u6E a b p r = 0) (t : List UInt8) (L : List UInt8) (hL : L = put6 a b p r ++ t) :
    L.getD 0 0 = 96 ∧ (L.drop 4).take 2 = eb 2 r.size ∧ L.getD 6 0 = UInt8.ofNat p.toNat ∧ (L.take 24).drop 8 = a.data.toList ∧ (L.take 40).drop 24 = b.data.toList ∧ (L.take (40 + r.size)).drop 40 = r.data.toList := by
  obtain ⟨ha, hb, hp0, hp1, hr⟩ := (u6E_iff a b p r).1 h
  have e1 : (putS (r.size : Int) 2).data.toList = eb 2 r.size := by rw [putS_yes (by omega)]; simp
  have e2 : (putS p 1).data.toList = [UInt8.ofNat p.toNat] := by
    rw [putS_yes (by omega)]
    simp [eb]
    apply UInt8.toNat_inj.1
    simp
  have l2 : (eb 2 r.size).length = 2 := eb_length _ _
  obtain ⟨x, y, hxy⟩ : ∃ x y, eb 2 r.size = [x, y] := by
    match h : eb 2 r.size, l2 with
    | [x, y], _ => exact ⟨x, y, rfl⟩
  have la := ba_len a
  have lb := ba_len b
  have lr := ba_len r
  rw [put6, e1, e2, hxy] at hL
  rw [hxy]
  simp only [List.cons_append, List.nil_append, List.append_assoc] at hL
  generalize a.data.toList = A at *
  generalize b.data.toList = B at *
  generalize r.data.toList = R at *
  subst hL
  refine ⟨rfl, rfl, rfl, ?_, ?_, ?_⟩
  · simp [la, ha]
  · simp [List.take_append, la, ha, lb, hb]
  · rw [List.drop_take, show 40 + r.size - 40 = r.size by omega, ← lr]
    have hd : List.drop 40 (96 :: 0 :: 0 :: 0 :: x :: y :: UInt8.ofNat p.toNat :: 64 :: (A ++ (B ++ (R ++ t)))) = R ++ t := by
      simp [List.drop_append, la, ha, lb, hb]
    rw [hd, List.take_left]

theorem getV_of {s : ByteArray} {p n : Nat} (h : getB s p n = true) : getV s p n = ((be ((s.data.toList.drop p).take n) : Nat) : Int) := by
  rw [getV_yes h]; simp

theorem back6 (a b : ByteArray) (p : Int) (r t : ByteArray) (h : u6E a b p r = 0) :
    p6E (u6S a b p r ++ t) = 0 ∧ p6S (u6S a b p r ++ t) = a ∧ p6D (u6S a b p r ++ t) = b ∧ p6P (u6S a b p r ++ t) = p ∧ p6R (u6S a b p r ++ t) = r := by
  obtain ⟨ha, hb, hp0, hp1, hr⟩ := (u6E_iff a b p r).1 h
  obtain ⟨s, hs⟩ : ∃ s, s = u6S a b p r ++ t := ⟨_, rfl⟩
  have hL : s.data.toList = put6 a b p r ++ t.data.toList := by
    rw [hs, ba_app]
    simp [u6S, h]
  have hsz : s.size = 40 + r.size + t.size := by
    rw [hs, ByteArray.size_append, u6S_size h]
  obtain ⟨q0, q1, q2, q3, q4, q5⟩ := put6_parts a b p r h _ _ hL
  rw [← hs]
  have hv : getV s 4 2 = (r.size : Int) := by
    have hg : getB s ((4 : Nat) : Int) ((2 : Nat) : Int) = true := by rw [getB_iff]; omega
    have := getV_of hg
    rw [q1, be_eb] at this
    simp at this
    rw [this]
    omega
  have hb0 : byteN s 0 = 96 := by unfold byteN; rw [q0]; rfl
  have hb6 : (byteN s 6 : Int) = p := by unfold byteN; rw [q2]; simp; omega
  have hE : p6E s = 0 := by rw [p6E_iff, hb0, hv]; omega
  obtain ⟨k1, k2, k3, k4⟩ := p6_some hE
  refine ⟨hE, ?_, ?_, ?_, ?_⟩
  · rw [k1]; exact ba_ext (by rw [ba_extract, q3])
  · rw [k2]; exact ba_ext (by rw [ba_extract, q4])
  · rw [k3, hb6]
  · rw [k4, hv, Int.toNat_natCast]; exact ba_ext (by rw [ba_extract, q5])

theorem getV_app (s t : ByteArray) (p n : Nat) (h : p + n ≤ s.size) (hn : 1 ≤ n ∧ n ≤ 8) : getV (s ++ t) p n = getV s p n := by
  have h1 : getB s (p : Int) (n : Int) = true := by rw [getB_iff]; omega
  have h2 : getB (s ++ t) (p : Int) (n : Int) = true := by rw [getB_iff, ByteArray.size_append]; omega
  rw [getV_of h1, getV_of h2, ba_app]
  rw [List.drop_append_of_le_length (by rw [ba_len]; omega), List.take_append_of_le_length (by rw [List.length_drop, ba_len]; omega)]
theorem byteN_app (s t : ByteArray) (i : Nat) (h : i < s.size) : byteN (s ++ t) i = byteN s i := by
  unfold byteN
  rw [ba_app, List.getD_eq_getElem?_getD, List.getD_eq_getElem?_getD, List.getElem?_append_left (by rw [ba_len]; exact h)]
theorem extract_app (s t : ByteArray) (i j : Nat) (h : j ≤ s.size) : (s ++ t).extract i j = s.extract i j := by
  apply ba_ext
  rw [ba_extract, ba_extract, ba_app, List.take_append_of_le_length (by rw [ba_len]; omega)]

/-- What stands behind makes no difference. -/
theorem behind6 (s t : ByteArray) (h : p6E s = 0) : p6E (s ++ t) = 0 ∧ p6S (s ++ t) = p6S s ∧ p6D (s ++ t) = p6D s ∧ p6P (s ++ t) = p6P s ∧ p6R (s ++ t) = p6R s := by
  obtain ⟨h1, h2, h3⟩ := (p6E_iff s).1 h
  have hv : getV (s ++ t) 4 2 = getV s 4 2 := getV_app s t 4 2 (by omega) (by omega)
  have hvb := getV2_bd s 4
  have hE : p6E (s ++ t) = 0 := by
    rw [p6E_iff, hv, byteN_app _ _ _ (by omega), ByteArray.size_append]
    omega
  obtain ⟨k1, k2, k3, k4⟩ := p6_some h
  obtain ⟨m1, m2, m3, m4⟩ := p6_some hE
  refine ⟨hE, ?_, ?_, ?_, ?_⟩
  · rw [m1, k1, extract_app _ _ _ _ (by omega)]
  · rw [m2, k2, extract_app _ _ _ _ (by omega)]
  · rw [m3, k3, byteN_app _ _ _ (by omega)]
  · rw [m4, k4, hv, extract_app _ _ _ _ (by omega)]

/-- What is parsed can be put. -/
theorem held6 (s : ByteArray) (h : p6E s = 0) : (p6S s).size = 16 ∧ (p6D s).size = 16 ∧ 0 ≤ p6P s ∧ p6P s ≤ 255 ∧ (p6R s).size + 40 ≤ s.size ∧ u6E (p6S s) (p6D s) (p6P s) (p6R s) = 0 := by
  obtain ⟨h1, h2, h3⟩ := (p6E_iff s).1 h
  have hvb := getV2_bd s 4
  obtain ⟨k1, k2, k3, k4⟩ := p6_some h
  have hb := byteN_lt s 6
  have a1 : (p6S s).size = 16 := by rw [k1, ByteArray.size_extract]; omega
  have a2 : (p6D s).size = 16 := by rw [k2, ByteArray.size_extract]; omega
  have a3 : (p6R s).size + 40 ≤ s.size := by rw [k4, ByteArray.size_extract]; omega
  have a4 : (p6R s).size ≤ 65535 := by rw [k4, ByteArray.size_extract]; omega
  refine ⟨a1, a2, by omega, by omega, a3, (u6E_iff _ _ _ _).2 ⟨a1, a2, by omega, by omega, a4⟩⟩

/-- What is cut is refused. -/
theorem cut6 (a b : ByteArray) (p : Int) (r : ByteArray) (h : u6E a b p r = 0) (n : Nat) (hn : n < 40 + r.size) : p6E ((u6S a b p r).extract 0 n) = if n < 40 then 2 else 4 := by
  obtain ⟨ha, hb, hp0, hp1, hr⟩ := (u6E_iff a b p r).1 h
  have hsz := u6S_size h
  have hcs : ((u6S a b p r).extract 0 n).size = n := by rw [ByteArray.size_extract]; omega
  split
  · rename_i hlt
    simp [p6E, hcs, hlt]
  · rename_i hlt
    obtain ⟨z, hz⟩ : ∃ z, z = u6S a b p r := ⟨_, rfl⟩
    have hL : z.data.toList = put6 a b p r ++ [] := by simp [hz, u6S, h]
    obtain ⟨q0, q1, _⟩ := put6_parts a b p r h _ _ hL
    rw [← hz] at hcs hsz ⊢
    have hv0 : getV z 4 2 = (r.size : Int) := by
      have hg : getB z ((4 : Nat) : Int) ((2 : Nat) : Int) = true := by rw [getB_iff]; omega
      have := getV_of hg
      rw [q1, be_eb] at this
      simp at this
      rw [this]
      omega
    have hsplit : z = z.extract 0 n ++ z.extract n z.size := by
      apply ba_ext
      rw [ba_app, ba_extract, ba_extract, List.drop_zero, ← ba_len z, List.take_length, List.take_append_drop]
    have hv : getV (z.extract 0 n) 4 2 = (r.size : Int) := by
      rw [← hv0]
      have := getV_app (z.extract 0 n) (z.extract n z.size) 4 2 (by omega) (by omega)
      rw [← hsplit] at this
      exact this.symm
    have hb0 : byteN (z.extract 0 n) 0 = 96 := by
      have := byteN_app (z.extract 0 n) (z.extract n z.size) 0 (by omega)
      rw [← hsplit] at this
      rw [← this]
      unfold byteN; rw [q0]; rfl
    have c1 : ¬ (z.extract 0 n).size < 40 := by omega
    have c2 : ((z.extract 0 n).size : Int) - 40 < getV (z.extract 0 n) 4 2 := by rw [hv, hcs]; omega
    simp only [p6E, c1, if_false, hb0, c2, if_true]
    simp
end Go.Proofs.Ytjfijllnmjajpaa
