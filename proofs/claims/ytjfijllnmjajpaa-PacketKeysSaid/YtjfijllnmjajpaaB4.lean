/- plain: laws of what ip4.Parse and ip4.Put answer. -/
import Derived.Test.YtjfijllnmjajpaaU4
import Derived.Test.YtjfijllnmjajpaaB6
import Derived.Test.YtjfijllnmjajpaaX4
namespace Go.Proofs.Ytjfijllnmjajpaa

theorem p4_none {s : ByteArray} (h : p4E s ≠ 0) : p4S s = ⟨#[]⟩ ∧ p4D s = ⟨#[]⟩ ∧ p4P s = 0 ∧ p4R s = ⟨#[]⟩ := by
  unfold p4S p4D p4P p4R
  rw [if_neg h, if_neg h, if_neg h, if_neg h]
  exact ⟨rfl, rfl, rfl, rfl⟩
theorem p4_some {s : ByteArray} (h : p4E s = 0) : p4S s = s.extract 12 16 ∧ p4D s = s.extract 16 20 ∧ p4P s = (byteN s 9 : Int) ∧ p4R s = s.extract (z4 s) (getV s 2 2).toNat := by
  unfold p4S p4D p4P p4R
  rw [if_pos h, if_pos h, if_pos h, if_pos h]
  exact ⟨rfl, rfl, rfl, rfl⟩
theorem c4_iff (s : ByteArray) : c4 s = false ↔ 20 ≤ z4 s ∧ z4 s ≤ s.size ∧ (z4 s : Int) ≤ getV s 2 2 ∧ getV s 2 2 ≤ (s.size : Int) := by
  unfold c4
  generalize z4 s = z
  generalize getV s 2 2 = L
  simp only [Bool.or_eq_false_iff, decide_eq_false_iff_not]
  omega
theorem p4E_iff (s : ByteArray) : p4E s = 0 ↔ 20 ≤ s.size ∧ byteN s 0 / 16 = 4 ∧ c4 s = false ∧ goodS (s.extract 0 (z4 s)).data.toList = true ∧ getV s 6 2 % 16384 = 0 := by
  unfold p4E
  generalize goodS (s.extract 0 (z4 s)).data.toList = g
  generalize c4 s = c
  generalize getV s 6 2 % 16384 = m
  generalize byteN s 0 / 16 = v
  by_cases h1 : s.size < 20
  · rw [if_pos h1]
    exact ⟨fun h => absurd h (by decide), fun h => absurd h1 (by omega)⟩
  · rw [if_neg h1]
    by_cases h2 : v = 4
    · rw [if_neg (by omega)]
      cases c with
      | true => simp
      | false =>
        cases g with
        | false => simp
        | true =>
          by_cases h3 : m = 0
          · simp [h3, h2]; omega
          · simp [h3]
    · rw [if_pos h2]
      exact ⟨fun h => absurd h (by decide), fun h => absurd h.2.1 h2⟩

/-- What the walk of ip4.Parse finds is p4E. -/
theorem f4_eq (s : ByteArray) : f4 s (getV s 0 1 % 16 * 4).toNat (getV s 2 2) = p4E s := by
  by_cases h1 : s.size < 20
  · unfold f4 p4E
    rw [if_pos h1, if_pos (by simpa using h1)]
  · have hv : getV s 0 1 = (byteN s 0 : Int) := getV_byte s 0 (by omega)
    have hz : (getV s 0 1 % 16 * 4).toNat = z4 s := by rw [hv]; unfold z4; omega
    rw [hz]
    unfold f4 p4E
    rw [if_neg h1, if_neg (by simpa using h1)]
    have hd : (getV s 0 1 / 16 != 4) = decide (byteN s 0 / 16 ≠ 4) := by
      rw [hv, Bool.eq_iff_iff]; simp; omega
    rw [hd]
    have hc : (decide (z4 s < 20) || decide (s.size < z4 s) || decide (getV s 2 2 < (z4 s : Int)) || decide ((s.size : Int) < getV s 2 2)) = c4 s := rfl
    rw [hc]
    have hm : (getV s 6 2 % 16384 != 0) = decide (getV s 6 2 % 16384 ≠ 0) := by
      rw [Bool.eq_iff_iff]; simp
    rw [hm]
    generalize goodS (s.extract 0 (z4 s)).data.toList = g
    cases g <;> simp

theorem u4E_iff (a b : ByteArray) (p : Int) (r : ByteArray) : u4E a b p r = 0 ↔ a.size = 4 ∧ b.size = 4 ∧ 0 ≤ p ∧ p ≤ 255 ∧ r.size ≤ 65515 := by
  unfold u4E
  cases h : u4Bad a b p with
  | true =>
    simp only [if_true]
    refine ⟨fun h => absurd h (by decide), fun ⟨h1, h2, h3, h4, _⟩ => ?_⟩
    simp only [u4Bad, Bool.or_eq_true, bne_iff_ne, decide_eq_true_eq] at h
    omega
  | false =>
    simp only [u4Bad, Bool.or_eq_false_iff, bne_eq_false_iff_eq, decide_eq_false_iff_not] at h
    by_cases h5 : 65515 < r.size
    · simp [h5]
    · simp [h5]; omega

theorem u4S_size {a b : ByteArray} {p : Int} {r : ByteArray} (h : u4E a b p r = 0) : (u4S a b p r).size = 20 + r.size := by
  obtain ⟨ha, hb, _⟩ := (u4E_iff a b p r).1 h
  unfold u4S
  rw [if_pos h, ByteArray.size_append, hd4_size p r _ ha hb]

theorem eb2_pair (v : Nat) : eb 2 v = [UInt8.ofNat (v / 256 % 256), UInt8.ofNat (v % 256)] := rfl

/-- A head's bytes. -/
theorem hd4_list {a b : ByteArray} {p : Int} {r : ByteArray} (_hp0 : 0 ≤ p) (o : Int) (_ho : 0 ≤ o) :
    (hd4 a b p r o).data.toList = [69, 0] ++ eb 2 (20 + r.size) ++ [0, 0, 64, 0, 64, UInt8.ofNat p.toNat] ++ eb 2 o.toNat ++ (a.data.toList ++ b.data.toList) := by
  have e1 : (putS (20 + (r.size : Int)) 2).data.toList = eb 2 (20 + r.size) := by
    rw [putS_yes (by omega)]
    show eb 2 (20 + (r.size : Int)).toNat = _
    rw [show (20 + (r.size : Int)).toNat = 20 + r.size by omega]
  have e2 : (putS p 1).data.toList = [UInt8.ofNat p.toNat] := by
    rw [putS_yes (by omega)]
    simp [eb]
    apply UInt8.toNat_inj.1
    simp
  have e3 : (putS o 2).data.toList = eb 2 o.toNat := by
    rw [putS_yes (by omega)]; rfl
  simp only [hd4, ba_app, e1, e2, e3, List.append_assoc]
  rfl

/-- A head with its own sum is good. -/
theorem own4_good {a b : ByteArray} {p : Int} {r : ByteArray} (h : u4E a b p r = 0) : goodS (hd4 a b p r (own4 a b p r)).data.toList = true := by
  obtain ⟨ha, hb, hp0, hp1, hr⟩ := (u4E_iff a b p r).1 h
  have hw : ∀ o : Int, 0 ≤ o → o ≤ 65535 → wsum (hd4 a b p r o).data.toList = wsum ([69, 0] ++ eb 2 (20 + r.size) ++ [0, 0, 64, 0, 64, UInt8.ofNat p.toNat]) + o.toNat + wsum (a.data.toList ++ b.data.toList) := by
    intro o h0 h1
    rw [hd4_list hp0 o h0, wsum_append _ _ (by simp [eb_length]), wsum_append _ _ (by simp [eb_length]), wsum_two o.toNat (by omega)]
  have hb' := own4_bd a b p r
  have h0 := hw 0 (by omega) (by omega)
  have h1 := hw (own4 a b p r) hb'.1 hb'.2
  unfold goodS foldS
  rw [h1]
  have ho : own4 a b p r = 65535 - ((fold (wsum (hd4 a b p r 0).data.toList) : Nat) : Int) := rfl
  rw [h0] at ho
  generalize wsum ([69, 0] ++ eb 2 (20 + r.size) ++ [0, 0, 64, 0, 64, UInt8.ofNat p.toNat]) = x at *
  generalize wsum (a.data.toList ++ b.data.toList) = y at *
  rw [ho]
  have hf := fold_le (x + (0 : Int).toNat + y)
  simp only [beq_iff_eq]
  generalize hq : fold (x + (0 : Int).toNat + y) = q at *
  have e0 : (0 : Int).toNat = 0 := rfl
  rw [e0] at hq
  have e1 : (65535 - (q : Int)).toNat = 65535 - q := by omega
  rw [e1, fold_full]
  unfold fold at hq
  split at hq <;> omega

/-- The bytes of a head and what it holds, and what stands behind, part by part. -/
theorem put4_parts (a b : ByteArray) (p : Int) (r t : ByteArray) (h : u4E a b p r = 0) (s : ByteArray) (hs : s = u4S a b p r ++ t) :
    s.size = 20 + r.size + t.size ∧ byteN s 0 = 69 ∧ getV s 2 2 = 20 + (r.size : Int) ∧ s.extract 0 20 = hd4 a b p r (own4 a b p r) ∧ getV s 6 2 = 16384 ∧ (byteN s 9 : Int) = p ∧
      s.extract 12 16 = a ∧ s.extract 16 20 = b ∧ s.extract 20 (20 + r.size) = r := by
  obtain ⟨ha, hb, hp0, hp1, hr⟩ := (u4E_iff a b p r).1 h
  have hz := hd4_size p r (own4 a b p r) ha hb
  have hS : u4S a b p r = hd4 a b p r (own4 a b p r) ++ r := by unfold u4S; rw [if_pos h]
  have hsz : s.size = 20 + r.size + t.size := by rw [hs, hS, ByteArray.size_append, ByteArray.size_append, hz]
  have hob := own4_bd a b p r
  have hH := hd4_list (a := a) (b := b) (p := p) (r := r) hp0 (own4 a b p r) hob.1
  have hE : s.extract 0 20 = hd4 a b p r (own4 a b p r) := by
    rw [hs, hS, ByteArray.append_assoc, extract_app _ _ _ _ (by omega)]
    apply ba_ext
    rw [ba_extract, List.drop_zero, List.take_of_length_le (by rw [ba_len]; omega)]
  obtain ⟨u, v, huv⟩ : ∃ u v, eb 2 (own4 a b p r).toNat = [u, v] := ⟨_, _, eb2_pair _⟩
  obtain ⟨x, y, hxy⟩ : ∃ x y, eb 2 (20 + r.size) = [x, y] := ⟨_, _, eb2_pair _⟩
  have hL : s.data.toList = 69 :: 0 :: x :: y :: 0 :: 0 :: 64 :: 0 :: 64 :: UInt8.ofNat p.toNat :: u :: v :: (a.data.toList ++ (b.data.toList ++ (r.data.toList ++ t.data.toList))) := by
    rw [hs, hS, ba_app, ba_app, hH, huv, hxy]
    simp [List.append_assoc]
  have la := ba_len a
  have lb := ba_len b
  have lr := ba_len r
  have g2 : getV s 2 2 = 20 + (r.size : Int) := by
    have hg : getB s ((2 : Nat) : Int) ((2 : Nat) : Int) = true := by rw [getB_iff]; omega
    have := getV_of hg
    have e : (s.data.toList.drop 2).take 2 = eb 2 (20 + r.size) := by rw [hL, hxy]; rfl
    rw [e, be_eb] at this
    simp at this
    rw [this]
    omega
  have g6 : getV s 6 2 = 16384 := by
    have hg : getB s ((6 : Nat) : Int) ((2 : Nat) : Int) = true := by rw [getB_iff]; omega
    have := getV_of hg
    have e : (s.data.toList.drop 6).take 2 = [64, 0] := by rw [hL]; rfl
    rw [e] at this
    exact this.trans rfl
  have b0 : byteN s 0 = 69 := by unfold byteN; rw [hL]; rfl
  have b9 : (byteN s 9 : Int) = p := by
    unfold byteN; rw [hL]
    show ((UInt8.ofNat p.toNat).toNat : Int) = p
    simp; omega
  refine ⟨hsz, b0, g2, hE, g6, b9, ?_, ?_, ?_⟩
  · apply ba_ext
    rw [ba_extract, hL]
    simp [la, ha]
  · apply ba_ext
    rw [ba_extract, hL]
    simp [List.take_append, la, ha, lb, hb]
  · apply ba_ext
    rw [ba_extract, hL, List.drop_take, show 20 + r.size - 20 = r.size by omega, ← lr]
    have hd : List.drop 20 (69 :: 0 :: x :: y :: 0 :: 0 :: 64 :: 0 :: 64 :: UInt8.ofNat p.toNat :: u :: v :: (a.data.toList ++ (b.data.toList ++ (r.data.toList ++ t.data.toList)))) = r.data.toList ++ t.data.toList := by
      simp [List.drop_append, la, ha, lb, hb]
    rw [hd, List.take_left]

theorem back4 (a b : ByteArray) (p : Int) (r t : ByteArray) (h : u4E a b p r = 0) :
    p4E (u4S a b p r ++ t) = 0 ∧ p4S (u4S a b p r ++ t) = a ∧ p4D (u4S a b p r ++ t) = b ∧ p4P (u4S a b p r ++ t) = p ∧ p4R (u4S a b p r ++ t) = r ∧ goodS ((u4S a b p r).extract 0 20).data.toList = true := by
  obtain ⟨s, hs⟩ : ∃ s, s = u4S a b p r ++ t := ⟨_, rfl⟩
  obtain ⟨hsz, b0, g2, hE, g6, b9, e1, e2, e3⟩ := put4_parts a b p r t h s hs
  have hS := u4S_size h
  have hg := own4_good h
  have hcut : (u4S a b p r).extract 0 20 = s.extract 0 20 := by rw [hs, extract_app _ _ _ _ (by omega)]
  have hz : z4 s = 20 := by unfold z4; rw [b0]
  rw [← hs]
  have hP : p4E s = 0 := by
    rw [p4E_iff, c4_iff, hz, b0, g2, g6, hE]
    refine ⟨by omega, by decide, ⟨by omega, by omega, by omega, by omega⟩, hg, by decide⟩
  obtain ⟨k1, k2, k3, k4⟩ := p4_some hP
  refine ⟨hP, k1.trans e1, k2.trans e2, k3.trans b9, ?_, ?_⟩
  · rw [k4, hz, g2, show (20 + (r.size : Int)).toNat = 20 + r.size by omega, e3]
  · rw [hcut, hE]; exact hg

/-- What stands behind makes no difference. -/
theorem behind4 (s t : ByteArray) (h : p4E s = 0) : p4E (s ++ t) = 0 ∧ p4S (s ++ t) = p4S s ∧ p4D (s ++ t) = p4D s ∧ p4P (s ++ t) = p4P s ∧ p4R (s ++ t) = p4R s := by
  obtain ⟨h1, h2, h3, h4, h5⟩ := (p4E_iff s).1 h
  obtain ⟨c1, c2, c3, c4'⟩ := (c4_iff s).1 h3
  have v2 : getV (s ++ t) 2 2 = getV s 2 2 := getV_app s t 2 2 (by omega) (by omega)
  have v6 : getV (s ++ t) 6 2 = getV s 6 2 := getV_app s t 6 2 (by omega) (by omega)
  have hz : z4 (s ++ t) = z4 s := by unfold z4; rw [byteN_app _ _ _ (by omega)]
  have hE : p4E (s ++ t) = 0 := by
    rw [p4E_iff, c4_iff, hz, v2, v6, byteN_app _ _ _ (by omega), ByteArray.size_append, extract_app _ _ _ _ c2]
    refine ⟨by omega, h2, ⟨c1, by omega, c3, by omega⟩, h4, h5⟩
  obtain ⟨k1, k2, k3, k4⟩ := p4_some h
  obtain ⟨m1, m2, m3, m4⟩ := p4_some hE
  refine ⟨hE, ?_, ?_, ?_, ?_⟩
  · rw [m1, k1, extract_app _ _ _ _ (by omega)]
  · rw [m2, k2, extract_app _ _ _ _ (by omega)]
  · rw [m3, k3, byteN_app _ _ _ (by omega)]
  · rw [m4, k4, hz, v2, extract_app _ _ _ _ (by omega)]

/-- What is parsed can be put. -/
theorem held4 (s : ByteArray) (h : p4E s = 0) : (p4S s).size = 4 ∧ (p4D s).size = 4 ∧ 0 ≤ p4P s ∧ p4P s ≤ 255 ∧ (p4R s).size + 20 ≤ s.size ∧ u4E (p4S s) (p4D s) (p4P s) (p4R s) = 0 := by
  obtain ⟨h1, h2, h3, h4, h5⟩ := (p4E_iff s).1 h
  obtain ⟨c1, c2, c3, c4'⟩ := (c4_iff s).1 h3
  have hvb := getV2_bd s 2
  obtain ⟨k1, k2, k3, k4⟩ := p4_some h
  have hb := byteN_lt s 9
  have a1 : (p4S s).size = 4 := by rw [k1, ByteArray.size_extract]; omega
  have a2 : (p4D s).size = 4 := by rw [k2, ByteArray.size_extract]; omega
  clear h2 h3 h4 h5
  generalize z4 s = z at *
  generalize getV s 2 2 = L at *
  have a3 : (p4R s).size + 20 ≤ s.size := by rw [k4, ByteArray.size_extract]; omega
  have a4 : (p4R s).size ≤ 65515 := by rw [k4, ByteArray.size_extract]; omega
  refine ⟨a1, a2, by omega, by omega, a3, (u4E_iff _ _ _ _).2 ⟨a1, a2, by omega, by omega, a4⟩⟩

/-- What is cut is refused. -/
theorem cut4 (a b : ByteArray) (p : Int) (r : ByteArray) (h : u4E a b p r = 0) (n : Nat) (hn : n < 20 + r.size) : p4E ((u4S a b p r).extract 0 n) = if n < 20 then 2 else 4 := by
  have hsz := u4S_size h
  have hcs : ((u4S a b p r).extract 0 n).size = n := by rw [ByteArray.size_extract]; omega
  split
  · rename_i hlt
    unfold p4E
    rw [hcs, if_pos hlt]
  · rename_i hlt
    obtain ⟨z, hz⟩ : ∃ z, z = u4S a b p r := ⟨_, rfl⟩
    obtain ⟨_, b0, g2, _⟩ := put4_parts a b p r ⟨#[]⟩ h z (by rw [hz]; exact ByteArray.append_empty.symm)
    rw [← hz] at hcs hsz ⊢
    have hsplit : z = z.extract 0 n ++ z.extract n z.size := by
      apply ba_ext
      rw [ba_app, ba_extract, ba_extract, List.drop_zero, ← ba_len z, List.take_length, List.take_append_drop]
    have hv : getV (z.extract 0 n) 2 2 = 20 + (r.size : Int) := by
      rw [← g2]
      have := getV_app (z.extract 0 n) (z.extract n z.size) 2 2 (by omega) (by omega)
      rw [← hsplit] at this
      exact this.symm
    have hb : byteN (z.extract 0 n) 0 = 69 := by
      rw [← b0]
      have := byteN_app (z.extract 0 n) (z.extract n z.size) 0 (by omega)
      rw [← hsplit] at this
      exact this.symm
    have hc : c4 (z.extract 0 n) = true := by
      cases hcc : c4 (z.extract 0 n) with
      | true => rfl
      | false =>
        have := (c4_iff _).1 hcc
        rw [hv, hcs] at this
        omega
    unfold p4E
    rw [hcs, if_neg hlt, hb, if_neg (by decide), if_pos hc]
end Go.Proofs.Ytjfijllnmjajpaa
