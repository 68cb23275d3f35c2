/- plain: laws of what packet.Parse, Put, Bytes and Of answer. -/
import Derived.Test.YtjfijllnmjajpaaSk
import Derived.Test.YtjfijllnmjajpaaB6
set_option linter.unusedSimpArgs false
namespace Go.Proofs.Ytjfijllnmjajpaa

theorem bR_iff' (v : Int) (a b : ByteArray) (f t p : Int) : bR v a b f t p = true ↔ ((v = 4 ∧ a.size = 4 ∧ b.size = 4) ∨ (v = 6 ∧ a.size = 16 ∧ b.size = 16)) ∧ 0 ≤ f ∧ f ≤ 65535 ∧ 0 ≤ t ∧ t ≤ 65535 ∧ (p = 6 ∨ p = 17) := by
  unfold bR inB
  simp only [Bool.and_eq_true_iff, Bool.or_eq_true_iff, decide_eq_true_eq, beq_iff_eq]
  omega

/-- When a packet is put. -/
theorem jE_iff (v : Int) (a b : ByteArray) (f t p g : Int) : jE v a b f t p g = 0 ↔ puE p f t g = 0 ∧ ((v = 4 ∧ u4E a b p (puS p f t g) = 0) ∨ (v = 6 ∧ u6E a b p (puS p f t g) = 0)) := by
  unfold jE
  by_cases h4 : v = 4
  · rw [if_pos (Or.inl h4), if_pos h4]
    by_cases h : puE p f t g = 0
    · rw [if_pos h]; simp [h, h4]
    · rw [if_neg h]; simp [h]
  · by_cases h6 : v = 6
    · rw [if_pos (Or.inr h6), if_neg h4]
      by_cases h : puE p f t g = 0
      · rw [if_pos h]; simp [h, h6]
      · rw [if_neg h]; simp [h]
    · rw [if_neg (by omega)]; simp [h4, h6]
theorem jS_none {v : Int} {a b : ByteArray} {f t p g : Int} (h : jE v a b f t p g ≠ 0) : jS v a b f t p g = ⟨#[]⟩ := by
  unfold jE at h
  unfold jS
  split
  · rename_i hv
    rw [if_pos hv] at h
    split
    · rename_i hp
      rw [if_pos hp] at h
      split
      · rename_i h4
        rw [if_pos h4] at h
        unfold u4S; rw [if_neg h]
      · rename_i h4
        rw [if_neg h4] at h
        unfold u6S; rw [if_neg h]
    · rfl
  · rfl
theorem jS_4 {a b : ByteArray} {f t p g : Int} (h : puE p f t g = 0) : jS 4 a b f t p g = u4S a b p (puS p f t g) := by
  unfold jS; rw [if_pos (Or.inl rfl), if_pos h, if_pos rfl]
theorem jS_6 {a b : ByteArray} {f t p g : Int} (h : puE p f t g = 0) : jS 6 a b f t p g = u6S a b p (puS p f t g) := by
  unfold jS; rw [if_pos (Or.inr rfl), if_pos h, if_neg (by decide)]

theorem puS_le' (k a b f : Int) : (puS k a b f).size ≤ 20 := by
  by_cases h : puE k a b f = 0
  · rw [puS_size h]; split <;> omega
  · rw [puS_none h]; exact Nat.zero_le _
theorem jS_le (v : Int) (a b : ByteArray) (f t p g : Int) : (jS v a b f t p g).size ≤ 60 := by
  have hp := puS_le' p f t g
  by_cases h : jE v a b f t p g = 0
  · obtain ⟨h1, ⟨rfl, h2⟩ | ⟨rfl, h2⟩⟩ := (jE_iff v a b f t p g).1 h
    · rw [jS_4 h1, u4S_size h2]; omega
    · rw [jS_6 h1, u6S_size h2]; omega
  · rw [jS_none h]; exact Nat.zero_le _

/-- A parsed text's parts, when nothing is wrong. -/
theorem k_some {s : ByteArray} (h : kE s = 0) : hE s = 0 ∧ ppE (hP s) (hR s) = 0 ∧ kV s = hV s ∧ kA s = hA s ∧ kB s = hB s ∧ kF s = ppA (hP s) (hR s) ∧ kT s = ppB (hP s) (hR s) ∧ kP s = hP s ∧ kG s = ppF (hP s) (hR s) := by
  have h1 : hE s = 0 := by
    unfold kE at h
    by_cases g : hE s = 0
    · exact g
    · rw [if_neg g] at h; exact h
  have h2 : ppE (hP s) (hR s) = 0 := by unfold kE at h; rw [if_pos h1] at h; exact h
  refine ⟨h1, h2, ?_, ?_, ?_, ?_, ?_, ?_, ?_⟩
  · unfold kV; rw [if_pos h]
  · unfold kA; rw [if_pos h]
  · unfold kB; rw [if_pos h]
  · unfold kF; rw [if_pos h]
  · unfold kT; rw [if_pos h]
  · unfold kP; rw [if_pos h]
  · unfold kG; rw [if_pos h]
theorem k_none {s : ByteArray} (h : kE s ≠ 0) : kV s = 0 ∧ kA s = ⟨#[]⟩ ∧ kB s = ⟨#[]⟩ ∧ kF s = 0 ∧ kT s = 0 ∧ kP s = 0 ∧ kG s = 0 := by
  unfold kV kA kB kF kT kP kG
  rw [if_neg h, if_neg h, if_neg h, if_neg h, if_neg h, if_neg h, if_neg h]
  exact ⟨rfl, rfl, rfl, rfl, rfl, rfl, rfl⟩
theorem k_four {s : ByteArray} (hs : s.size ≠ 0) (h : verN s = 4) : hE s = p4E s ∧ hV s = 4 ∧ hA s = p4S s ∧ hB s = p4D s ∧ hP s = p4P s ∧ hR s = p4R s := by
  unfold hE hV hA hB hP hR
  rw [if_neg hs, if_pos h, if_pos h, if_pos h, if_pos h, if_pos h, if_pos h]
  exact ⟨rfl, rfl, rfl, rfl, rfl, rfl⟩
theorem k_six {s : ByteArray} (hs : s.size ≠ 0) (h : verN s = 6) : hE s = p6E s ∧ hV s = 6 ∧ hA s = p6S s ∧ hB s = p6D s ∧ hP s = p6P s ∧ hR s = p6R s := by
  have h4 : ¬ verN s = 4 := by omega
  unfold hE hV hA hB hP hR
  rw [if_neg hs, if_neg h4, if_neg h4, if_neg h4, if_neg h4, if_neg h4, if_neg h4, if_pos h, if_pos h, if_pos h, if_pos h, if_pos h, if_pos h]
  exact ⟨rfl, rfl, rfl, rfl, rfl, rfl⟩
/-- Nothing is wrong with a head of either version alone. -/
theorem hE_zero {s : ByteArray} (h : hE s = 0) : s.size ≠ 0 ∧ ((verN s = 4 ∧ p4E s = 0) ∨ (verN s = 6 ∧ p6E s = 0)) := by
  unfold hE at h
  by_cases hs : s.size = 0
  · rw [if_pos hs] at h; exact absurd h (by decide)
  · rw [if_neg hs] at h
    refine ⟨hs, ?_⟩
    by_cases h4 : verN s = 4
    · rw [if_pos h4] at h; exact Or.inl ⟨h4, h⟩
    · rw [if_neg h4] at h
      by_cases h6 : verN s = 6
      · rw [if_pos h6] at h; exact Or.inr ⟨h6, h⟩
      · rw [if_neg h6] at h; exact absurd h (by decide)

/-- WHAT IS PUT IS PARSED. -/
theorem back7 (v : Int) (a b : ByteArray) (f t p g : Int) (z : ByteArray) (h : jE v a b f t p g = 0) :
    kE (jS v a b f t p g ++ z) = 0 ∧ kV (jS v a b f t p g ++ z) = v ∧ kA (jS v a b f t p g ++ z) = a ∧ kB (jS v a b f t p g ++ z) = b ∧ kF (jS v a b f t p g ++ z) = f ∧ kT (jS v a b f t p g ++ z) = t ∧ kP (jS v a b f t p g ++ z) = p ∧ kG (jS v a b f t p g ++ z) = g := by
  obtain ⟨hp, hv⟩ := (jE_iff v a b f t p g).1 h
  obtain ⟨q1, q2, q3, q4⟩ := back_p p f t g ⟨#[]⟩ hp
  have e0 : puS p f t g ++ ⟨#[]⟩ = puS p f t g := ByteArray.append_empty
  rw [e0] at q1 q2 q3 q4
  have key : ∀ s : ByteArray, s.size ≠ 0 → hE s = 0 → hV s = v → hA s = a → hB s = b → hP s = p → hR s = puS p f t g → kE s = 0 ∧ kV s = v ∧ kA s = a ∧ kB s = b ∧ kF s = f ∧ kT s = t ∧ kP s = p ∧ kG s = g := by
    intro s _ g1 g2 g3 g4 g5 g6
    have hk : kE s = 0 := by unfold kE; rw [if_pos g1, g5, g6]; exact q1
    obtain ⟨_, _, m1, m2, m3, m4, m5, m6, m7⟩ := k_some hk
    rw [g5, g6] at m4 m5 m7
    exact ⟨hk, m1.trans g2, m2.trans g3, m3.trans g4, m4.trans q2, m5.trans q3, m6.trans g5, m7.trans q4⟩
  rcases hv with ⟨rfl, hu⟩ | ⟨rfl, hu⟩
  · rw [jS_4 hp]
    obtain ⟨b1, b2, b3, b4, b5, _⟩ := back4 a b p (puS p f t g) z hu
    have hz := u4S_size hu
    have hs : (u4S a b p (puS p f t g) ++ z).size ≠ 0 := by rw [ByteArray.size_append]; omega
    have hver : verN (u4S a b p (puS p f t g) ++ z) = 4 := ((p4E_iff _).1 b1).2.1
    obtain ⟨c1, c2, c3, c4, c5, c6⟩ := k_four hs hver
    exact key _ hs (c1.trans b1) c2 (c3.trans b2) (c4.trans b3) (c5.trans b4) (c6.trans b5)
  · rw [jS_6 hp]
    obtain ⟨b1, b2, b3, b4, b5⟩ := back6 a b p (puS p f t g) z hu
    have hz := u6S_size hu
    have hs : (u6S a b p (puS p f t g) ++ z).size ≠ 0 := by rw [ByteArray.size_append]; omega
    have hver : verN (u6S a b p (puS p f t g) ++ z) = 6 := ((p6E_iff _).1 b1).2.1
    obtain ⟨c1, c2, c3, c4, c5, c6⟩ := k_six hs hver
    exact key _ hs (c1.trans b1) c2 (c3.trans b2) (c4.trans b3) (c5.trans b4) (c6.trans b5)

theorem right7 {v : Int} {a b : ByteArray} {f t p g : Int} (h : jE v a b f t p g = 0) : bR v a b f t p = true := by
  obtain ⟨hp, hv⟩ := (jE_iff v a b f t p g).1 h
  have h1 := (puE_iff p f t g).1 hp
  rw [bR_iff']
  rcases hv with ⟨rfl, hu⟩ | ⟨rfl, hu⟩
  · have := (u4E_iff a b p _).1 hu
    exact ⟨Or.inl ⟨rfl, this.1, this.2.1⟩, h1.2.1, h1.2.2.1, h1.2.2.2.1, h1.2.2.2.2.1, h1.1⟩
  · have := (u6E_iff a b p _).1 hu
    exact ⟨Or.inr ⟨rfl, this.1, this.2.1⟩, h1.2.1, h1.2.2.1, h1.2.2.2.1, h1.2.2.2.2.1, h1.1⟩

/-- WHAT IS PARSED CAN BE PUT, in no more bytes. -/
theorem held7 (s : ByteArray) (h : kE s = 0) : jE (kV s) (kA s) (kB s) (kF s) (kT s) (kP s) (kG s) = 0 ∧ (jS (kV s) (kA s) (kB s) (kF s) (kT s) (kP s) (kG s)).size ≤ s.size := by
  obtain ⟨h1, h2, m1, m2, m3, m4, m5, m6, m7⟩ := k_some h
  rw [m1, m2, m3, m4, m5, m6, m7]
  obtain ⟨hs, hv⟩ := hE_zero h1
  obtain ⟨_, _, _, _, _, hpu⟩ := held_p (hP s) (hR s) h2
  have hps := puS_size hpu
  have hsz : (puS (hP s) (ppA (hP s) (hR s)) (ppB (hP s) (hR s)) (ppF (hP s) (hR s))).size ≤ (hR s).size := by
    rw [hps]
    rcases (ppE_iff (hP s) (hR s)).1 h2 with ⟨hk, g⟩ | ⟨hk, g⟩
    · rw [if_pos hk]; exact ((tcpE_iff _).1 g).1
    · rw [if_neg (by omega)]; exact ((udpE_iff _).1 g).1
  have hle := puS_le' (hP s) (ppA (hP s) (hR s)) (ppB (hP s) (hR s)) (ppF (hP s) (hR s))
  generalize ppA (hP s) (hR s) = X at *
  generalize ppB (hP s) (hR s) = Y at *
  generalize ppF (hP s) (hR s) = G at *
  rcases hv with ⟨hv, hp⟩ | ⟨hv, hp⟩
  · obtain ⟨_, c2, c3, c4, c5, c6⟩ := k_four hs hv
    obtain ⟨z1, z2, z3, z4, z5, _⟩ := held4 s hp
    rw [c2, c3, c4]
    rw [c5] at hpu hsz hle ⊢
    rw [c6] at hsz
    have hu : u4E (p4S s) (p4D s) (p4P s) (puS (p4P s) X Y G) = 0 := by rw [u4E_iff]; omega
    refine ⟨(jE_iff _ _ _ _ _ _ _).2 ⟨hpu, Or.inl ⟨rfl, hu⟩⟩, ?_⟩
    rw [jS_4 hpu, u4S_size hu]; omega
  · obtain ⟨_, c2, c3, c4, c5, c6⟩ := k_six hs hv
    obtain ⟨z1, z2, z3, z4, z5, _⟩ := held6 s hp
    rw [c2, c3, c4]
    rw [c5] at hpu hsz hle ⊢
    rw [c6] at hsz
    have hu : u6E (p6S s) (p6D s) (p6P s) (puS (p6P s) X Y G) = 0 := by rw [u6E_iff]; omega
    refine ⟨(jE_iff _ _ _ _ _ _ _).2 ⟨hpu, Or.inr ⟨rfl, hu⟩⟩, ?_⟩
    rw [jS_6 hpu, u6S_size hu]; omega

/-- A key's bytes, one by one. -/
theorem bX_list {v : Int} {a b : ByteArray} {f t p : Int} (h : bR v a b f t p = true) :
    (bX v a b f t p).data.toList = [UInt8.ofNat v.toNat, UInt8.ofNat p.toNat] ++ eb 2 f.toNat ++ eb 2 t.toNat ++ (a.data.toList ++ List.replicate (16 - a.size) 0) ++ (b.data.toList ++ List.replicate (16 - b.size) 0) := by
  have h' := (bR_iff' v a b f t p).1 h
  have e1 : ∀ x : Int, 0 ≤ x → (putS x 1).data.toList = [UInt8.ofNat x.toNat] := by
    intro x _
    rw [putS_yes (by omega)]
    simp [eb]
    apply UInt8.toNat_inj.1
    simp
  have e2 : ∀ x : Int, 0 ≤ x → (putS x 2).data.toList = eb 2 x.toNat := by
    intro x _
    rw [putS_yes (by omega)]; rfl
  unfold bX wide
  simp only [ba_app, e1 v (by omega), e1 p (by omega), e2 f (by omega), e2 t (by omega)]
  simp [List.append_assoc]

/-- THE KEY OF A KEY'S BYTES IS THAT KEY. -/
theorem of_bytes {v : Int} {a b : ByteArray} {f t p : Int} (h : bR v a b f t p = true) :
    (bX v a b f t p).size = 38 ∧ (byteN (bX v a b f t p) 0 : Int) = v ∧ (byteN (bX v a b f t p) 1 : Int) = p ∧ getV (bX v a b f t p) 2 2 = f ∧ getV (bX v a b f t p) 4 2 = t ∧ oS (bX v a b f t p) = a ∧ oD (bX v a b f t p) = b := by
  obtain ⟨hk, f0, f1, t0, t1, hp⟩ := (bR_iff' v a b f t p).1 h
  have hl := bX_list h
  obtain ⟨s, hs⟩ : ∃ s, s = bX v a b f t p := ⟨_, rfl⟩
  rw [← hs] at hl ⊢
  have la := ba_len a
  have lb := ba_len b
  have hn : ∃ n : Nat, (n = 4 ∨ n = 16) ∧ a.size = n ∧ b.size = n ∧ n = (if v = 4 then 4 else 16) := by
    rcases hk with ⟨rfl, g1, g2⟩ | ⟨rfl, g1, g2⟩
    · exact ⟨4, Or.inl rfl, g1, g2, rfl⟩
    · exact ⟨16, Or.inr rfl, g1, g2, rfl⟩
  obtain ⟨n, hn, ha, hb, hnv⟩ := hn
  obtain ⟨x, y, hxy⟩ : ∃ x y, eb 2 f.toNat = [x, y] := ⟨_, _, eb2_two _⟩
  obtain ⟨u, w, huw⟩ : ∃ u w, eb 2 t.toNat = [u, w] := ⟨_, _, eb2_two _⟩
  have hsz : s.size = 38 := by
    rw [← ba_len, hl, hxy, huw]
    simp [la, lb, ha, hb]; omega
  have v2 : getV s 2 2 = f := by
    have hg : getB s ((2 : Nat) : Int) ((2 : Nat) : Int) = true := by rw [getB_iff]; omega
    have := getV_of hg
    have e : (s.data.toList.drop 2).take 2 = eb 2 f.toNat := by rw [hl, hxy, huw]; rfl
    rw [e, be_eb] at this
    simp at this
    rw [this]; omega
  have v4 : getV s 4 2 = t := by
    have hg : getB s ((4 : Nat) : Int) ((2 : Nat) : Int) = true := by rw [getB_iff]; omega
    have := getV_of hg
    have e : (s.data.toList.drop 4).take 2 = eb 2 t.toNat := by rw [hl, hxy, huw]; rfl
    rw [e, be_eb] at this
    simp at this
    rw [this]; omega
  have b0 : (byteN s 0 : Int) = v := by
    unfold byteN; rw [hl, hxy, huw]
    show ((UInt8.ofNat v.toNat).toNat : Int) = v
    simp; omega
  have b1 : (byteN s 1 : Int) = p := by
    unfold byteN; rw [hl, hxy, huw]
    show ((UInt8.ofNat p.toNat).toNat : Int) = p
    simp; omega
  have hw : wN s = n := by
    unfold wN
    rw [hnv]
    by_cases h4 : v = 4
    · rw [if_pos h4, if_pos (by omega)]
    · rw [if_neg h4, if_neg (by omega)]
  refine ⟨hsz, b0, b1, v2, v4, ?_, ?_⟩
  · apply ba_ext
    unfold oS
    rw [hw, ba_extract, hl, hxy, huw]
    rcases hn with rfl | rfl <;> simp [List.take_append, List.drop_append, List.take_of_length_le, List.drop_of_length_le, la, lb, ha, hb]
  · apply ba_ext
    unfold oD
    rw [hw, ba_extract, hl, hxy, huw]
    rcases hn with rfl | rfl <;> simp [List.take_append, List.drop_append, List.take_of_length_le, List.drop_of_length_le, la, lb, ha, hb]

theorem oB_bytes {v : Int} {a b : ByteArray} {f t p : Int} (h : bR v a b f t p = true) : oB (bX v a b f t p) = true := by
  obtain ⟨hsz, b0, b1, v2, v4, e1, e2⟩ := of_bytes h
  unfold oB
  rw [b0, b1, v2, v4, e1, e2, h, hsz]
  simp
theorem of_all {v : Int} {a b : ByteArray} {f t p : Int} (h : bR v a b f t p = true) :
    oV (bX v a b f t p) = v ∧ oA (bX v a b f t p) = a ∧ oC (bX v a b f t p) = b ∧ oF (bX v a b f t p) = f ∧ oT (bX v a b f t p) = t ∧ oP (bX v a b f t p) = p := by
  obtain ⟨_, b0, b1, v2, v4, e1, e2⟩ := of_bytes h
  have hB := oB_bytes h
  unfold oV oA oC oF oT oP
  rw [if_pos hB, if_pos hB, if_pos hB, if_pos hB, if_pos hB, if_pos hB]
  exact ⟨b0, e1, e2, v2, v4, b1⟩

/-- UNLIKE KEYS HAVE UNLIKE BYTES. -/
theorem apart7 {v : Int} {a b : ByteArray} {f t p : Int} {v' : Int} {a' b' : ByteArray} {f' t' p' : Int} (h : bR v a b f t p = true) (h' : bR v' a' b' f' t' p' = true) (e : bX v a b f t p = bX v' a' b' f' t' p') :
    v = v' ∧ a = a' ∧ b = b' ∧ f = f' ∧ t = t' ∧ p = p' := by
  obtain ⟨m1, m2, m3, m4, m5, m6⟩ := of_all h
  obtain ⟨n1, n2, n3, n4, n5, n6⟩ := of_all h'
  rw [e] at m1 m2 m3 m4 m5 m6
  exact ⟨m1.symm.trans n1, m2.symm.trans n2, m3.symm.trans n3, m4.symm.trans n4, m5.symm.trans n5, m6.symm.trans n6⟩

/-- What is cut is refused. -/
theorem cut7 (v : Int) (a b : ByteArray) (f t p g : Int) (h : jE v a b f t p g = 0) (n : Nat) (hn : n < (jS v a b f t p g).size) : kE ((jS v a b f t p g).extract 0 n) = 2 ∨ kE ((jS v a b f t p g).extract 0 n) = 4 := by
  obtain ⟨hp, hv⟩ := (jE_iff v a b f t p g).1 h
  have hcs : ((jS v a b f t p g).extract 0 n).size = n := by rw [ByteArray.size_extract]; omega
  have hof : ∀ z : ByteArray, hE z = 2 ∨ hE z = 4 → kE z = 2 ∨ kE z = 4 := by
    intro z hz
    have : kE z = hE z := by unfold kE; rw [if_neg (by omega)]
    omega
  apply hof
  by_cases h0 : n = 0
  · refine Or.inl ?_
    unfold hE
    rw [if_pos (by omega)]
  · have hs : ((jS v a b f t p g).extract 0 n).size ≠ 0 := by omega
    have hfirst : byteN ((jS v a b f t p g).extract 0 n) 0 = byteN (jS v a b f t p g) 0 := by
      have hsplit : jS v a b f t p g = (jS v a b f t p g).extract 0 n ++ (jS v a b f t p g).extract n (jS v a b f t p g).size := by
        apply ba_ext
        rw [ba_app, ba_extract, ba_extract, List.drop_zero, ← ba_len (jS v a b f t p g), List.take_length, List.take_append_drop]
      have := byteN_app ((jS v a b f t p g).extract 0 n) ((jS v a b f t p g).extract n (jS v a b f t p g).size) 0 (by omega)
      rw [← hsplit] at this
      exact this.symm
    have hver : verN ((jS v a b f t p g).extract 0 n) = verN (jS v a b f t p g) := by unfold verN; rw [hfirst]
    rcases hv with ⟨rfl, hu⟩ | ⟨rfl, hu⟩
    · rw [jS_4 hp] at hn hs hver ⊢
      have h4 : verN (u4S a b p (puS p f t g)) = 4 := by
        have := back4 a b p (puS p f t g) ⟨#[]⟩ hu
        have e0 : u4S a b p (puS p f t g) ++ ⟨#[]⟩ = u4S a b p (puS p f t g) := ByteArray.append_empty
        rw [e0] at this
        exact ((p4E_iff _).1 this.1).2.1
      rw [(k_four hs (hver.trans h4)).1]
      rw [u4S_size hu] at hn
      rw [cut4 a b p _ hu n hn]
      split <;> simp
    · rw [jS_6 hp] at hn hs hver ⊢
      have h6 : verN (u6S a b p (puS p f t g)) = 6 := by
        have := back6 a b p (puS p f t g) ⟨#[]⟩ hu
        have e0 : u6S a b p (puS p f t g) ++ ⟨#[]⟩ = u6S a b p (puS p f t g) := ByteArray.append_empty
        rw [e0] at this
        exact ((p6E_iff _).1 this.1).2.1
      rw [(k_six hs (hver.trans h6)).1]
      rw [u6S_size hu] at hn
      rw [cut6 a b p _ hu n hn]
      split <;> simp
end Go.Proofs.Ytjfijllnmjajpaa
