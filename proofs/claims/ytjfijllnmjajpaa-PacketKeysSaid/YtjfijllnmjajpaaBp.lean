/- plain: laws of what port.Parse and port.Put answer. -/
import Derived.Test.YtjfijllnmjajpaaSp
import Derived.Test.YtjfijllnmjajpaaB6
namespace Go.Proofs.Ytjfijllnmjajpaa

theorem eb2_two (v : Nat) : eb 2 v = [UInt8.ofNat (v / 256 % 256), UInt8.ofNat (v % 256)] := rfl
theorem inB_iff (n m : Int) : inB n m = true ↔ 0 ≤ n ∧ n ≤ m := by simp [inB]
theorem puE_iff (k a b f : Int) : puE k a b f = 0 ↔ (k = 6 ∨ k = 17) ∧ 0 ≤ a ∧ a ≤ 65535 ∧ 0 ≤ b ∧ b ≤ 65535 ∧ ((k = 6 ∧ 0 ≤ f ∧ f ≤ 255) ∨ (k = 17 ∧ f = 0)) := by
  unfold puE
  by_cases hk : k = 6 ∨ k = 17
  · rw [if_pos hk]
    have hb : (inB a 65535 && inB b 65535 && fB k f) = true ↔ (0 ≤ a ∧ a ≤ 65535) ∧ (0 ≤ b ∧ b ≤ 65535) ∧ fB k f = true := by
      rw [Bool.and_eq_true_iff, Bool.and_eq_true_iff, inB_iff, inB_iff, and_assoc]
    have hf : fB k f = true ↔ ((k = 6 ∧ 0 ≤ f ∧ f ≤ 255) ∨ (k = 17 ∧ f = 0)) := by
      unfold fB
      by_cases h6 : k = 6
      · rw [if_pos h6, inB_iff]; omega
      · rw [if_neg h6, decide_eq_true_eq]; omega
    by_cases h : (inB a 65535 && inB b 65535 && fB k f) = true
    · rw [if_pos h]
      rw [hb, hf] at h
      exact ⟨fun _ => ⟨hk, h.1.1, h.1.2, h.2.1.1, h.2.1.2, h.2.2⟩, fun _ => rfl⟩
    · rw [if_neg h]
      rw [hb, hf] at h
      exact ⟨fun h => absurd h (by decide), fun g => absurd ⟨⟨g.2.1, g.2.2.1⟩, ⟨g.2.2.2.1, g.2.2.2.2.1⟩, g.2.2.2.2.2⟩ h⟩
  · rw [if_neg hk]
    exact ⟨fun h => absurd h (by decide), fun g => absurd g.1 hk⟩
theorem puS_none {k a b f : Int} (h : puE k a b f ≠ 0) : puS k a b f = ⟨#[]⟩ := by unfold puS; rw [if_neg h]
theorem pp_none' {k : Int} {s : ByteArray} (h : ppE k s ≠ 0) : ppA k s = 0 ∧ ppB k s = 0 ∧ ppF k s = 0 := by
  unfold ppA ppB ppF
  rw [if_neg h, if_neg h]
  refine ⟨rfl, rfl, ?_⟩
  by_cases h6 : k = 6
  · subst h6
    rw [if_pos rfl]
    unfold tcpF
    exact if_neg h
  · rw [if_neg h6]

/-- What is put, byte by byte. -/
theorem puS_list {k a b f : Int} (h : puE k a b f = 0) : ∃ x y u v : UInt8, eb 2 a.toNat = [x, y] ∧ eb 2 b.toNat = [u, v] ∧
    (puS k a b f).data.toList = [x, y, u, v] ++ (if k = 6 then [0, 0, 0, 0, 0, 0, 0, 0, 80, UInt8.ofNat f.toNat, 0, 0, 0, 0, 0, 0] else [0, 8, 0, 0]) := by
  have h' := (puE_iff k a b f).1 h
  refine ⟨_, _, _, _, eb2_two a.toNat, eb2_two b.toNat, ?_⟩
  have ea : (putS a 2).data.toList = eb 2 a.toNat := by rw [putS_yes (by omega)]; rfl
  have eb' : (putS b 2).data.toList = eb 2 b.toNat := by rw [putS_yes (by omega)]; rfl
  have ef : (putS f 1).data.toList = [UInt8.ofNat f.toNat] := by
    rw [putS_yes (by omega)]
    simp [eb]
    apply UInt8.toNat_inj.1
    simp
  unfold puS abS fS
  rw [if_pos h]
  by_cases h6 : k = 6
  · rw [if_pos h6, if_pos h6]
    simp only [ba_app, ea, eb', ef, eb2_two, List.append_assoc]
    rfl
  · rw [if_neg h6, if_neg h6]
    simp only [ba_app, ea, eb', eb2_two]
    rfl
theorem puS_size {k a b f : Int} (h : puE k a b f = 0) : (puS k a b f).size = if k = 6 then 20 else 8 := by
  obtain ⟨x, y, u, v, _, _, hl⟩ := puS_list h
  rw [← ba_len, hl]
  split <;> rfl

theorem back_p (k a b f : Int) (t : ByteArray) (h : puE k a b f = 0) :
    ppE k (puS k a b f ++ t) = 0 ∧ ppA k (puS k a b f ++ t) = a ∧ ppB k (puS k a b f ++ t) = b ∧ ppF k (puS k a b f ++ t) = f := by
  obtain ⟨hk, ha0, ha, hb0, hb, hf⟩ := (puE_iff k a b f).1 h
  obtain ⟨x, y, u, v, e1, e2, hl⟩ := puS_list h
  obtain ⟨s, hs⟩ : ∃ s, s = puS k a b f ++ t := ⟨_, rfl⟩
  have hsz : s.size = (if k = 6 then 20 else 8) + t.size := by rw [hs, ByteArray.size_append, puS_size h]
  have hL : s.data.toList = ([x, y, u, v] ++ (if k = 6 then [0, 0, 0, 0, 0, 0, 0, 0, 80, UInt8.ofNat f.toNat, 0, 0, 0, 0, 0, 0] else [0, 8, 0, 0])) ++ t.data.toList := by rw [hs, ba_app, hl]
  rw [← hs]
  have hge : 8 ≤ s.size := by rw [hsz]; split <;> omega
  have vA : getV s 0 2 = a := by
    have hg : getB s ((0 : Nat) : Int) ((2 : Nat) : Int) = true := by rw [getB_iff]; omega
    have := getV_of hg
    have e : (s.data.toList.drop 0).take 2 = eb 2 a.toNat := by rw [hL, e1]; rfl
    rw [e, be_eb] at this
    simp at this
    rw [this]
    omega
  have vB : getV s 2 2 = b := by
    have hg : getB s ((2 : Nat) : Int) ((2 : Nat) : Int) = true := by rw [getB_iff]; omega
    have := getV_of hg
    have e : (s.data.toList.drop 2).take 2 = eb 2 b.toNat := by rw [hL, e2]; rfl
    rw [e, be_eb] at this
    simp at this
    rw [this]
    omega
  by_cases h6 : k = 6
  · subst h6
    rw [if_pos rfl] at hL hsz
    have b12 : byteN s 12 = 80 := by unfold byteN; rw [hL]; rfl
    have b13 : (byteN s 13 : Int) = f := by
      unfold byteN; rw [hL]
      show ((UInt8.ofNat f.toNat).toNat : Int) = f
      simp; omega
    have ho : offT s = 20 := by unfold offT; rw [b12]
    have hE : tcpE s = 0 := by
      unfold tcpE
      rw [if_neg (by omega), ho, if_neg (by simp; omega)]
    have hE' : ppE 6 s = 0 := hE
    refine ⟨hE, ?_, ?_, ?_⟩
    · unfold ppA; rw [if_pos hE', vA]
    · unfold ppB; rw [if_pos hE', vB]
    · unfold ppF tcpF; rw [if_pos rfl, if_pos hE, b13]
  · have h17 : k = 17 := by omega
    subst h17
    rw [if_neg (by decide)] at hL hsz
    have v4 : getV s 4 2 = 8 := by
      have hg : getB s ((4 : Nat) : Int) ((2 : Nat) : Int) = true := by rw [getB_iff]; omega
      have := getV_of hg
      have e : (s.data.toList.drop 4).take 2 = [0, 8] := by rw [hL]; rfl
      rw [e] at this
      exact this.trans rfl
    have hE : udpE s = 0 := by
      unfold udpE
      rw [if_neg (by omega), v4, if_neg (by simp; omega)]
    have hE' : ppE 17 s = 0 := hE
    refine ⟨hE, ?_, ?_, ?_⟩
    · unfold ppA; rw [if_pos hE', vA]
    · unfold ppB; rw [if_pos hE', vB]
    · unfold ppF; rw [if_neg (by decide)]; omega

theorem tcpE_iff (s : ByteArray) : tcpE s = 0 ↔ 20 ≤ s.size ∧ 20 ≤ offT s ∧ offT s ≤ s.size := by
  unfold tcpE
  by_cases h1 : s.size < 20
  · rw [if_pos h1]; exact ⟨fun h => absurd h (by decide), fun h => absurd h1 (by omega)⟩
  · rw [if_neg h1]
    by_cases h2 : (decide (offT s < 20) || decide (s.size < offT s)) = true
    · rw [if_pos h2]
      simp only [Bool.or_eq_true_iff, decide_eq_true_eq] at h2
      exact ⟨fun h => absurd h (by decide), fun h => absurd h2 (by omega)⟩
    · rw [if_neg h2]
      simp only [Bool.or_eq_true_iff, decide_eq_true_eq] at h2
      exact ⟨fun _ => by omega, fun _ => rfl⟩
theorem udpE_iff (s : ByteArray) : udpE s = 0 ↔ 8 ≤ s.size ∧ 8 ≤ getV s 4 2 ∧ getV s 4 2 ≤ (s.size : Int) := by
  unfold udpE
  by_cases h1 : s.size < 8
  · rw [if_pos h1]; exact ⟨fun h => absurd h (by decide), fun h => absurd h1 (by omega)⟩
  · rw [if_neg h1]
    by_cases h2 : (decide (getV s 4 2 < 8) || decide ((s.size : Int) < getV s 4 2)) = true
    · rw [if_pos h2]
      simp only [Bool.or_eq_true_iff, decide_eq_true_eq] at h2
      exact ⟨fun h => absurd h (by decide), fun h => absurd h2 (by omega)⟩
    · rw [if_neg h2]
      simp only [Bool.or_eq_true_iff, decide_eq_true_eq] at h2
      exact ⟨fun _ => by omega, fun _ => rfl⟩
theorem ppE_iff (k : Int) (s : ByteArray) : ppE k s = 0 ↔ (k = 6 ∧ tcpE s = 0) ∨ (k = 17 ∧ udpE s = 0) := by
  unfold ppE
  by_cases h6 : k = 6
  · rw [if_pos h6]; simp [h6]
  · rw [if_neg h6]
    by_cases h17 : k = 17
    · rw [if_pos h17]; simp [h17]
    · rw [if_neg h17]; simp [h6, h17]

/-- What stands behind makes no difference. -/
theorem behind_p (k : Int) (s t : ByteArray) (h : ppE k s = 0) : ppE k (s ++ t) = 0 ∧ ppA k (s ++ t) = ppA k s ∧ ppB k (s ++ t) = ppB k s ∧ ppF k (s ++ t) = ppF k s := by
  have h8 : 8 ≤ s.size := by
    rcases (ppE_iff k s).1 h with ⟨_, g⟩ | ⟨_, g⟩
    · have := ((tcpE_iff s).1 g).1; omega
    · exact ((udpE_iff s).1 g).1
  have v0 : getV (s ++ t) 0 2 = getV s 0 2 := getV_app s t 0 2 (by omega) (by omega)
  have v2 : getV (s ++ t) 2 2 = getV s 2 2 := getV_app s t 2 2 (by omega) (by omega)
  have v4 : getV (s ++ t) 4 2 = getV s 4 2 := getV_app s t 4 2 (by omega) (by omega)
  have hE : ppE k (s ++ t) = 0 := by
    rw [ppE_iff]
    rcases (ppE_iff k s).1 h with ⟨hk, g⟩ | ⟨hk, g⟩
    · refine Or.inl ⟨hk, ?_⟩
      rw [tcpE_iff] at g ⊢
      have ho : offT (s ++ t) = offT s := by unfold offT; rw [byteN_app _ _ _ (by omega)]
      rw [ho, ByteArray.size_append]
      omega
    · refine Or.inr ⟨hk, ?_⟩
      rw [udpE_iff] at g ⊢
      rw [v4, ByteArray.size_append]
      omega
  refine ⟨hE, ?_, ?_, ?_⟩
  · unfold ppA; rw [if_pos hE, if_pos h, v0]
  · unfold ppB; rw [if_pos hE, if_pos h, v2]
  · unfold ppF
    by_cases h6 : k = 6
    · subst h6
      have hE1 : tcpE (s ++ t) = 0 := hE
      have h1 : tcpE s = 0 := h
      have h20 := ((tcpE_iff s).1 h1).1
      rw [if_pos rfl, if_pos rfl]
      unfold tcpF
      rw [if_pos hE1, if_pos h1, byteN_app _ _ _ (by omega)]
    · rw [if_neg h6, if_neg h6]

/-- What is parsed can be put. -/
theorem held_p (k : Int) (s : ByteArray) (h : ppE k s = 0) : 0 ≤ ppA k s ∧ ppA k s ≤ 65535 ∧ 0 ≤ ppB k s ∧ ppB k s ≤ 65535 ∧ (k = 6 ∨ ppF k s = 0) ∧ puE k (ppA k s) (ppB k s) (ppF k s) = 0 := by
  have bA := getV2_bd s 0
  have bB := getV2_bd s 2
  have eA : ppA k s = getV s 0 2 := by unfold ppA; rw [if_pos h]
  have eB : ppB k s = getV s 2 2 := by unfold ppB; rw [if_pos h]
  have hk : k = 6 ∨ k = 17 := by rcases (ppE_iff k s).1 h with ⟨g, _⟩ | ⟨g, _⟩ <;> omega
  have hF : (k = 6 ∧ 0 ≤ ppF k s ∧ ppF k s ≤ 255) ∨ (k = 17 ∧ ppF k s = 0) := by
    by_cases h6 : k = 6
    · subst h6
      have h1 : tcpE s = 0 := h
      have hb := byteN_lt s 13
      refine Or.inl ⟨rfl, ?_⟩
      unfold ppF tcpF
      rw [if_pos rfl, if_pos h1]
      omega
    · refine Or.inr ⟨by omega, ?_⟩
      unfold ppF
      rw [if_neg h6]
  refine ⟨by omega, by omega, by omega, by omega, ?_, ?_⟩
  · rcases hF with ⟨g, _⟩ | ⟨_, g⟩
    · exact Or.inl g
    · exact Or.inr g
  · rw [puE_iff]
    exact ⟨hk, by omega, by omega, by omega, by omega, hF⟩

/-- What is cut is refused. -/
theorem cut_p (k a b f : Int) (h : puE k a b f = 0) (n : Nat) (hn : n < (puS k a b f).size) : ppE k ((puS k a b f).extract 0 n) = 2 := by
  have hz := puS_size h
  have hk := ((puE_iff k a b f).1 h).1
  have hcs : ((puS k a b f).extract 0 n).size = n := by rw [ByteArray.size_extract]; omega
  by_cases h6 : k = 6
  · subst h6
    rw [if_pos rfl] at hz
    show tcpE _ = 2
    unfold tcpE
    rw [hcs, if_pos (by omega)]
  · have h17 : k = 17 := by omega
    subst h17
    rw [if_neg (by decide)] at hz
    show udpE _ = 2
    unfold udpE
    rw [hcs, if_pos (by omega)]
end Go.Proofs.Ytjfijllnmjajpaa
