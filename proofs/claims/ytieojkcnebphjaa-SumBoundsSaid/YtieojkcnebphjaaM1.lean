/- The laws of chapter 3 (sum), walked: each returns true, whatever it is given; nothing that lay before is changed. -/
import Derived.WalkKit
import Derived.WalkSpells
import Derived.WalkLawsBesides
import Derived.Lib.Hide
import Derived.LoopTactic
import Derived.Outline
import Derived.Test.YtieojkcnebphjaaL1
import Derived.Test.YtieojkcnebphjaaR3
namespace Go.Proofs.Ytieojkcnebphjaa
open Go.RowKit

set_option maxRecDepth 100000 in
set_option maxHeartbeats 800000 in
theorem works3_calls (w : World) : Calls Try.prog 19 #[] w fun e w' => e = .returned (.bool true) ∧ Below w.heap.size w w' := by
  have c1 := Fold_calls ⟨#[255, 255, 0, 1]⟩ (by decide)
  have c2 := Sum_calls ⟨#[1, 2]⟩ (by decide)
  have c3 := Sum_calls ⟨#[]⟩ (by decide)
  have c4 := Good_calls ⟨#[255, 255]⟩ (by decide)
  have c5 := Good_calls ⟨#[]⟩ (by decide)
  have c6 := Fold_calls ⟨#[1]⟩ (by decide)
  rw [show foldS (ByteArray.mk #[255, 255, 0, 1]).data.toList = 1 from by decide] at c1
  rw [show foldS (ByteArray.mk #[1, 2]).data.toList = 258 from by decide] at c2
  rw [show foldS (ByteArray.mk #[]).data.toList = 0 from by decide] at c3
  rw [show goodS (ByteArray.mk #[255, 255]).data.toList = true from by decide] at c4
  rw [show goodS (ByteArray.mk #[]).data.toList = false from by decide] at c5
  rw [show foldS (ByteArray.mk #[1]).data.toList = 256 from by decide] at c6
  have C1 := Lib.hid c1; have C2 := Lib.hid c2; have C3 := Lib.hid c3; have C4 := Lib.hid c4; have C5 := Lib.hid c5; have C6 := Lib.hid c6
  clear c1 c2 c3 c4 c5 c6
  have hB := Below.refl w.heap.size w
  go_enter Try.func19, Try.ntmps19
  go_wp2_with fail
  refine (C1.out _).mono ?_
  rintro e w' ⟨rfl, hb⟩
  replace hB := bb hB hb; clear hb
  go_wp2_with fail
  refine (C2.out _).mono ?_
  rintro e w' ⟨rfl, hb⟩
  replace hB := bb hB hb; clear hb
  go_wp2_with fail
  refine (C3.out _).mono ?_
  rintro e w' ⟨rfl, hb⟩
  replace hB := bb hB hb; clear hb
  go_wp2_with fail
  refine (C4.out _).mono ?_
  rintro e w' ⟨rfl, hb⟩
  replace hB := bb hB hb; clear hb
  go_wp2_with fail
  refine (C5.out _).mono ?_
  rintro e w' ⟨rfl, hb⟩
  replace hB := bb hB hb; clear hb
  go_wp2_with fail
  refine (C6.out _).mono ?_
  rintro e w' ⟨rfl, hb⟩
  replace hB := bb hB hb; clear hb
  go_wp2_with fail
  go_ret
  exact ⟨rfl, hB⟩

set_option maxRecDepth 100000 in
set_option maxHeartbeats 800000 in
theorem SumTells_walk (s : ByteArray) (hs : s.size ≤ 9223372036854775807) (w : World) :
    Calls Try.prog 9 #[.string s] w fun e w' => e = .returned (.bool true) ∧ Below w.heap.size w w' := by
  have C0 := Lib.hid works3_calls
  by_cases hl : (300 : Int) < (s.size : Int)
  · have hB := Below.refl w.heap.size w
    go_enter Try.func9, Try.ntmps9
    go_wp2_with (first | (go_at_call 19; with_reducible refine (C0.out _).mono ?_; rintro e w' ⟨rfl, hb⟩; replace hB := bb hB hb; clear hb))
    go_ret
    exact ⟨rfl, hB⟩
  have h3 : s.size ≤ 300 := by omega
  have C1 := Lib.hid (Fold_calls s (by omega))
  have C2 := Lib.hid (refFold_calls s (by omega))
  have C3 := Lib.hid (Sum_calls s (by omega))
  have C4 := Lib.hid (refSum_calls s (by omega))
  have C5 := Lib.hid (Good_calls s (by omega))
  have C6 := Lib.hid (refGood_calls s (by omega))
  have hB := Below.refl w.heap.size w
  go_enter Try.func9, Try.ntmps9
  go_wp2_with (first | (go_at_call 19; with_reducible refine (C0.out _).mono ?_; rintro e w' ⟨rfl, hb⟩; replace hB := bb hB hb; clear hb) | (go_at_call 20; with_reducible refine (C1.out _).mono ?_; rintro e w' ⟨rfl, hb⟩; replace hB := bb hB hb; clear hb) | (go_at_call 21; with_reducible refine (C2.out _).mono ?_; rintro e w' ⟨rfl, rfl⟩) | (go_at_call 22; with_reducible refine (C3.out _).mono ?_; rintro e w' ⟨rfl, hb⟩; replace hB := bb hB hb; clear hb) | (go_at_call 23; with_reducible refine (C4.out _).mono ?_; rintro e w' ⟨rfl, rfl⟩) | (go_at_call 24; with_reducible refine (C5.out _).mono ?_; rintro e w' ⟨rfl, hb⟩; replace hB := bb hB hb; clear hb) | (go_at_call 25; with_reducible refine (C6.out _).mono ?_; rintro e w' ⟨rfl, rfl⟩))
  go_ret
  exact ⟨rfl, hB⟩

theorem swap_eq (a b c : ByteArray) (ha : a.size % 2 = 0) (hb : b.size % 2 = 0) :
    foldS (b ++ a ++ c).data.toList = foldS (a ++ b ++ c).data.toList ∧ foldS (a ++ b ++ ⟨#[0, 0]⟩ ++ c).data.toList = foldS (a ++ b ++ c).data.toList := by
  have la : a.data.toList.length = a.size := by simp
  have lb : b.data.toList.length = b.size := by simp
  simp only [ByteArray.data_append, Array.toList_append, List.append_assoc, foldS]
  have h0 : wsum ([0, 0] ++ c.data.toList) = wsum c.data.toList := by simp [wsum]
  rw [wsum_append _ _ (by rw [lb]; exact hb), wsum_append _ _ (by rw [la]; exact ha), wsum_append _ _ (by rw [la]; exact ha), wsum_append _ _ (by rw [lb]; exact hb), wsum_append _ _ (by rw [la]; exact ha), wsum_append _ _ (by rw [lb]; exact hb)]
  exact ⟨congrArg fold (by omega), congrArg fold (by rw [h0])⟩

set_option maxRecDepth 100000 in
set_option maxHeartbeats 800000 in
theorem SumSwaps_walk (a b c : ByteArray) (hsa : a.size ≤ 9223372036854775807) (hsb : b.size ≤ 9223372036854775807) (hsc : c.size ≤ 9223372036854775807) (w : World) :
    Calls Try.prog 10 #[.string a, .string b, .string c] w fun e w' => e = .returned (.bool true) ∧ Below w.heap.size w w' := by
  have C0 := Lib.hid works3_calls
  by_cases hla : (300 : Int) < (a.size : Int)
  · have da : decide ((300 : Int) < (a.size : Int)) = true := by simpa using hla
    have hB := Below.refl w.heap.size w
    go_enter Try.func10, Try.ntmps10
    go_wp2_with (first | (go_at_call 19; with_reducible refine (C0.out _).mono ?_; rintro e w' ⟨rfl, hb⟩; replace hB := bb hB hb; clear hb))
    go_ret
    exact ⟨rfl, hB⟩
  have da : decide ((300 : Int) < (a.size : Int)) = false := by simpa using hla
  have h3a : a.size ≤ 300 := by omega
  by_cases hlb : (300 : Int) < (b.size : Int)
  · have db : decide ((300 : Int) < (b.size : Int)) = true := by simpa using hlb
    have hB := Below.refl w.heap.size w
    go_enter Try.func10, Try.ntmps10
    go_wp2_with (first | (go_at_call 19; with_reducible refine (C0.out _).mono ?_; rintro e w' ⟨rfl, hb⟩; replace hB := bb hB hb; clear hb))
    go_ret
    exact ⟨rfl, hB⟩
  have db : decide ((300 : Int) < (b.size : Int)) = false := by simpa using hlb
  have h3b : b.size ≤ 300 := by omega
  by_cases hlc : (300 : Int) < (c.size : Int)
  · have dc : decide ((300 : Int) < (c.size : Int)) = true := by simpa using hlc
    have hB := Below.refl w.heap.size w
    go_enter Try.func10, Try.ntmps10
    go_wp2_with (first | (go_at_call 19; with_reducible refine (C0.out _).mono ?_; rintro e w' ⟨rfl, hb⟩; replace hB := bb hB hb; clear hb))
    go_ret
    exact ⟨rfl, hB⟩
  have dc : decide ((300 : Int) < (c.size : Int)) = false := by simpa using hlc
  have h3c : c.size ≤ 300 := by omega
  by_cases hoa : a.size % 2 = 1
  · have qa : ((a.size : Int) % 2 == 1) = true := by simp; omega
    have Hoa := Lib.hid hoa; clear hoa
    have hB := Below.refl w.heap.size w
    go_enter Try.func10, Try.ntmps10
    go_wp2_with (first | (go_at_call 19; with_reducible refine (C0.out _).mono ?_; rintro e w' ⟨rfl, hb⟩; replace hB := bb hB hb; clear hb))
    go_ret
    exact ⟨rfl, hB⟩
  have qa : ((a.size : Int) % 2 == 1) = false := by simp; omega
  by_cases hob : b.size % 2 = 1
  · have qb : ((b.size : Int) % 2 == 1) = true := by simp; omega
    have Hob := Lib.hid hob; clear hob
    have hB := Below.refl w.heap.size w
    go_enter Try.func10, Try.ntmps10
    go_wp2_with (first | (go_at_call 19; with_reducible refine (C0.out _).mono ?_; rintro e w' ⟨rfl, hb⟩; replace hB := bb hB hb; clear hb))
    go_ret
    exact ⟨rfl, hB⟩
  have qb : ((b.size : Int) % 2 == 1) = false := by simp; omega
  obtain ⟨e1, e2⟩ := swap_eq a b c (by omega) (by omega)
  have z2 : (⟨#[0, 0]⟩ : ByteArray).size = 2 := rfl
  have c1 := Fold_calls (a ++ b ++ c) (by simp only [ByteArray.size_append]; omega)
  have c2 := Fold_calls (b ++ a ++ c) (by simp only [ByteArray.size_append]; omega)
  have c3 := Fold_calls (a ++ b ++ ⟨#[0, 0]⟩ ++ c) (by simp only [ByteArray.size_append, z2]; omega)
  rw [e1] at c2; rw [e2] at c3
  have C1 := Lib.hid c1; have C2 := Lib.hid c2; have C3 := Lib.hid c3
  clear c1 c2 c3 e1 e2 hoa hob
  have hB := Below.refl w.heap.size w
  go_enter Try.func10, Try.ntmps10
  go_wp2_with (first | (go_at_call 19; with_reducible refine (C0.out _).mono ?_; rintro e w' ⟨rfl, hb⟩; replace hB := bb hB hb; clear hb) | (go_at_call 20; with_reducible refine (C1.out _).mono ?_; rintro e w' ⟨rfl, hb⟩; replace hB := bb hB hb; clear hb) | (go_at_call 20; with_reducible refine (C2.out _).mono ?_; rintro e w' ⟨rfl, hb⟩; replace hB := bb hB hb; clear hb) | (go_at_call 20; with_reducible refine (C3.out _).mono ?_; rintro e w' ⟨rfl, hb⟩; replace hB := bb hB hb; clear hb))
  go_ret
  exact ⟨rfl, hB⟩

theorem own_good (s t : ByteArray) (hs : s.size % 2 = 0) (V : Int) (hV : V = 65535 - ((foldS (s ++ t).data.toList : Nat) : Int)) :
    goodS (s ++ putS V 2 ++ t).data.toList = true ∧ (t.size % 2 = 0 → goodS (s ++ t ++ putS V 2).data.toList = true) := by
  have ls : s.data.toList.length = s.size := by simp
  have lt : t.data.toList.length = t.size := by simp
  have hle : foldS (s ++ t).data.toList ≤ 65535 := fold_le _
  obtain ⟨N, hN⟩ : ∃ N : Nat, V = (N : Int) := ⟨V.toNat, by omega⟩
  have hput : (putS V 2).data.toList = eb 2 N := by rw [putS_yes ⟨by decide, by decide⟩, hN]; rfl
  have hw : wsum (eb 2 N) = N := wsum_two N (by omega)
  have h2 : (eb 2 N).length % 2 = 0 := by rw [eb_length]
  have key : fold (wsum s.data.toList + wsum t.data.toList + N) = 65535 := by
    rw [fold_add]
    have e : foldS (s ++ t).data.toList = fold (wsum s.data.toList + wsum t.data.toList) := by
      unfold foldS; rw [ByteArray.data_append, Array.toList_append, wsum_append _ _ (by rw [ls]; exact hs)]
    rw [← e, show foldS (s ++ t).data.toList + N = 65535 by omega]; rfl
  refine ⟨?_, fun ht => ?_⟩
  · unfold goodS foldS
    simp only [ByteArray.data_append, Array.toList_append, List.append_assoc, hput]
    rw [wsum_append _ _ (by rw [ls]; exact hs), wsum_append _ _ h2, hw, beq_iff_eq, ← key]
    exact congrArg fold (by omega)
  · unfold goodS foldS
    simp only [ByteArray.data_append, Array.toList_append, List.append_assoc, hput]
    rw [wsum_append _ _ (by rw [ls]; exact hs), wsum_append _ _ (by rw [lt]; exact ht), hw, beq_iff_eq, ← key]
    exact congrArg fold (by omega)

set_option maxRecDepth 100000 in
set_option maxHeartbeats 800000 in
theorem SumOwn_walk (s t : ByteArray) (hss : s.size ≤ 9223372036854775807) (hst : t.size ≤ 9223372036854775807) (w : World) :
    Calls Try.prog 12 #[.string s, .string t] w fun e w' => e = .returned (.bool true) ∧ Below w.heap.size w w' := by
  have C0 := Lib.hid works3_calls
  by_cases hls : (300 : Int) < (s.size : Int)
  · have ds : decide ((300 : Int) < (s.size : Int)) = true := by simpa using hls
    have hB := Below.refl w.heap.size w
    go_enter Try.func12, Try.ntmps12
    go_wp2_with (first | (go_at_call 19; with_reducible refine (C0.out _).mono ?_; rintro e w' ⟨rfl, hb⟩; replace hB := bb hB hb; clear hb))
    go_ret
    exact ⟨rfl, hB⟩
  have ds : decide ((300 : Int) < (s.size : Int)) = false := by simpa using hls
  have h3s : s.size ≤ 300 := by omega
  by_cases hlt : (300 : Int) < (t.size : Int)
  · have dt : decide ((300 : Int) < (t.size : Int)) = true := by simpa using hlt
    have hB := Below.refl w.heap.size w
    go_enter Try.func12, Try.ntmps12
    go_wp2_with (first | (go_at_call 19; with_reducible refine (C0.out _).mono ?_; rintro e w' ⟨rfl, hb⟩; replace hB := bb hB hb; clear hb))
    go_ret
    exact ⟨rfl, hB⟩
  have dt : decide ((300 : Int) < (t.size : Int)) = false := by simpa using hlt
  have h3t : t.size ≤ 300 := by omega
  by_cases hos : s.size % 2 = 1
  · have qs : ((s.size : Int) % 2 == 1) = true := by simp; omega
    have Hos := Lib.hid hos; clear hos
    have hB := Below.refl w.heap.size w
    go_enter Try.func12, Try.ntmps12
    go_wp2_with (first | (go_at_call 19; with_reducible refine (C0.out _).mono ?_; rintro e w' ⟨rfl, hb⟩; replace hB := bb hB hb; clear hb))
    go_ret
    exact ⟨rfl, hB⟩
  have qs : ((s.size : Int) % 2 == 1) = false := by simp; omega
  have c1 := Sum_calls (s ++ t) (by simp only [ByteArray.size_append]; omega)
  obtain ⟨V, hV⟩ : ∃ V : Int, V = 65535 - ((foldS (s ++ t).data.toList : Nat) : Int) := ⟨_, rfl⟩
  have hle : foldS (s ++ t).data.toList ≤ 65535 := fold_le _
  obtain ⟨g1, g2⟩ := own_good s t (by omega) V hV
  have hV0 : 0 ≤ V := by omega
  have hV1 : V ≤ 65535 := by omega
  rw [← hV] at c1
  have hp := putS_le V 2
  have C1 := Lib.hid c1
  have C2 := Lib.hid (Put_calls V 2 hV0)
  have c3 := Good_calls (s ++ putS V 2 ++ t) (by simp only [ByteArray.size_append]; omega)
  have c4 := Good_calls (s ++ t ++ putS V 2) (by simp only [ByteArray.size_append]; omega)
  rw [g1] at c3
  have C3 := Lib.hid c3
  clear c1 c3 g1 hV hle
  by_cases hot : t.size % 2 = 1
  · have qt : ((t.size : Int) % 2 == 1) = true := by simp; omega
    have Hot := Lib.hid hot
    clear hot c4 g2 hos
    have hB := Below.refl w.heap.size w
    go_enter Try.func12, Try.ntmps12
    go_wp2_with (first | (go_at_call 19; with_reducible refine (C0.out _).mono ?_; rintro e w' ⟨rfl, hb⟩; replace hB := bb hB hb; clear hb) | (go_at_call 22; with_reducible refine (C1.out _).mono ?_; rintro e w' ⟨rfl, hb⟩; replace hB := bb hB hb; clear hb) | (go_at_call 17; with_reducible refine (C2.out _).mono ?_; rintro e w' ⟨rfl, hb⟩; replace hB := bb hB hb; clear hb) | (go_at_call 24; with_reducible refine (C3.out _).mono ?_; rintro e w' ⟨rfl, hb⟩; replace hB := bb hB hb; clear hb))
    go_ret
    exact ⟨rfl, hB⟩
  · have qt : ((t.size : Int) % 2 == 1) = false := by simp; omega
    rw [g2 (by omega)] at c4
    have C4 := Lib.hid c4
    clear hot c4 g2 hos
    have hB := Below.refl w.heap.size w
    go_enter Try.func12, Try.ntmps12
    go_wp2_with (first | (go_at_call 19; with_reducible refine (C0.out _).mono ?_; rintro e w' ⟨rfl, hb⟩; replace hB := bb hB hb; clear hb) | (go_at_call 22; with_reducible refine (C1.out _).mono ?_; rintro e w' ⟨rfl, hb⟩; replace hB := bb hB hb; clear hb) | (go_at_call 17; with_reducible refine (C2.out _).mono ?_; rintro e w' ⟨rfl, hb⟩; replace hB := bb hB hb; clear hb) | (go_at_call 24; with_reducible refine (C3.out _).mono ?_; rintro e w' ⟨rfl, hb⟩; replace hB := bb hB hb; clear hb) | (go_at_call 24; with_reducible refine (C4.out _).mono ?_; rintro e w' ⟨rfl, hb⟩; replace hB := bb hB hb; clear hb))
    go_ret
    exact ⟨rfl, hB⟩

theorem word_fold (a b : ByteArray) (x y : Int) (ha : a.size % 2 = 0) (hx : 0 ≤ x ∧ x ≤ 65535) (hy : 0 ≤ y ∧ y ≤ 65535) (hne : ¬ x = y) (h0 : ¬ (x % 65535 = 0 ∧ y % 65535 = 0)) :
    ¬ foldS (a ++ putS x 2 ++ b).data.toList = foldS (a ++ putS y 2 ++ b).data.toList := by
  have la : a.data.toList.length = a.size := by simp
  obtain ⟨X, rfl⟩ := Int.eq_ofNat_of_zero_le hx.1
  obtain ⟨Y, rfl⟩ := Int.eq_ofNat_of_zero_le hy.1
  have hp : ∀ N : Nat, (putS (N : Int) 2).data.toList = eb 2 N := fun N => by rw [putS_yes ⟨by decide, by decide⟩]; rfl
  have h2 : ∀ N : Nat, (eb 2 N).length % 2 = 0 := fun N => by rw [eb_length]
  unfold foldS
  simp only [ByteArray.data_append, Array.toList_append, List.append_assoc, hp]
  rw [wsum_append _ _ (by rw [la]; exact ha), wsum_append _ _ (h2 X), wsum_two X (by omega), wsum_append _ _ (by rw [la]; exact ha), wsum_append _ _ (h2 Y), wsum_two Y (by omega), fold_eq]
  omega

set_option maxRecDepth 100000 in
set_option maxHeartbeats 800000 in
theorem SumWord_walk (a : ByteArray) (x y : Int) (b : ByteArray) (hsa : a.size ≤ 9223372036854775807) (hx : 0 ≤ x ∧ x ≤ 65535) (hy : 0 ≤ y ∧ y ≤ 65535) (hsb : b.size ≤ 9223372036854775807) (w : World) :
    Calls Try.prog 13 #[.string a, .int .u16 x, .int .u16 y, .string b] w fun e w' => e = .returned (.bool true) ∧ Below w.heap.size w w' := by
  have C0 := Lib.hid works3_calls
  obtain ⟨hx0, hx1⟩ := hx
  obtain ⟨hy0, hy1⟩ := hy
  by_cases hla : (300 : Int) < (a.size : Int)
  · have da : decide ((300 : Int) < (a.size : Int)) = true := by simpa using hla
    have hB := Below.refl w.heap.size w
    go_enter Try.func13, Try.ntmps13
    go_wp2_with (first | (go_at_call 19; with_reducible refine (C0.out _).mono ?_; rintro e w' ⟨rfl, hb⟩; replace hB := bb hB hb; clear hb))
    go_ret
    exact ⟨rfl, hB⟩
  have da : decide ((300 : Int) < (a.size : Int)) = false := by simpa using hla
  have h3a : a.size ≤ 300 := by omega
  by_cases hlb : (300 : Int) < (b.size : Int)
  · have db : decide ((300 : Int) < (b.size : Int)) = true := by simpa using hlb
    have hB := Below.refl w.heap.size w
    go_enter Try.func13, Try.ntmps13
    go_wp2_with (first | (go_at_call 19; with_reducible refine (C0.out _).mono ?_; rintro e w' ⟨rfl, hb⟩; replace hB := bb hB hb; clear hb))
    go_ret
    exact ⟨rfl, hB⟩
  have db : decide ((300 : Int) < (b.size : Int)) = false := by simpa using hlb
  have h3b : b.size ≤ 300 := by omega
  by_cases hoa : a.size % 2 = 1
  · have qa : ((a.size : Int) % 2 == 1) = true := by simp; omega
    have Hoa := Lib.hid hoa; clear hoa
    have hB := Below.refl w.heap.size w
    go_enter Try.func13, Try.ntmps13
    go_wp2_with (first | (go_at_call 19; with_reducible refine (C0.out _).mono ?_; rintro e w' ⟨rfl, hb⟩; replace hB := bb hB hb; clear hb))
    go_ret
    exact ⟨rfl, hB⟩
  have qa : ((a.size : Int) % 2 == 1) = false := by simp; omega
  by_cases hxy : x = y
  · have qx : (x == y) = true := by simpa using hxy
    have Hxy := Lib.hid hxy; clear hxy hoa
    have hB := Below.refl w.heap.size w
    go_enter Try.func13, Try.ntmps13
    go_wp2_with (first | (go_at_call 19; with_reducible refine (C0.out _).mono ?_; rintro e w' ⟨rfl, hb⟩; replace hB := bb hB hb; clear hb))
    go_ret
    exact ⟨rfl, hB⟩
  have qxy : (x == y) = false := by simpa using hxy
  have go : ∀ (b1 b2 : Bool), (x % 65535 == 0) = b1 → (b1 = true → (y % 65535 == 0) = b2) → (b1 && b2) = false → ¬ foldS (a ++ putS x 2 ++ b).data.toList = foldS (a ++ putS y 2 ++ b).data.toList →
      Calls Try.prog 13 #[.string a, .int .u16 x, .int .u16 y, .string b] w fun e w' => e = .returned (.bool true) ∧ Below w.heap.size w w' := by
    intro b1 b2 e1 e2 e3 hne
    have hpx := putS_le x 2
    have hpy := putS_le y 2
    have C1 := Lib.hid (Put_calls x 2 hx0)
    have C2 := Lib.hid (Put_calls y 2 hy0)
    have c3 := Good_calls (a ++ putS x 2 ++ b) (by simp only [ByteArray.size_append]; omega)
    have c4 := Good_calls (a ++ putS y 2 ++ b) (by simp only [ByteArray.size_append]; omega)
    have c5 := Fold_calls (a ++ putS x 2 ++ b) (by simp only [ByteArray.size_append]; omega)
    have c6 := Fold_calls (a ++ putS y 2 ++ b) (by simp only [ByteArray.size_append]; omega)
    unfold goodS at c3 c4
    generalize foldS (a ++ putS x 2 ++ b).data.toList = X at *
    generalize foldS (a ++ putS y 2 ++ b).data.toList = Y at *
    have qF : ((X : Int) != (Y : Int)) = true := by rw [bne_iff_ne]; omega
    have qF2 : ((X : Int) == (Y : Int)) = false := by simp; omega
    have C5 := Lib.hid c5; have C6 := Lib.hid c6
    clear c5 c6
    by_cases hX : X = 65535
    · have hY : ¬ Y = 65535 := fun h => hne (hX.trans h.symm)
      rw [show (X == 65535) = true by simpa using hX] at c3
      rw [show (Y == 65535) = false by simpa using hY] at c4
      have C3 := Lib.hid c3; have C4 := Lib.hid c4
      clear c3 c4 hX hY hne hxy hoa
      cases b1
      · clear e2 e3
        have hB := Below.refl w.heap.size w
        go_enter Try.func13, Try.ntmps13
        go_wp2_with (first | (go_at_call 19; with_reducible refine (C0.out _).mono ?_; rintro e w' ⟨rfl, hb⟩; replace hB := bb hB hb; clear hb) | (go_at_call 17; with_reducible refine (C1.out _).mono ?_; rintro e w' ⟨rfl, hb⟩; replace hB := bb hB hb; clear hb) | (go_at_call 17; with_reducible refine (C2.out _).mono ?_; rintro e w' ⟨rfl, hb⟩; replace hB := bb hB hb; clear hb) | (go_at_call 24; with_reducible refine (C3.out _).mono ?_; rintro e w' ⟨rfl, hb⟩; replace hB := bb hB hb; clear hb) | (go_at_call 24; with_reducible refine (C4.out _).mono ?_; rintro e w' ⟨rfl, hb⟩; replace hB := bb hB hb; clear hb) | (go_at_call 20; with_reducible refine (C5.out _).mono ?_; rintro e w' ⟨rfl, hb⟩; replace hB := bb hB hb; clear hb) | (go_at_call 20; with_reducible refine (C6.out _).mono ?_; rintro e w' ⟨rfl, hb⟩; replace hB := bb hB hb; clear hb))
        go_ret
        exact ⟨rfl, hB⟩
      · cases b2
        · replace e2 := e2 rfl
          clear e3
          have hB := Below.refl w.heap.size w
          go_enter Try.func13, Try.ntmps13
          go_wp2_with (first | (go_at_call 19; with_reducible refine (C0.out _).mono ?_; rintro e w' ⟨rfl, hb⟩; replace hB := bb hB hb; clear hb) | (go_at_call 17; with_reducible refine (C1.out _).mono ?_; rintro e w' ⟨rfl, hb⟩; replace hB := bb hB hb; clear hb) | (go_at_call 17; with_reducible refine (C2.out _).mono ?_; rintro e w' ⟨rfl, hb⟩; replace hB := bb hB hb; clear hb) | (go_at_call 24; with_reducible refine (C3.out _).mono ?_; rintro e w' ⟨rfl, hb⟩; replace hB := bb hB hb; clear hb) | (go_at_call 24; with_reducible refine (C4.out _).mono ?_; rintro e w' ⟨rfl, hb⟩; replace hB := bb hB hb; clear hb) | (go_at_call 20; with_reducible refine (C5.out _).mono ?_; rintro e w' ⟨rfl, hb⟩; replace hB := bb hB hb; clear hb) | (go_at_call 20; with_reducible refine (C6.out _).mono ?_; rintro e w' ⟨rfl, hb⟩; replace hB := bb hB hb; clear hb))
          go_ret
          exact ⟨rfl, hB⟩
        · cases e3
    · rw [show (X == 65535) = false by simpa using hX] at c3
      have C3 := Lib.hid c3; have C4 := Lib.hid c4
      clear c3 c4 hX hne hxy hoa
      cases b1
      · clear e2 e3
        have hB := Below.refl w.heap.size w
        go_enter Try.func13, Try.ntmps13
        go_wp2_with (first | (go_at_call 19; with_reducible refine (C0.out _).mono ?_; rintro e w' ⟨rfl, hb⟩; replace hB := bb hB hb; clear hb) | (go_at_call 17; with_reducible refine (C1.out _).mono ?_; rintro e w' ⟨rfl, hb⟩; replace hB := bb hB hb; clear hb) | (go_at_call 17; with_reducible refine (C2.out _).mono ?_; rintro e w' ⟨rfl, hb⟩; replace hB := bb hB hb; clear hb) | (go_at_call 24; with_reducible refine (C3.out _).mono ?_; rintro e w' ⟨rfl, hb⟩; replace hB := bb hB hb; clear hb) | (go_at_call 20; with_reducible refine (C5.out _).mono ?_; rintro e w' ⟨rfl, hb⟩; replace hB := bb hB hb; clear hb) | (go_at_call 20; with_reducible refine (C6.out _).mono ?_; rintro e w' ⟨rfl, hb⟩; replace hB := bb hB hb; clear hb))
        go_ret
        exact ⟨rfl, hB⟩
      · cases b2
        · replace e2 := e2 rfl
          clear e3
          have hB := Below.refl w.heap.size w
          go_enter Try.func13, Try.ntmps13
          go_wp2_with (first | (go_at_call 19; with_reducible refine (C0.out _).mono ?_; rintro e w' ⟨rfl, hb⟩; replace hB := bb hB hb; clear hb) | (go_at_call 17; with_reducible refine (C1.out _).mono ?_; rintro e w' ⟨rfl, hb⟩; replace hB := bb hB hb; clear hb) | (go_at_call 17; with_reducible refine (C2.out _).mono ?_; rintro e w' ⟨rfl, hb⟩; replace hB := bb hB hb; clear hb) | (go_at_call 24; with_reducible refine (C3.out _).mono ?_; rintro e w' ⟨rfl, hb⟩; replace hB := bb hB hb; clear hb) | (go_at_call 20; with_reducible refine (C5.out _).mono ?_; rintro e w' ⟨rfl, hb⟩; replace hB := bb hB hb; clear hb) | (go_at_call 20; with_reducible refine (C6.out _).mono ?_; rintro e w' ⟨rfl, hb⟩; replace hB := bb hB hb; clear hb))
          go_ret
          exact ⟨rfl, hB⟩
        · cases e3
  by_cases h0 : x % 65535 = 0 ∧ y % 65535 = 0
  · have q1 : (x % 65535 == 0) = true := by simpa using h0.1
    have q2 : (y % 65535 == 0) = true := by simpa using h0.2
    clear h0 go hxy hoa
    have hB := Below.refl w.heap.size w
    go_enter Try.func13, Try.ntmps13
    go_wp2_with (first | (go_at_call 19; with_reducible refine (C0.out _).mono ?_; rintro e w' ⟨rfl, hb⟩; replace hB := bb hB hb; clear hb))
    go_ret
    exact ⟨rfl, hB⟩
  · have hw := word_fold a b x y (by omega) ⟨hx0, hx1⟩ ⟨hy0, hy1⟩ hxy h0
    refine go _ _ rfl (fun _ => rfl) ?_ hw
    rw [Bool.and_eq_false_iff]
    by_cases hxz : x % 65535 = 0
    · exact .inr (by simp; exact fun h => h0 ⟨hxz, h⟩)
    · exact .inl (by simpa using hxz)

end Go.Proofs.Ytieojkcnebphjaa
