/- The law SumBounds of chapter 3 (sum), walked: it returns true, whatever it is given; nothing that lay before is changed. -/
import Derived.WalkKit
import Derived.WalkSpells
import Derived.WalkLawsBesides
import Derived.Lib.Hide
import Derived.LoopTactic
import Derived.Outline
import Derived.Test.YtieojkcnebphjaaM1
namespace Go.Proofs.Ytieojkcnebphjaa
open Go.RowKit

/-- Are all bytes 0? -/
def allz (l : List UInt8) : Bool := l.all (· == 0)
theorem allz_snoc (s : ByteArray) (k : Nat) (h : k < s.size) : allz (s.data.toList.take (k + 1)) = (allz (s.data.toList.take k) && ((s[k].toNat : Int) == 0)) := by
  have hl : k < s.data.toList.length := by simpa using h
  rw [List.take_succ_eq_append_getElem hl]
  unfold allz
  rw [List.all_append]
  congr 1
  rw [List.all_cons, List.all_nil, Bool.and_true, Bool.eq_iff_iff, beq_iff_eq, beq_iff_eq]
  show s[k] = 0 ↔ _
  rw [← UInt8.toNat_inj]
  simp
theorem allz_fold (s : ByteArray) : (((foldS s.data.toList : Nat) : Int) == 0) = allz s.data.toList := by
  unfold foldS allz
  rw [Bool.eq_iff_iff, beq_iff_eq, List.all_eq_true]
  have h1 := fold_zero (wsum s.data.toList)
  have h2 := wsum_zero s.data.toList
  constructor
  · intro h b hb
    have := h2.1 (h1.1 (by omega)) b hb
    rw [beq_iff_eq, ← UInt8.toNat_inj]; simpa using this
  · intro h
    have : wsum s.data.toList = 0 := h2.2 fun b hb => by
      have := h b hb
      rw [beq_iff_eq] at this; rw [this]; rfl
    rw [h1.2 this]; rfl
theorem bounds_odd (s : ByteArray) (h : s.size % 2 = 1) : foldS (s ++ ⟨#[0]⟩).data.toList = foldS s.data.toList := by
  unfold foldS
  rw [ByteArray.data_append, Array.toList_append]
  exact congrArg fold (wsum_pad _ (by simpa using h))
theorem bounds_even (s t : ByteArray) (h : s.size % 2 = 0) : foldS (s ++ t).data.toList = if 65535 < foldS s.data.toList + foldS t.data.toList then foldS s.data.toList + foldS t.data.toList - 65535 else foldS s.data.toList + foldS t.data.toList := by
  unfold foldS
  rw [ByteArray.data_append, Array.toList_append, wsum_append _ _ (by simpa using h), fold_add, Nat.add_comm, fold_add, Nat.add_comm, fold_two (fold_le _) (fold_le _)]

set_option maxRecDepth 100000 in
set_option maxHeartbeats 1600000 in
theorem SumBounds_walk (s t : ByteArray) (hss : s.size ≤ 9223372036854775807) (hst : t.size ≤ 9223372036854775807) (w : World) :
    Calls Try.prog 11 #[.string s, .string t] w fun e w' => e = .returned (.bool true) ∧ Below w.heap.size w w' := by
  have C0 := Lib.hid works3_calls
  by_cases hls : (300 : Int) < (s.size : Int)
  · have ds : decide ((300 : Int) < (s.size : Int)) = true := by simpa using hls
    have hB := Below.refl w.heap.size w
    go_enter Try.func11, Try.ntmps11
    go_wp2_with (first | (go_at_call 19; with_reducible refine (C0.out _).mono ?_; rintro e w' ⟨rfl, hb⟩; replace hB := bb hB hb; clear hb))
    go_ret
    exact ⟨rfl, hB⟩
  have ds : decide ((300 : Int) < (s.size : Int)) = false := by simpa using hls
  have h3s : s.size ≤ 300 := by omega
  by_cases hlt : (300 : Int) < (t.size : Int)
  · have dt : decide ((300 : Int) < (t.size : Int)) = true := by simpa using hlt
    have hB := Below.refl w.heap.size w
    go_enter Try.func11, Try.ntmps11
    go_wp2_with (first | (go_at_call 19; with_reducible refine (C0.out _).mono ?_; rintro e w' ⟨rfl, hb⟩; replace hB := bb hB hb; clear hb))
    go_ret
    exact ⟨rfl, hB⟩
  have dt : decide ((300 : Int) < (t.size : Int)) = false := by simpa using hlt
  have h3t : t.size ≤ 300 := by omega
  obtain ⟨Z, hZ⟩ : ∃ Z, Z = allz s.data.toList := ⟨_, rfl⟩
  have q0 := allz_fold s
  rw [← hZ] at q0
  have HZ := Lib.hid hZ; clear hZ
  have hle : foldS s.data.toList ≤ 65535 := fold_le _
  have hlt : foldS t.data.toList ≤ 65535 := fold_le _
  have e1 := bounds_odd s
  have e2 := bounds_even s t
  have z1 : (⟨#[0]⟩ : ByteArray).size = 1 := rfl
  have c1 := Fold_calls s (by omega)
  have c2 := Sum_calls s (by omega)
  have c3 := Fold_calls (s ++ ⟨#[0]⟩) (by simp only [ByteArray.size_append, z1]; omega)
  have c4 := Fold_calls t (by omega)
  have c5 := Fold_calls (s ++ t) (by simp only [ByteArray.size_append]; omega)
  generalize foldS s.data.toList = f at *
  generalize foldS t.data.toList = g at *
  generalize foldS (s ++ ⟨#[0]⟩).data.toList = f1 at *
  generalize foldS (s ++ t).data.toList = fg at *
  have C1 := Lib.hid c1; have C2 := Lib.hid c2
  have E1 := Lib.hid e1; have E2 := Lib.hid e2
  have C3 := Lib.hid c3; have C4 := Lib.hid c4; have C5 := Lib.hid c5
  clear c1 c2 c3 c4 c5 e1 e2
  have hB := Below.refl w.heap.size w
  go_enter Try.func11, Try.ntmps11
  go_wp2_with (first | (go_at_call 19; with_reducible refine (C0.out _).mono ?_; rintro e w' ⟨rfl, hb⟩; replace hB := bb hB hb; clear hb))
  go_loop [6, 7] (fun z i => ∃ k : Nat, k ≤ s.size ∧ i = .int .i64 k ∧ z = .bool (allz (s.data.toList.take k))) (fun _ i => s.size - (intOf i).toNat)
  case atStart => exact ⟨0, Nat.zero_le _, rfl, rfl⟩
  case round =>
    obtain ⟨k, hk, rfl, hz⟩ := hrel
    by_cases hlt2 : k < s.size
    · have hsn := allz_snoc s k hlt2
      cases hb : allz (s.data.toList.take k) with
      | false =>
        rw [hb] at hz hsn
        rw [Bool.false_and] at hsn
        subst hz
        have HS := Lib.hid hsn; clear hsn hb
        go_wp2
        go_round
        case rel => exact ⟨k + 1, by omega, by simp, by rw [HS.out]⟩
        case measure => simp [intOf]; omega
      | true =>
        rw [hb] at hz hsn
        rw [Bool.true_and] at hsn
        subst hz
        have HS := Lib.hid hsn; clear hsn hb
        go_wp2
        go_round
        case rel => exact ⟨k + 1, by omega, by simp, by rw [HS.out]⟩
        case measure => simp [intOf]; omega
    · obtain rfl : k = s.size := by omega
      rw [List.take_of_length_le (by simp), ← HZ.out] at hz
      subst hz
      by_cases ho : s.size % 2 = 1
      · have qo : ((s.size : Int) % 2 == 1) = true := by simp; omega
        have hf1 := E1.out ho
        rw [hf1] at C3
        have Ho := Lib.hid ho; clear ho hf1
        cases Z
        · go_wp2_with (first | (go_at_call 20; with_reducible refine (C1.out _).mono ?_; rintro e w' ⟨rfl, hb⟩; replace hB := bb hB hb; clear hb) | (go_at_call 22; with_reducible refine (C2.out _).mono ?_; rintro e w' ⟨rfl, hb⟩; replace hB := bb hB hb; clear hb) | (go_at_call 20; with_reducible refine (C3.out _).mono ?_; rintro e w' ⟨rfl, hb⟩; replace hB := bb hB hb; clear hb))
          go_ret
          exact ⟨rfl, hB⟩
        · go_wp2_with (first | (go_at_call 20; with_reducible refine (C1.out _).mono ?_; rintro e w' ⟨rfl, hb⟩; replace hB := bb hB hb; clear hb) | (go_at_call 22; with_reducible refine (C2.out _).mono ?_; rintro e w' ⟨rfl, hb⟩; replace hB := bb hB hb; clear hb) | (go_at_call 20; with_reducible refine (C3.out _).mono ?_; rintro e w' ⟨rfl, hb⟩; replace hB := bb hB hb; clear hb))
          go_ret
          exact ⟨rfl, hB⟩
      · have qo : ((s.size : Int) % 2 == 1) = false := by simp; omega
        have hfg := E2.out (by omega)
        by_cases hbig : 65535 < f + g
        · rw [if_pos hbig] at hfg
          have q1 : (65535 : Int) < (f : Int) + (g : Int) := by omega
          have q2 : ((fg : Int) == (f : Int) + (g : Int) - 65535) = true := by rw [beq_iff_eq]; omega
          clear hfg ho
          cases Z
          · go_wp2_with (first | (go_at_call 20; with_reducible refine (C1.out _).mono ?_; rintro e w' ⟨rfl, hb⟩; replace hB := bb hB hb; clear hb) | (go_at_call 22; with_reducible refine (C2.out _).mono ?_; rintro e w' ⟨rfl, hb⟩; replace hB := bb hB hb; clear hb) | (go_at_call 20; with_reducible refine (C4.out _).mono ?_; rintro e w' ⟨rfl, hb⟩; replace hB := bb hB hb; clear hb) | (go_at_call 20; with_reducible refine (C5.out _).mono ?_; rintro e w' ⟨rfl, hb⟩; replace hB := bb hB hb; clear hb))
            go_ret
            exact ⟨rfl, hB⟩
          · go_wp2_with (first | (go_at_call 20; with_reducible refine (C1.out _).mono ?_; rintro e w' ⟨rfl, hb⟩; replace hB := bb hB hb; clear hb) | (go_at_call 22; with_reducible refine (C2.out _).mono ?_; rintro e w' ⟨rfl, hb⟩; replace hB := bb hB hb; clear hb) | (go_at_call 20; with_reducible refine (C4.out _).mono ?_; rintro e w' ⟨rfl, hb⟩; replace hB := bb hB hb; clear hb) | (go_at_call 20; with_reducible refine (C5.out _).mono ?_; rintro e w' ⟨rfl, hb⟩; replace hB := bb hB hb; clear hb))
            go_ret
            exact ⟨rfl, hB⟩
        · rw [if_neg hbig] at hfg
          have q1 : ¬ (65535 : Int) < (f : Int) + (g : Int) := by omega
          have q2 : ((fg : Int) == (f : Int) + (g : Int)) = true := by rw [beq_iff_eq]; omega
          clear hfg ho
          cases Z
          · go_wp2_with (first | (go_at_call 20; with_reducible refine (C1.out _).mono ?_; rintro e w' ⟨rfl, hb⟩; replace hB := bb hB hb; clear hb) | (go_at_call 22; with_reducible refine (C2.out _).mono ?_; rintro e w' ⟨rfl, hb⟩; replace hB := bb hB hb; clear hb) | (go_at_call 20; with_reducible refine (C4.out _).mono ?_; rintro e w' ⟨rfl, hb⟩; replace hB := bb hB hb; clear hb) | (go_at_call 20; with_reducible refine (C5.out _).mono ?_; rintro e w' ⟨rfl, hb⟩; replace hB := bb hB hb; clear hb))
            go_ret
            exact ⟨rfl, hB⟩
          · go_wp2_with (first | (go_at_call 20; with_reducible refine (C1.out _).mono ?_; rintro e w' ⟨rfl, hb⟩; replace hB := bb hB hb; clear hb) | (go_at_call 22; with_reducible refine (C2.out _).mono ?_; rintro e w' ⟨rfl, hb⟩; replace hB := bb hB hb; clear hb) | (go_at_call 20; with_reducible refine (C4.out _).mono ?_; rintro e w' ⟨rfl, hb⟩; replace hB := bb hB hb; clear hb) | (go_at_call 20; with_reducible refine (C5.out _).mono ?_; rintro e w' ⟨rfl, hb⟩; replace hB := bb hB hb; clear hb))
            go_ret
            exact ⟨rfl, hB⟩
end Go.Proofs.Ytieojkcnebphjaa
