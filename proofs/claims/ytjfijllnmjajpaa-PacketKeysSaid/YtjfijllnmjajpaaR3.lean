/- The document's sum: gangplankref03.Fold, Sum and Good answer foldS too. -/
import Derived.WalkKit
import Derived.LoopTactic
import Derived.WalkSpells
import Derived.WalkLawsBesides
import Derived.Lib.Hide
import Derived.Outline
import Derived.Test.YtjfijllnmjajpaaProg
import Derived.Test.YtjfijllnmjajpaaSm
import Derived.Test.YtjfijllnmjajpaaFd
namespace Go.Proofs.Ytjfijllnmjajpaa
open Go.RowKit

/-- What the first k words come to. -/
def foldTo (s : ByteArray) (k : Nat) : Nat := fold (wsum (s.data.toList.take (2 * k)))
theorem foldTo_le (s : ByteArray) (k : Nat) : foldTo s k ≤ 65535 := fold_le _
theorem foldTo_two (s : ByteArray) (k : Nat) (h : 2 * k + 1 < s.size) :
    foldTo s (k + 1) = if 65535 < foldTo s k + (s[2 * k].toNat * 256 + s[2 * k + 1].toNat) then foldTo s k + (s[2 * k].toNat * 256 + s[2 * k + 1].toNat) - 65535 else foldTo s k + (s[2 * k].toNat * 256 + s[2 * k + 1].toNat) := by
  have h1 := s[2 * k].toNat_lt
  have h2 := s[2 * k + 1].toNat_lt
  have e := wsum_take s.data.toList k (by simpa using h)
  have e' : wsum (s.data.toList.take (2 * (k + 1))) = wsum (s.data.toList.take (2 * k)) + (s[2 * k].toNat * 256 + s[2 * k + 1].toNat) := e
  unfold foldTo
  rw [e', fold_add, fold_two (fold_le _) (by omega)]
theorem foldTo_one (s : ByteArray) (k : Nat) (hi : 2 * k < s.size) (h : 2 * k + 1 = s.size) :
    foldTo s (k + 1) = if 65535 < foldTo s k + (s[2 * k]'hi).toNat * 256 then foldTo s k + (s[2 * k]'hi).toNat * 256 - 65535 else foldTo s k + (s[2 * k]'hi).toNat * 256 := by
  have h1 := (s[2 * k]'hi).toNat_lt
  have hl : 2 * k < s.data.toList.length := by simp; omega
  have e : s.data.toList.take (2 * (k + 1)) = s.data.toList.take (2 * k) ++ [s[2 * k]] := by
    rw [List.take_of_length_le (by simp; omega)]
    have := List.take_succ_eq_append_getElem hl
    rw [List.take_of_length_le (by simp; omega)] at this
    exact this
  unfold foldTo
  rw [e, wsum_append _ _ (by simp; omega), fold_add, show wsum [s[2 * k]] = s[2 * k].toNat * 256 from rfl, fold_two (fold_le _) (by omega)]
theorem foldTo_all (s : ByteArray) (k : Nat) (h : s.size ≤ 2 * k) : foldTo s k = foldS s.data.toList := by
  unfold foldTo foldS
  rw [List.take_of_length_le (by simpa using h)]

set_option maxRecDepth 100000 in
set_option maxHeartbeats 800000 in
theorem refFold_calls (s : ByteArray) (hs : s.size ≤ 4294967296) (w : World) :
    Calls Try.prog 77 #[.string s] w fun e w' => e = .returned (.int .i64 ((foldS s.data.toList : Nat) : Int)) ∧ w = w' := by
  have HA := Lib.hid (foldTo_all s)
  go_enter Try.func77, Try.ntmps77
  go_wp2
  go_loop [3, 4] (fun v i => ∃ k N : Nat, 2 * k ≤ s.size + 1 ∧ i = .int .i64 (2 * (k : Int)) ∧ v = .int .i64 (N : Int) ∧ N ≤ 65535 ∧ Hid (N = foldTo s k)) (fun _ i => s.size + 1 - (intOf i).toNat)
  case atStart => exact ⟨0, 0, by omega, rfl, rfl, by omega, Lib.hid (by simp [foldTo, wsum, fold])⟩
  case round =>
    obtain ⟨k, N, hk, rfl, rfl, hN, HN⟩ := hrel
    by_cases h2 : 2 * k + 1 < s.size
    · have hi3 : 2 * k < s.size := by omega
      have hb1 := (s[2 * k]'hi3).toNat_lt
      have hb2 := (s[2 * k + 1]'h2).toNat_lt
      have HT := Lib.hid (foldTo_two s k h2)
      rw [← HN.out] at HT
      have hi1 : 2 * (k : Int) < (s.size : Int) := by omega
      have hi2 : 2 * (k : Int) + 1 < (s.size : Int) := by omega
      go_wp2
      all_goals
        go_round
        case rel => exact ⟨k + 1, foldTo s (k + 1), by omega, congrArg (Value.int IntKind.i64) (by omega), congrArg (Value.int IntKind.i64) (by rw [HT.out]; split <;> omega), foldTo_le _ _, Lib.hid rfl⟩
        case measure => simp [intOf]; omega
    · by_cases h1 : 2 * k + 1 = s.size
      · have hi3 : 2 * k < s.size := by omega
        have hb1 := (s[2 * k]'hi3).toNat_lt
        have HT := Lib.hid (foldTo_one s k hi3 h1)
        rw [← HN.out] at HT
        have hi1 : 2 * (k : Int) < (s.size : Int) := by omega
        have hi2 : ¬ 2 * (k : Int) + 1 < (s.size : Int) := by omega
        have H1 := Lib.hid h1
        have hk2 : 2 * (k + 1) ≤ s.size + 1 := by omega
        clear h1
        go_wp2
        all_goals
          go_round
          case rel => exact ⟨k + 1, foldTo s (k + 1), hk2, congrArg (Value.int IntKind.i64) (by omega), congrArg (Value.int IntKind.i64) (by rw [HT.out]; split <;> omega), foldTo_le _ _, Lib.hid rfl⟩
          case measure => simp [intOf]; omega
      · have hi1 : ¬ 2 * (k : Int) < (s.size : Int) := by omega
        have e := HA.out k (by omega)
        have HE := Lib.hid (e ▸ HN.out : N = foldS s.data.toList)
        clear e
        go_wp2
        go_ret
        exact ⟨congrArg (fun z : Nat => Ending.returned (.int .i64 (z : Int))) HE.out, rfl⟩

set_option maxRecDepth 100000 in
set_option maxHeartbeats 400000 in
theorem refSum_calls (s : ByteArray) (hs : s.size ≤ 4294967296) (w : World) :
    Calls Try.prog 63 #[.string s] w fun e w' => e = .returned (.int .i64 (65535 - ((foldS s.data.toList : Nat) : Int))) ∧ w = w' := by
  have C := Lib.hid (refFold_calls s hs)
  have hle' : foldS s.data.toList ≤ 65535 := fold_le (wsum s.data.toList)
  generalize foldS s.data.toList = N at *
  go_enter Try.func63, Try.ntmps63
  go_wp2_with fail
  refine (C.out _).mono ?_
  rintro e w1 ⟨rfl, rfl⟩
  go_wp2_with fail
  go_ret
  exact ⟨rfl, rfl⟩

set_option maxRecDepth 100000 in
set_option maxHeartbeats 400000 in
theorem refGood_calls (s : ByteArray) (hs : s.size ≤ 4294967296) (w : World) :
    Calls Try.prog 74 #[.string s] w fun e w' => e = .returned (.bool (goodS s.data.toList)) ∧ w = w' := by
  have C := Lib.hid (refFold_calls s hs)
  have hg : (((foldS s.data.toList : Nat) : Int) == 65535) = goodS s.data.toList := by
    unfold goodS; rw [Bool.eq_iff_iff, beq_iff_eq, beq_iff_eq]; omega
  generalize ((foldS s.data.toList : Nat) : Int) = N at *
  generalize goodS s.data.toList = b at *
  go_enter Try.func74, Try.ntmps74
  go_wp2_with fail
  refine (C.out _).mono ?_
  rintro e w1 ⟨rfl, rfl⟩
  go_wp2_with fail
  go_ret
  exact ⟨rfl, rfl⟩
end Go.Proofs.Ytjfijllnmjajpaa
