/- The document's octet: gangplankref01.Get and Put answer getV, getB and putS too. -/
import Derived.WalkKit
import Derived.LoopTactic
import Derived.WalkSpells
import Derived.WalkLawsBesides
import Derived.Lib.Hide
import Derived.Laws.Bits64
import Derived.Laws.IdiomStrings
import Derived.RangeFuncBox
import Derived.Outline
import Derived.Test.YtjfijllnmjajpaaProg
import Derived.Test.YtjfijllnmjajpaaOc
namespace Go.Proofs.Ytjfijllnmjajpaa
open Go.RowKit

theorem ref_step (s : ByteArray) (p k m : Nat) (hk : k < m) (hm : m ≤ 8) (h : p + m ≤ s.size) :
    IntKind.u64.wrap (IntKind.u64.wrap (((be ((s.data.toList.drop p).take k) : Nat) : Int) * 256) + IntKind.u64.wrap ((s[p + k].toNat : Nat) : Int)) = ((be ((s.data.toList.drop p).take (k + 1)) : Nat) : Int) := by
  have h1 := be_take_lt (s.data.toList.drop p) (k + 1)
  have h2 := pow_le_64 (m := k + 1) (by omega)
  rw [take_drop_snoc s p k (by omega), be_snoc] at h1 ⊢
  have hb := s[p + k].toNat_lt
  rw [IntKind.wrap_u64, IntKind.wrap_u64, IntKind.wrap_u64]
  omega

set_option maxRecDepth 100000 in
set_option maxHeartbeats 400000 in
theorem refGet_yes (s : ByteArray) (p m : Nat) (hm1 : 1 ≤ m) (hm8 : m ≤ 8) (hp : p + m ≤ s.size) (hs : s.size ≤ 9223372036854775807) (w : World) :
    Calls Try.prog 49 #[.string s, .int .i64 (p : Int), .int .i64 (m : Int)] w fun e w' => e = .returned (.tuple #[.int .u64 ((be ((s.data.toList.drop p).take m) : Nat) : Int), .bool true]) ∧ w = w' := by
  have hd1 : decide ((m : Int) < 1) = false := by simp; omega
  have hd2 : decide (8 < (m : Int)) = false := by simp; omega
  have hd3 : decide ((p : Int) < 0) = false := by simp
  have hd4 : decide ((s.size : Int) < (p : Int)) = false := by simp; omega
  have hd5 : decide ((s.size : Int) - (p : Int) < (m : Int)) = false := by simp; omega
  go_enter Try.func49, Try.ntmps49
  go_wp2
  go_loop [8, 9] (fun v i => ∃ k : Nat, k ≤ m ∧ i = .int .i64 k ∧ v = .int .u64 ((be ((s.data.toList.drop p).take k) : Nat) : Int)) (fun _ i => m - (intOf i).toNat)
  case atStart => exact ⟨0, Nat.zero_le _, rfl, by simp [be]⟩
  case round =>
    obtain ⟨k, hk, rfl, rfl⟩ := hrel
    by_cases hlt : k < m
    · have HS := Lib.hid (ref_step s p k m hlt hm8 hp)
      have hi1 : (0 : Int) ≤ (p : Int) + (k : Int) := by omega
      have hi2 : (p : Int) + (k : Int) < (s.size : Int) := by omega
      go_wp2
      go_round
      case rel => exact ⟨k + 1, by omega, by simp, congrArg (Value.int IntKind.u64) HS.out⟩
      case measure => simp [intOf]; omega
    · obtain rfl : k = m := by omega
      go_wp2
      go_ret2
      exact ⟨rfl, rfl⟩

set_option maxRecDepth 100000 in
set_option maxHeartbeats 400000 in
theorem refGet_no (s : ByteArray) (p m : Int) (_hs : s.size ≤ 9223372036854775807) (hno : m < 1 ∨ 8 < m ∨ p < 0 ∨ (s.size : Int) - m < p) (w : World) :
    Calls Try.prog 49 #[.string s, .int .i64 p, .int .i64 m] w fun e w' => e = .returned (.tuple #[.int .u64 0, .bool false]) ∧ w = w' := by
  by_cases h1 : m < 1
  · have d1 : decide (m < 1) = true := by simpa using h1
    clear hno
    go_enter Try.func49, Try.ntmps49
    go_wp2
    go_ret2
    exact ⟨rfl, rfl⟩
  · have d1 : decide (m < 1) = false := by simpa using h1
    by_cases h2 : 8 < m
    · have d2 : decide (8 < m) = true := by simpa using h2
      clear hno
      go_enter Try.func49, Try.ntmps49
      go_wp2
      go_ret2
      exact ⟨rfl, rfl⟩
    · have d2 : decide (8 < m) = false := by simpa using h2
      by_cases h3 : p < 0
      · have d3 : decide (p < 0) = true := by simpa using h3
        clear hno
        go_enter Try.func49, Try.ntmps49
        go_wp2
        go_ret2
        exact ⟨rfl, rfl⟩
      · have d3 : decide (p < 0) = false := by simpa using h3
        by_cases h4 : (s.size : Int) < p
        · have d4 : decide ((s.size : Int) < p) = true := by simpa using h4
          clear hno
          go_enter Try.func49, Try.ntmps49
          go_wp2
          go_ret2
          exact ⟨rfl, rfl⟩
        · have d4 : decide ((s.size : Int) < p) = false := by simpa using h4
          have h5 : (s.size : Int) - p < m := by omega
          have d5 : decide ((s.size : Int) - p < m) = true := by simpa using h5
          clear hno
          go_enter Try.func49, Try.ntmps49
          go_wp2
          go_ret2
          exact ⟨rfl, rfl⟩

/-- gangplankref01.Get, whatever it is given. -/
theorem refGet_calls (s : ByteArray) (p m : Int) (hs : s.size ≤ 9223372036854775807) (w : World) :
    Calls Try.prog 49 #[.string s, .int .i64 p, .int .i64 m] w fun e w' => e = .returned (.tuple #[.int .u64 (getV s p m), .bool (getB s p m)]) ∧ w = w' := by
  cases hg : getB s p m with
  | false =>
    rw [getV_no hg]
    exact refGet_no s p m hs (by simp [getB] at hg; omega) w
  | true =>
    obtain ⟨a1, a2, a3, a4⟩ := (getB_iff s p m).1 hg
    obtain ⟨p, rfl⟩ := Int.eq_ofNat_of_zero_le a3
    obtain ⟨m, rfl⟩ := Int.eq_ofNat_of_zero_le (show 0 ≤ m by omega)
    rw [getV_yes hg, Int.toNat_natCast, Int.toNat_natCast]
    exact refGet_yes s p m (by omega) (by omega) (by omega) hs w

/-- A text of one byte. -/
theorem convert_one (wx : World) (b : Int) (c : UInt8) (hb : b = c.toNat) :
    (convert 87 9 (.slice (some ⟨wx.heap.size, 0, none⟩) 1 1)).run Try.prog (wx.alloc (.cells #[.int .u8 b] 5)) = .ok (.string ⟨#[c]⟩) (wx.alloc (.cells #[.int .u8 b] 5)) := by
  refine run_convert_bytes_back (P := Try.prog) (wx.alloc (.cells #[.int .u8 b] 5)) 87 9 5 ⟨wx.heap.size, 0, none⟩ 1 [c] Try.underlying87 Try.underlying5 Try.underlying9 ?_
  intro j hj
  obtain rfl : j = 0 := by simpa using hj
  have e : (⟨wx.heap.size, 0, none⟩ : Addr).add 0 = ⟨wx.heap.size, 0, none⟩ := by unfold Addr.add; split <;> simp_all
  rw [e, (Boxed.new wx 5 (.int .u8 b)).cell, hb]
  simp

theorem ba_append (a b : Array UInt8) : (⟨a⟩ : ByteArray) ++ ⟨b⟩ = ⟨a ++ b⟩ := ByteArray.ext ByteArray.data_append
theorem ref_cons (v k : Nat) : eb (k + 1) v = UInt8.ofNat (v / 256 ^ k % 256) :: eb k v := by
  rw [Nat.add_comm k 1, eb_add 1 k]; rfl
theorem ref_div (v k : Nat) : v / 256 ^ k / 256 = v / 256 ^ (k + 1) := by rw [Nat.div_div_eq_div_mul, Nat.pow_succ]

set_option maxRecDepth 100000 in
set_option maxHeartbeats 400000 in
theorem refPut_yes (v m : Nat) (hv : v < 18446744073709551616) (hm1 : 1 ≤ m) (hm8 : m ≤ 8) (w : World) :
    Calls Try.prog 37 #[.int .u64 (v : Int), .int .i64 (m : Int)] w fun e w' => e = .returned (.string ⟨(eb m v).toArray⟩) ∧ Below w.heap.size w w' := by
  have hd1 : decide ((m : Int) < 1) = false := by simp; omega
  have hd2 : decide (8 < (m : Int)) = false := by simp; omega
  have HV := Lib.hid hv; clear hv
  go_enter Try.func37, Try.ntmps37
  go_wp2
  go_loopw [0, 5, 6] (fun x s i wr => ∃ k q : Nat, k ≤ m ∧ i = .int .i64 k ∧ x = .int .u64 (q : Int) ∧ s = .string ⟨(eb k v).toArray⟩ ∧ Hid (q = v / 256 ^ k) ∧ Below w.heap.size w wr) (fun _ _ i _ => m - (intOf i).toNat)
  case atStart => exact ⟨0, v, Nat.zero_le _, rfl, rfl, rfl, Lib.hid (by simp), Below.refl _ _⟩
  case round =>
    obtain ⟨k, q, hk, rfl, rfl, rfl, HQ, hB⟩ := hrel
    by_cases hlt : k < m
    · obtain ⟨c, hc⟩ : ∃ c : UInt8, c = UInt8.ofNat (q % 256) := ⟨_, rfl⟩
      have hcv := fun wx : World => convert_one wx ((q : Int) % 256) c (by rw [hc]; simp)
      have HE := Lib.hid hc; clear hc
      have hsz : (eb k v).length ≤ 8 := by rw [eb_length]; omega
      have hq : IntKind.u64.wrap ((q : Int) / 256) = ((q / 256 : Nat) : Int) := by
        have h1 := HQ.out
        have h3 := HV.out
        have h2 : v / 256 ^ k ≤ v := Nat.div_le_self _ _
        rw [IntKind.wrap_u64]; omega
      have HW := Lib.hid hq; clear hq
      go_wp2
      go_roundw
      case rel =>
        refine ⟨k + 1, q / 256, by omega, by simp, congrArg (Value.int IntKind.u64) HW.out, ?_, Lib.hid (by rw [HQ.out]; exact ref_div v k), hB.alloc hB.size _⟩
        rw [ba_append, ref_cons, HE.out, HQ.out]
        simp
      case measure => simp [intOf]; omega
    · obtain rfl : k = m := by omega
      go_wp2
      go_ret
      exact ⟨rfl, hB⟩

set_option maxRecDepth 100000 in
set_option maxHeartbeats 400000 in
theorem refPut_no (v m : Int) (hno : m < 1 ∨ 8 < m) (w : World) :
    Calls Try.prog 37 #[.int .u64 v, .int .i64 m] w fun e w' => e = .returned (.string ⟨#[]⟩) ∧ w = w' := by
  by_cases h1 : m < 1
  · have d1 : decide (m < 1) = true := by simpa using h1
    clear hno
    go_enter Try.func37, Try.ntmps37
    go_wp2
    go_ret
    exact ⟨rfl, rfl⟩
  · have d1 : decide (m < 1) = false := by simpa using h1
    have h2 : 8 < m := by omega
    have d2 : decide (8 < m) = true := by simpa using h2
    clear hno
    go_enter Try.func37, Try.ntmps37
    go_wp2
    go_ret
    exact ⟨rfl, rfl⟩

/-- gangplankref01.Put, whatever it is given. -/
theorem refPut_calls (v m : Int) (hv0 : 0 ≤ v) (hv : v < 18446744073709551616) (w : World) :
    Calls Try.prog 37 #[.int .u64 v, .int .i64 m] w fun e w' => e = .returned (.string (putS v m)) ∧ Below w.heap.size w w' := by
  by_cases h : 1 ≤ m ∧ m ≤ 8
  · rw [putS_yes h]
    obtain ⟨v, rfl⟩ := Int.eq_ofNat_of_zero_le hv0
    obtain ⟨m, rfl⟩ := Int.eq_ofNat_of_zero_le (show 0 ≤ m by omega)
    rw [Int.toNat_natCast, Int.toNat_natCast]
    exact refPut_yes v m (by omega) (by omega) (by omega) w
  · rw [putS_no h]
    exact (refPut_no v m (by omega) w).mono fun e w' ⟨he, hw⟩ => ⟨he, hw ▸ Below.refl _ _⟩
end Go.Proofs.Ytjfijllnmjajpaa
