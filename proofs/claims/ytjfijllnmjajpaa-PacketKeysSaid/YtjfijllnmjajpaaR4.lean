/- gangplankref04.Parse: what it answers. -/
import Derived.WalkKit
import Derived.Deep.Cut
import Derived.StillTailTactics
import Derived.Lib.Hide
import Derived.Laws.IdiomStrings
import Derived.Test.YtjfijllnmjajpaaR3
import Derived.Test.YtjfijllnmjajpaaP6
import Derived.Test.YtjfijllnmjajpaaS4
set_option linter.unusedSimpArgs false
set_option linter.unusedVariables false
namespace Go.Proofs.Ytjfijllnmjajpaa
open Go.RowKit Go.BigFrame

set_option maxHeartbeats 1000000 in
set_option maxRecDepth 100000 in
theorem r4_short (s : ByteArray) (hs : s.size ≤ 4294967296) (w : World) (h1 : s.size < 20) :
    Calls Try.prog 56 #[.string s] w fun e w' => e = .returned (.tuple #[.agg #[.string ⟨#[]⟩, .string ⟨#[]⟩, .int .i64 0], .string ⟨#[]⟩, .int .i64 2]) ∧ Below w.heap.size w w' := by
  have d1 : decide ((s.size : Int) < 20) = true := by simp; omega
  go_enter Try.func56, Try.ntmps56
  go_wp2
  refine bodyPost_ret (v := .tuple #[.agg #[.string ⟨#[]⟩, .string ⟨#[]⟩, .int .i64 0], .string ⟨#[]⟩, .int .i64 2]) (by simp [results, Try.results56, go_sem]) rfl ⟨rfl, ?_⟩
  exact (Below.refl _ _).alloc (Nat.le_refl _) _

set_option maxHeartbeats 1000000 in
set_option maxRecDepth 100000 in
theorem r4_vers (s : ByteArray) (hs : s.size ≤ 4294967296) (w : World) (h1 : ¬ s.size < 20) (h2 : byteN s 0 / 16 ≠ 4) :
    Calls Try.prog 56 #[.string s] w fun e w' => e = .returned (.tuple #[.agg #[.string ⟨#[]⟩, .string ⟨#[]⟩, .int .i64 0], .string ⟨#[]⟩, .int .i64 3]) ∧ Below w.heap.size w w' := by
  have d1 : decide ((s.size : Int) < 20) = false := by simp; omega
  have g0 : 0 < s.size := by omega
  have e0 := byteN_get s 0 g0
  have hb0 := byteN_lt s 0
  have d2 : ((byteN s 0 : Int) / 16 % 256 != 4) = true := by simp; omega
  go_enter Try.func56, Try.ntmps56
  go_wp2
  refine bodyPost_ret (v := .tuple #[.agg #[.string ⟨#[]⟩, .string ⟨#[]⟩, .int .i64 0], .string ⟨#[]⟩, .int .i64 3]) (by simp [results, Try.results56, go_sem]) rfl ⟨rfl, ?_⟩
  exact (Below.refl _ _).alloc (Nat.le_refl _) _

set_option maxHeartbeats 1000000 in
set_option maxRecDepth 100000 in
theorem r4_length (s : ByteArray) (hs : s.size ≤ 4294967296) (w : World) (h1 : ¬ s.size < 20) (h2 : byteN s 0 / 16 = 4) (h3 : c4 s = true) :
    Calls Try.prog 56 #[.string s] w fun e w' => e = .returned (.tuple #[.agg #[.string ⟨#[]⟩, .string ⟨#[]⟩, .int .i64 0], .string ⟨#[]⟩, .int .i64 4]) ∧ Below w.heap.size w w' := by
  unfold c4 at h3
  obtain ⟨V, hV⟩ : ∃ V : Nat, getV s 2 2 = (V : Int) := ⟨(getV s 2 2).toNat, by have := getV2_bd s 2; omega⟩
  obtain ⟨z, hz⟩ : ∃ z : Nat, z = z4 s := ⟨_, rfl⟩
  rw [← hz, hV] at h3
  cases d3 : decide (z < 20) with
  | true =>
    have f3 : decide ((z : Int) < 20) = true := by simp at d3 ⊢; omega
    clear d3 h3
    have d1 : decide ((s.size : Int) < 20) = false := by simp; omega
    have g0 : 0 < s.size := by omega
    have e0 := byteN_get s 0 g0
    have hb0 := byteN_lt s 0
    have d2 : ((byteN s 0 : Int) / 16 % 256 != 4) = false := by simp; omega
    have d2' : ((byteN s 0 : Int) / 16 != 4) = false := by simp; omega
    have hb := getV2_bd s 2
    have hzi : (byteN s 0 : Int) % 16 * 4 = (z : Int) := by rw [hz]; simp [z4]
    have hz4 : z < 64 := by rw [hz]; unfold z4; omega
    have hw4 : IntKind.i64.wrap (z : Int) = (z : Int) := IntWalk.i64_in _ (by omega)
    have hb16 : (byteN s 0 : Int) % 16 % 256 = (byteN s 0 : Int) % 16 := by omega
    have hw16 : IntKind.i64.wrap ((byteN s 0 : Int) % 16) = (byteN s 0 : Int) % 16 := IntWalk.i64_in _ (by omega)
    have hW16 : wrap64 ((byteN s 0 : Int) % 16) = (byteN s 0 : Int) % 16 := by unfold wrap64; omega
    have C0 := word_calls s 2 (by omega)
    simp only [hV] at C0 hb
    have C := fun w => Lib.hid (C0 w)
    have HZ := Lib.hid hz
    have HV := Lib.hid hV
    clear C0 hz hV
    go_enter Try.func56, Try.ntmps56
    go_wp2_with (go_at_call 34; with_reducible refine ((C _).out).mono ?_)
    rintro e w1 ⟨rfl, rfl⟩
    go_wp2
    refine bodyPost_ret (v := .tuple #[.agg #[.string ⟨#[]⟩, .string ⟨#[]⟩, .int .i64 0], .string ⟨#[]⟩, .int .i64 4]) (by simp [results, Try.results56, go_sem]) rfl ⟨rfl, ?_⟩
    exact (Below.refl _ _).alloc (Nat.le_refl _) _
  | false =>
    have f3 : decide ((z : Int) < 20) = false := by simp at d3 ⊢; omega
    cases d4 : decide (s.size < z) with
    | true =>
      have f4 : decide ((s.size : Int) < (z : Int)) = true := by simp at d4 ⊢; omega
      clear h3
      have d1 : decide ((s.size : Int) < 20) = false := by simp; omega
      have g0 : 0 < s.size := by omega
      have e0 := byteN_get s 0 g0
      have hb0 := byteN_lt s 0
      have d2 : ((byteN s 0 : Int) / 16 % 256 != 4) = false := by simp; omega
      have d2' : ((byteN s 0 : Int) / 16 != 4) = false := by simp; omega
      have hb := getV2_bd s 2
      have hzi : (byteN s 0 : Int) % 16 * 4 = (z : Int) := by rw [hz]; simp [z4]
      have hz4 : z < 64 := by rw [hz]; unfold z4; omega
      have hw4 : IntKind.i64.wrap (z : Int) = (z : Int) := IntWalk.i64_in _ (by omega)
      have hb16 : (byteN s 0 : Int) % 16 % 256 = (byteN s 0 : Int) % 16 := by omega
      have hw16 : IntKind.i64.wrap ((byteN s 0 : Int) % 16) = (byteN s 0 : Int) % 16 := IntWalk.i64_in _ (by omega)
      have hW16 : wrap64 ((byteN s 0 : Int) % 16) = (byteN s 0 : Int) % 16 := by unfold wrap64; omega
      have C0 := word_calls s 2 (by omega)
      simp only [hV] at C0 hb
      have C := fun w => Lib.hid (C0 w)
      have HZ := Lib.hid hz
      have HV := Lib.hid hV
      clear C0 hz hV
      go_enter Try.func56, Try.ntmps56
      go_wp2_with (go_at_call 34; with_reducible refine ((C _).out).mono ?_)
      rintro e w1 ⟨rfl, rfl⟩
      go_wp2
      refine bodyPost_ret (v := .tuple #[.agg #[.string ⟨#[]⟩, .string ⟨#[]⟩, .int .i64 0], .string ⟨#[]⟩, .int .i64 4]) (by simp [results, Try.results56, go_sem]) rfl ⟨rfl, ?_⟩
      exact (Below.refl _ _).alloc (Nat.le_refl _) _
    | false =>
      have f4 : decide ((s.size : Int) < (z : Int)) = false := by simp at d4 ⊢; omega
      cases d5 : decide (V < z) with
      | true =>
        have f5 : decide ((V : Int) < (z : Int)) = true := by simp at d5 ⊢; omega
        clear h3
        have d1 : decide ((s.size : Int) < 20) = false := by simp; omega
        have g0 : 0 < s.size := by omega
        have e0 := byteN_get s 0 g0
        have hb0 := byteN_lt s 0
        have d2 : ((byteN s 0 : Int) / 16 % 256 != 4) = false := by simp; omega
        have d2' : ((byteN s 0 : Int) / 16 != 4) = false := by simp; omega
        have hb := getV2_bd s 2
        have hzi : (byteN s 0 : Int) % 16 * 4 = (z : Int) := by rw [hz]; simp [z4]
        have hz4 : z < 64 := by rw [hz]; unfold z4; omega
        have hw4 : IntKind.i64.wrap (z : Int) = (z : Int) := IntWalk.i64_in _ (by omega)
        have hb16 : (byteN s 0 : Int) % 16 % 256 = (byteN s 0 : Int) % 16 := by omega
        have hw16 : IntKind.i64.wrap ((byteN s 0 : Int) % 16) = (byteN s 0 : Int) % 16 := IntWalk.i64_in _ (by omega)
        have hW16 : wrap64 ((byteN s 0 : Int) % 16) = (byteN s 0 : Int) % 16 := by unfold wrap64; omega
        have C0 := word_calls s 2 (by omega)
        simp only [hV] at C0 hb
        have C := fun w => Lib.hid (C0 w)
        have HZ := Lib.hid hz
        have HV := Lib.hid hV
        clear C0 hz hV
        go_enter Try.func56, Try.ntmps56
        go_wp2_with (go_at_call 34; with_reducible refine ((C _).out).mono ?_)
        rintro e w1 ⟨rfl, rfl⟩
        go_wp2
        refine bodyPost_ret (v := .tuple #[.agg #[.string ⟨#[]⟩, .string ⟨#[]⟩, .int .i64 0], .string ⟨#[]⟩, .int .i64 4]) (by simp [results, Try.results56, go_sem]) rfl ⟨rfl, ?_⟩
        exact (Below.refl _ _).alloc (Nat.le_refl _) _
      | false =>
        have f5 : decide ((V : Int) < (z : Int)) = false := by simp at d5 ⊢; omega
        cases d6 : decide (s.size < V) with
        | true =>
          have f6 : decide ((s.size : Int) < (V : Int)) = true := by simp at d6 ⊢; omega
          clear h3
          have d1 : decide ((s.size : Int) < 20) = false := by simp; omega
          have g0 : 0 < s.size := by omega
          have e0 := byteN_get s 0 g0
          have hb0 := byteN_lt s 0
          have d2 : ((byteN s 0 : Int) / 16 % 256 != 4) = false := by simp; omega
          have d2' : ((byteN s 0 : Int) / 16 != 4) = false := by simp; omega
          have hb := getV2_bd s 2
          have hzi : (byteN s 0 : Int) % 16 * 4 = (z : Int) := by rw [hz]; simp [z4]
          have hz4 : z < 64 := by rw [hz]; unfold z4; omega
          have hw4 : IntKind.i64.wrap (z : Int) = (z : Int) := IntWalk.i64_in _ (by omega)
          have hb16 : (byteN s 0 : Int) % 16 % 256 = (byteN s 0 : Int) % 16 := by omega
          have hw16 : IntKind.i64.wrap ((byteN s 0 : Int) % 16) = (byteN s 0 : Int) % 16 := IntWalk.i64_in _ (by omega)
          have hW16 : wrap64 ((byteN s 0 : Int) % 16) = (byteN s 0 : Int) % 16 := by unfold wrap64; omega
          have C0 := word_calls s 2 (by omega)
          simp only [hV] at C0 hb
          have C := fun w => Lib.hid (C0 w)
          have HZ := Lib.hid hz
          have HV := Lib.hid hV
          clear C0 hz hV
          go_enter Try.func56, Try.ntmps56
          go_wp2_with (go_at_call 34; with_reducible refine ((C _).out).mono ?_)
          rintro e w1 ⟨rfl, rfl⟩
          go_wp2
          refine bodyPost_ret (v := .tuple #[.agg #[.string ⟨#[]⟩, .string ⟨#[]⟩, .int .i64 0], .string ⟨#[]⟩, .int .i64 4]) (by simp [results, Try.results56, go_sem]) rfl ⟨rfl, ?_⟩
          exact (Below.refl _ _).alloc (Nat.le_refl _) _
        | false =>
          simp at d3 d4 d5 d6
          simp at h3
          omega

set_option maxHeartbeats 1000000 in
set_option maxRecDepth 100000 in
theorem r4_sum (s : ByteArray) (hs : s.size ≤ 4294967296) (w : World) (h1 : ¬ s.size < 20) (h2 : byteN s 0 / 16 = 4) (h3 : c4 s = false) (h4 : goodS (s.extract 0 (z4 s)).data.toList = false) :
    Calls Try.prog 56 #[.string s] w fun e w' => e = .returned (.tuple #[.agg #[.string ⟨#[]⟩, .string ⟨#[]⟩, .int .i64 0], .string ⟨#[]⟩, .int .i64 5]) ∧ Below w.heap.size w w' := by
  have h3' : 20 ≤ z4 s ∧ z4 s ≤ s.size ∧ (z4 s : Int) ≤ getV s 2 2 ∧ getV s 2 2 ≤ (s.size : Int) := by simp [c4] at h3; omega
  clear h3
  obtain ⟨V, hV⟩ : ∃ V : Nat, getV s 2 2 = (V : Int) := ⟨(getV s 2 2).toNat, by have := getV2_bd s 2; omega⟩
  obtain ⟨z, hz⟩ : ∃ z : Nat, z = z4 s := ⟨_, rfl⟩
  rw [← hz, hV] at h3'
  rw [← hz] at h4
  obtain ⟨k1, k2, k3, k4⟩ := h3'
  have f3 : decide ((z : Int) < 20) = false := by simp; omega
  have f4 : decide ((s.size : Int) < (z : Int)) = false := by simp; omega
  have f5 : decide ((V : Int) < (z : Int)) = false := by simp; omega
  have f6 : decide ((s.size : Int) < (V : Int)) = false := by simp; omega
  have k5 : (z : Int) ≤ (s.size : Int) := by omega
  have G := Lib.hid (refGood_calls (s.extract 0 z) (by rw [ByteArray.size_extract]; omega))
  rw [h4] at G
  have d1 : decide ((s.size : Int) < 20) = false := by simp; omega
  have g0 : 0 < s.size := by omega
  have e0 := byteN_get s 0 g0
  have hb0 := byteN_lt s 0
  have d2 : ((byteN s 0 : Int) / 16 % 256 != 4) = false := by simp; omega
  have d2' : ((byteN s 0 : Int) / 16 != 4) = false := by simp; omega
  have hb := getV2_bd s 2
  have hzi : (byteN s 0 : Int) % 16 * 4 = (z : Int) := by rw [hz]; simp [z4]
  have hz4 : z < 64 := by rw [hz]; unfold z4; omega
  have hw4 : IntKind.i64.wrap (z : Int) = (z : Int) := IntWalk.i64_in _ (by omega)
  have hb16 : (byteN s 0 : Int) % 16 % 256 = (byteN s 0 : Int) % 16 := by omega
  have hw16 : IntKind.i64.wrap ((byteN s 0 : Int) % 16) = (byteN s 0 : Int) % 16 := IntWalk.i64_in _ (by omega)
  have hW16 : wrap64 ((byteN s 0 : Int) % 16) = (byteN s 0 : Int) % 16 := by unfold wrap64; omega
  have C0 := word_calls s 2 (by omega)
  simp only [hV] at C0 hb
  have C := fun w => Lib.hid (C0 w)
  have HZ := Lib.hid hz
  have HV := Lib.hid hV
  clear C0 hz hV
  go_enter Try.func56, Try.ntmps56
  go_wp2_with (first | (go_at_call 34; with_reducible refine ((C _).out).mono ?_; rintro e w1 ⟨rfl, rfl⟩) | (go_at_call 74; with_reducible refine (G.out _).mono ?_; rintro e w1 ⟨rfl, rfl⟩) | (go_at_call 34; with_reducible refine ((C6 _).out).mono ?_; rintro e w1 ⟨rfl, rfl⟩))
  refine bodyPost_ret (v := .tuple #[.agg #[.string ⟨#[]⟩, .string ⟨#[]⟩, .int .i64 0], .string ⟨#[]⟩, .int .i64 5]) (by simp [results, Try.results56, go_sem]) rfl ⟨rfl, ?_⟩
  exact (Below.refl _ _).alloc (Nat.le_refl _) _

set_option maxHeartbeats 1000000 in
set_option maxRecDepth 100000 in
theorem r4_frag (s : ByteArray) (hs : s.size ≤ 4294967296) (w : World) (h1 : ¬ s.size < 20) (h2 : byteN s 0 / 16 = 4) (h3 : c4 s = false) (h4 : goodS (s.extract 0 (z4 s)).data.toList = true) (h5 : getV s 6 2 % 16384 ≠ 0) :
    Calls Try.prog 56 #[.string s] w fun e w' => e = .returned (.tuple #[.agg #[.string ⟨#[]⟩, .string ⟨#[]⟩, .int .i64 0], .string ⟨#[]⟩, .int .i64 6]) ∧ Below w.heap.size w w' := by
  have h3' : 20 ≤ z4 s ∧ z4 s ≤ s.size ∧ (z4 s : Int) ≤ getV s 2 2 ∧ getV s 2 2 ≤ (s.size : Int) := by simp [c4] at h3; omega
  clear h3
  obtain ⟨V, hV⟩ : ∃ V : Nat, getV s 2 2 = (V : Int) := ⟨(getV s 2 2).toNat, by have := getV2_bd s 2; omega⟩
  obtain ⟨z, hz⟩ : ∃ z : Nat, z = z4 s := ⟨_, rfl⟩
  rw [← hz, hV] at h3'
  rw [← hz] at h4
  obtain ⟨k1, k2, k3, k4⟩ := h3'
  have f3 : decide ((z : Int) < 20) = false := by simp; omega
  have f4 : decide ((s.size : Int) < (z : Int)) = false := by simp; omega
  have f5 : decide ((V : Int) < (z : Int)) = false := by simp; omega
  have f6 : decide ((s.size : Int) < (V : Int)) = false := by simp; omega
  have k5 : (z : Int) ≤ (s.size : Int) := by omega
  have G := Lib.hid (refGood_calls (s.extract 0 z) (by rw [ByteArray.size_extract]; omega))
  rw [h4] at G
  have d1 : decide ((s.size : Int) < 20) = false := by simp; omega
  have g0 : 0 < s.size := by omega
  have e0 := byteN_get s 0 g0
  have hb0 := byteN_lt s 0
  have d2 : ((byteN s 0 : Int) / 16 % 256 != 4) = false := by simp; omega
  have d2' : ((byteN s 0 : Int) / 16 != 4) = false := by simp; omega
  have hb := getV2_bd s 2
  have hzi : (byteN s 0 : Int) % 16 * 4 = (z : Int) := by rw [hz]; simp [z4]
  have hz4 : z < 64 := by rw [hz]; unfold z4; omega
  have hw4 : IntKind.i64.wrap (z : Int) = (z : Int) := IntWalk.i64_in _ (by omega)
  have hb16 : (byteN s 0 : Int) % 16 % 256 = (byteN s 0 : Int) % 16 := by omega
  have hw16 : IntKind.i64.wrap ((byteN s 0 : Int) % 16) = (byteN s 0 : Int) % 16 := IntWalk.i64_in _ (by omega)
  have hW16 : wrap64 ((byteN s 0 : Int) % 16) = (byteN s 0 : Int) % 16 := by unfold wrap64; omega
  have C0 := word_calls s 2 (by omega)
  simp only [hV] at C0 hb
  have C := fun w => Lib.hid (C0 w)
  have HZ := Lib.hid hz
  have HV := Lib.hid hV
  clear C0 hz hV
  have hb6 := getV2_bd s 6
  have C0 := word_calls s 6 (by omega)
  generalize getV s 6 2 = X at *
  have hwX : IntKind.i64.wrap (X % 16384) = X % 16384 := IntWalk.i64_in _ (by omega)
  have C6 := fun w => Lib.hid (C0 w)
  clear C0
  have d7 : (X % 16384 != 0) = true := by simp; omega
  go_enter Try.func56, Try.ntmps56
  go_wp2_with (first | (go_at_call 34; with_reducible refine ((C _).out).mono ?_; rintro e w1 ⟨rfl, rfl⟩) | (go_at_call 74; with_reducible refine (G.out _).mono ?_; rintro e w1 ⟨rfl, rfl⟩) | (go_at_call 34; with_reducible refine ((C6 _).out).mono ?_; rintro e w1 ⟨rfl, rfl⟩))
  refine bodyPost_ret (v := .tuple #[.agg #[.string ⟨#[]⟩, .string ⟨#[]⟩, .int .i64 0], .string ⟨#[]⟩, .int .i64 6]) (by simp [results, Try.results56, go_sem]) rfl ⟨rfl, ?_⟩
  exact (Below.refl _ _).alloc (Nat.le_refl _) _

set_option maxHeartbeats 1000000 in
set_option maxRecDepth 100000 in
theorem r4_ok (s : ByteArray) (hs : s.size ≤ 4294967296) (w : World) (h1 : ¬ s.size < 20) (h2 : byteN s 0 / 16 = 4) (h3 : c4 s = false) (h4 : goodS (s.extract 0 (z4 s)).data.toList = true) (h5 : getV s 6 2 % 16384 = 0) :
    Calls Try.prog 56 #[.string s] w fun e w' => e = .returned (.tuple #[.agg #[.string (s.extract 12 16), .string (s.extract 16 20), .int .i64 (byteN s 9 : Int)], .string (s.extract (z4 s) (getV s 2 2).toNat), .int .i64 0]) ∧ Below w.heap.size w w' := by
  have h3' : 20 ≤ z4 s ∧ z4 s ≤ s.size ∧ (z4 s : Int) ≤ getV s 2 2 ∧ getV s 2 2 ≤ (s.size : Int) := by simp [c4] at h3; omega
  clear h3
  obtain ⟨V, hV⟩ : ∃ V : Nat, getV s 2 2 = (V : Int) := ⟨(getV s 2 2).toNat, by have := getV2_bd s 2; omega⟩
  obtain ⟨z, hz⟩ : ∃ z : Nat, z = z4 s := ⟨_, rfl⟩
  rw [← hz, hV] at h3'
  rw [← hz] at h4
  obtain ⟨k1, k2, k3, k4⟩ := h3'
  have f3 : decide ((z : Int) < 20) = false := by simp; omega
  have f4 : decide ((s.size : Int) < (z : Int)) = false := by simp; omega
  have f5 : decide ((V : Int) < (z : Int)) = false := by simp; omega
  have f6 : decide ((s.size : Int) < (V : Int)) = false := by simp; omega
  have k5 : (z : Int) ≤ (s.size : Int) := by omega
  have G := Lib.hid (refGood_calls (s.extract 0 z) (by rw [ByteArray.size_extract]; omega))
  rw [h4] at G
  have g9 : 9 < s.size := by omega
  have x16 : (16 : Int) ≤ (s.size : Int) := by omega
  have x20 : (20 : Int) ≤ (s.size : Int) := by omega
  have k6 : (z : Int) ≤ (V : Int) := by omega
  have k6' : z ≤ V := by omega
  have k7 : (V : Int) ≤ (s.size : Int) := by omega
  have d1 : decide ((s.size : Int) < 20) = false := by simp; omega
  have g0 : 0 < s.size := by omega
  have e0 := byteN_get s 0 g0
  have hb0 := byteN_lt s 0
  have d2 : ((byteN s 0 : Int) / 16 % 256 != 4) = false := by simp; omega
  have d2' : ((byteN s 0 : Int) / 16 != 4) = false := by simp; omega
  have hb := getV2_bd s 2
  have hzi : (byteN s 0 : Int) % 16 * 4 = (z : Int) := by rw [hz]; simp [z4]
  have hz4 : z < 64 := by rw [hz]; unfold z4; omega
  have hw4 : IntKind.i64.wrap (z : Int) = (z : Int) := IntWalk.i64_in _ (by omega)
  have hb16 : (byteN s 0 : Int) % 16 % 256 = (byteN s 0 : Int) % 16 := by omega
  have hw16 : IntKind.i64.wrap ((byteN s 0 : Int) % 16) = (byteN s 0 : Int) % 16 := IntWalk.i64_in _ (by omega)
  have hW16 : wrap64 ((byteN s 0 : Int) % 16) = (byteN s 0 : Int) % 16 := by unfold wrap64; omega
  have C0 := word_calls s 2 (by omega)
  simp only [hV] at C0 hb
  have C := fun w => Lib.hid (C0 w)
  have HZ := Lib.hid hz
  have HV := Lib.hid hV
  clear C0 hz hV
  have hb6 := getV2_bd s 6
  have C0 := word_calls s 6 (by omega)
  generalize getV s 6 2 = X at *
  have hwX : IntKind.i64.wrap (X % 16384) = X % 16384 := IntWalk.i64_in _ (by omega)
  have C6 := fun w => Lib.hid (C0 w)
  clear C0
  rw [HV.out, ← HZ.out, Int.toNat_natCast]
  have d7 : (X % 16384 != 0) = false := by simp; omega
  have e9 := byteN_get s 9 g9
  have hb9 := byteN_lt s 9
  have hw9 : wrap64 (byteN s 9 : Int) = (byteN s 9 : Int) := by unfold wrap64; omega
  clear k1 k2 k3 k4
  go_enter Try.func56, Try.ntmps56
  go_wp2_with (first | (go_at_call 34; with_reducible refine ((C _).out).mono ?_; rintro e w1 ⟨rfl, rfl⟩) | (go_at_call 74; with_reducible refine (G.out _).mono ?_; rintro e w1 ⟨rfl, rfl⟩) | (go_at_call 34; with_reducible refine ((C6 _).out).mono ?_; rintro e w1 ⟨rfl, rfl⟩))
  clear h1 h2 f3 f4 f5 f6 G d1 g0 e0 hb0 d2 d2' hzi hz4 hw4 hb16 hw16 hW16 hb C HZ HV h5 hb6 hwX C6 d7
  go_region
  all_goals
    go_wp2
    refine bodyPost_ret (v := .tuple #[.agg #[.string (s.extract 12 16), .string (s.extract 16 20), .int .i64 (byteN s 9 : Int)], .string (s.extract (z) V), .int .i64 0]) (by simp [results, Try.results56, go_sem]) rfl ⟨rfl, ((Below.refl _ _).alloc (Nat.le_refl _) _).drew⟩

theorem ref4Parse_calls (s : ByteArray) (hs : s.size ≤ 4294967296) (w : World) :
    Calls Try.prog 56 #[.string s] w fun e w' => e = .returned (.tuple #[.agg #[.string (p4S s), .string (p4D s), .int .i64 (p4P s)], .string (p4R s), .int .i64 (p4E s)]) ∧ Below w.heap.size w w' := by
  by_cases h1 : s.size < 20
  · have e : p4E s = 2 := by unfold p4E; rw [if_pos h1]
    simpa [p4S, p4D, p4P, p4R, e] using r4_short s hs w h1
  · by_cases h2 : byteN s 0 / 16 = 4
    · cases h3 : c4 s with
      | true =>
        have e : p4E s = 4 := by unfold p4E; rw [if_neg h1, if_neg (by simp [h2]), if_pos h3]
        simpa [p4S, p4D, p4P, p4R, e] using r4_length s hs w h1 h2 h3
      | false =>
        cases h4 : goodS (s.extract 0 (z4 s)).data.toList with
        | false =>
          have e : p4E s = 5 := by unfold p4E; rw [if_neg h1, if_neg (by simp [h2]), if_neg (by rw [h3]; decide), if_pos h4]
          simpa [p4S, p4D, p4P, p4R, e] using r4_sum s hs w h1 h2 h3 h4
        | true =>
          by_cases h5 : getV s 6 2 % 16384 = 0
          · have e : p4E s = 0 := by unfold p4E; rw [if_neg h1, if_neg (by simp [h2]), if_neg (by rw [h3]; decide), if_neg (by rw [h4]; decide), if_neg (by simp [h5])]
            simpa [p4S, p4D, p4P, p4R, e] using r4_ok s hs w h1 h2 h3 h4 h5
          · have e : p4E s = 6 := by unfold p4E; rw [if_neg h1, if_neg (by simp [h2]), if_neg (by rw [h3]; decide), if_neg (by rw [h4]; decide), if_pos h5]
            simpa [p4S, p4D, p4P, p4R, e] using r4_frag s hs w h1 h2 h3 h4 h5
    · have e : p4E s = 3 := by unfold p4E; rw [if_neg h1, if_pos h2]
      simpa [p4S, p4D, p4P, p4R, e] using r4_vers s hs w h1 h2
end Go.Proofs.Ytjfijllnmjajpaa
