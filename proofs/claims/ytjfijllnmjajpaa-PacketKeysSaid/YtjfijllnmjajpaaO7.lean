/- gangplanklaw07: PacketKeys, walked. -/
import Derived.WalkKit
import Derived.Lib.Hide
import Derived.Laws.IdiomStrings
import Derived.BigQuiet
import Derived.Deep.QuietTactic
import Derived.Test.YtjfijllnmjajpaaK7
import Derived.Test.YtjfijllnmjajpaaRb
import Derived.Test.YtjfijllnmjajpaaRo
import Derived.Test.YtjfijllnmjajpaaRx
set_option linter.unusedSimpArgs false
set_option linter.unusedVariables false
namespace Go.Proofs.Ytjfijllnmjajpaa
open Go.RowKit Go.BigFrame

set_option maxHeartbeats 40000000 in
set_option maxRecDepth 100000 in
theorem ro_short (b : ByteArray) (hs : b.size ≤ 4294967296) (w : World) (h : ¬ b.size = 38) :
    Calls Try.prog 31 #[.string b] w fun e w' => e = .returned (.tuple #[.agg #[.int .i64 0, .string ⟨#[]⟩, .string ⟨#[]⟩, .int .i64 0, .int .i64 0, .int .i64 0], .bool false]) ∧ Below w.heap.size w w' := by
  have d : ((b.size : Int) != 38) = true := by rw [bne_iff_ne]; omega
  clear h
  go_enter Try.func31, Try.ntmps31
  go_wp2
  refine bodyPost_ret (v := .tuple #[.agg #[.int .i64 0, .string ⟨#[]⟩, .string ⟨#[]⟩, .int .i64 0, .int .i64 0, .int .i64 0], .bool false]) (by simp [results, Try.results31, go_sem]) rfl ⟨rfl, (Below.refl _ _).alloc (Nat.le_refl _) _⟩

theorem refOf_calls (b : ByteArray) (hs : b.size ≤ 4294967296) (w : World) :
    Calls Try.prog 31 #[.string b] w fun e w' => e = .returned (ofV b) ∧ Below w.heap.size w w' := by
  by_cases h : b.size = 38
  · by_cases h4 : byteN b 0 = 4
    · have hw : wN b = 4 := by unfold wN; rw [if_pos h4]
      have e1 : oS b = b.extract 6 10 := by unfold oS; rw [hw]
      have e2 : oD b = b.extract 22 26 := by unfold oD; rw [hw]
      have h4i : ((byteN b 0 : Nat) : Int) = 4 := by rw [h4]; rfl
      by_cases hG : oB b = true
      · rw [ofV_yes hG]
        rw [oB_iff, e1, e2, h4i] at hG
        rw [e1, e2, h4i]
        exact ro_4 b hs w h h4 _ (fun _ => rfl) (fun g => absurd hG.2 g)
      · rw [ofV_no hG]
        rw [oB_iff, e1, e2, h4i] at hG
        exact ro_4 b hs w h h4 _ (fun g => absurd ⟨h, g⟩ hG) (fun _ => rfl)
    · have hw : wN b = 16 := by unfold wN; rw [if_neg h4]
      have e1 : oS b = b.extract 6 22 := by unfold oS; rw [hw]
      have e2 : oD b = b.extract 22 38 := by unfold oD; rw [hw]
      by_cases hG : oB b = true
      · rw [ofV_yes hG]
        rw [oB_iff, e1, e2] at hG
        rw [e1, e2]
        exact ro_x b hs w h h4 _ (fun _ => rfl) (fun g => absurd hG.2 g)
      · rw [ofV_no hG]
        rw [oB_iff, e1, e2] at hG
        exact ro_x b hs w h h4 _ (fun g => absurd ⟨h, g⟩ hG) (fun _ => rfl)
  · have hG : ¬ oB b = true := fun g => h ((oB_iff b).1 g).1
    rw [ofV_no hG]
    exact ro_short b hs w h

set_option maxHeartbeats 2000000 in
set_option maxRecDepth 100000 in
theorem PacketKeys_walk (v : Int) (a b : ByteArray) (f t p : Int) (c : ByteArray) (h_a : a.size ≤ 9223372036854775807) (h_b : b.size ≤ 9223372036854775807) (h_c : c.size ≤ 9223372036854775807) (w : World) :
    Calls Try.prog 10 #[.agg #[.int .i64 v, .string a, .string b, .int .i64 f, .int .i64 t, .int .i64 p], .string c] w fun e w' => e = .returned (.bool true) ∧ Below w.heap.size w w' := by
  have CW := fun w => Lib.hid (works7 w)
  have cF := few_calls v a b f t p
  cases hF : (decide (a.size ≤ 300) && decide (b.size ≤ 300)) with
  | false =>
    rw [hF] at cF
    have CF := fun w => Lib.hid (cF w)
    clear cF hF
    go_enter Try.func10, Try.ntmps10
    go_wp2_with (go_at_call 20; with_reducible refine ((CW _).out).mono ?_)
    rintro e w1 ⟨rfl, hb1⟩
    have hk := ((Ky.new 40 v a b f t p w).later hb1)
    try simp only [World.size_alloc] at hk
    obtain ⟨hkc0, hkc1, hkc2, hkc3, hkc4, hkc5⟩ := hk.cells
    go_wp2_with (go_at_call 23; with_reducible refine ((CF _).out).mono ?_)
    rintro e w2 ⟨rfl, hb2⟩
    clear hk hkc0 hkc1 hkc2 hkc3 hkc4 hkc5
    have hB := (bl (bl ((Below.refl _ _).alloc (Nat.le_refl _) (.cells #[.int .i64 v, .string a, .string b, .int .i64 f, .int .i64 t, .int .i64 p] 40) : Below w.heap.size w (w.alloc _)) hb1) hb2)
    clear hb1 hb2
    go_wp2_with fail
    go_ret
    exact ⟨rfl, hB⟩
  | true =>
    rw [hF] at cF
    have CF := fun w => Lib.hid (cF w)
    clear hF cF
    by_cases gc : 300 < c.size
    · have d_c : decide (300 < (c.size : Int)) = true := by simp; omega
      clear gc
      go_enter Try.func10, Try.ntmps10
      go_wp2_with (go_at_call 20; with_reducible refine ((CW _).out).mono ?_)
      rintro e w1 ⟨rfl, hb1⟩
      have hk := ((Ky.new 40 v a b f t p w).later hb1)
      try simp only [World.size_alloc] at hk
      obtain ⟨hkc0, hkc1, hkc2, hkc3, hkc4, hkc5⟩ := hk.cells
      go_wp2_with (go_at_call 23; with_reducible refine ((CF _).out).mono ?_)
      rintro e w2 ⟨rfl, hb2⟩
      clear hk hkc0 hkc1 hkc2 hkc3 hkc4 hkc5
      have hB := (bl (bl ((Below.refl _ _).alloc (Nat.le_refl _) (.cells #[.int .i64 v, .string a, .string b, .int .i64 f, .int .i64 t, .int .i64 p] 40) : Below w.heap.size w (w.alloc _)) hb1) hb2)
      clear hb1 hb2
      go_wp2_with fail
      go_ret
      exact ⟨rfl, hB⟩
    have d_c : decide (300 < (c.size : Int)) = false := by simp; omega
    have l_c : c.size ≤ 300 := by omega
    clear gc
    have C1 := fun w => Lib.hid (bytes_calls v a b f t p h_a h_b w)
    have C2 := fun w => Lib.hid (refBytes_calls v a b f t p w)
    have c3 := packetOf_calls c (by omega)
    have c4 := refOf_calls c (by omega)
    unfold ofV at c3 c4
    have C3 := fun w => Lib.hid (c3 w)
    have C4 := fun w => Lib.hid (c4 w)
    clear c3 c4 l_c
    generalize bS v a b f t p = S at *
    generalize bR v a b f t p = R at *
    generalize oV c = M0 at *
    generalize oA c = M1 at *
    generalize oC c = M2 at *
    generalize oF c = M3 at *
    generalize oT c = M4 at *
    generalize oP c = M5 at *
    generalize oB c = G at *
    go_enter Try.func10, Try.ntmps10
    go_wp2_with (go_at_call 20; with_reducible refine ((CW _).out).mono ?_)
    rintro e w1 ⟨rfl, hb1⟩
    have hk := ((Ky.new 40 v a b f t p w).later hb1)
    try simp only [World.size_alloc] at hk
    obtain ⟨hkc0, hkc1, hkc2, hkc3, hkc4, hkc5⟩ := hk.cells
    go_wp2_with (go_at_call 23; with_reducible refine ((CF _).out).mono ?_)
    rintro e w2 ⟨rfl, hb2⟩
    clear hk hkc0 hkc1 hkc2 hkc3 hkc4 hkc5
    have hk := (((Ky.new 40 v a b f t p w).later hb1).later hb2)
    try simp only [World.size_alloc] at hk
    obtain ⟨hkc0, hkc1, hkc2, hkc3, hkc4, hkc5⟩ := hk.cells
    go_wp2_with (go_at_call 28; with_reducible refine ((C1 _).out).mono ?_)
    rintro e w3 ⟨rfl, hb3⟩
    clear hk hkc0 hkc1 hkc2 hkc3 hkc4 hkc5
    have hk := ((((Ky.new 40 v a b f t p w).later hb1).later hb2).later hb3)
    try simp only [World.size_alloc] at hk
    obtain ⟨hkc0, hkc1, hkc2, hkc3, hkc4, hkc5⟩ := hk.cells
    go_wp2_with (go_at_call 29; with_reducible refine ((C2 _).out).mono ?_)
    rintro e w4 ⟨rfl, hb4⟩
    clear hk hkc0 hkc1 hkc2 hkc3 hkc4 hkc5
    go_wp2_with (go_at_call 30; with_reducible refine ((C3 _).out).mono ?_)
    rintro e w5 ⟨rfl, hb5⟩
    go_wp2_with (go_at_call 31; with_reducible refine ((C4 _).out).mono ?_)
    rintro e w6 ⟨rfl, hb6⟩
    have hl := (((Ky.new 40 M0 M1 M2 M3 M4 M5 w5).later hb6).alloc (.cells #[.int .i64 M0, .string M1, .string M2, .int .i64 M3, .int .i64 M4, .int .i64 M5] 40))
    try simp only [World.size_alloc] at hl
    obtain ⟨hlc0, hlc1, hlc2, hlc3, hlc4, hlc5⟩ := hl.cells
    have hm := (Ky.new 40 M0 M1 M2 M3 M4 M5 w6)
    try simp only [World.size_alloc] at hm
    obtain ⟨hmc0, hmc1, hmc2, hmc3, hmc4, hmc5⟩ := hm.cells
    have hB := (bl (bl (bl (bl (bl (bl (bl (bl ((Below.refl _ _).alloc (Nat.le_refl _) (.cells #[.int .i64 v, .string a, .string b, .int .i64 f, .int .i64 t, .int .i64 p] 40) : Below w.heap.size w (w.alloc _)) hb1) hb2) hb3) hb4) hb5) ((Below.refl _ _).alloc (Nat.le_refl _) (.cells #[.int .i64 M0, .string M1, .string M2, .int .i64 M3, .int .i64 M4, .int .i64 M5] 40) : Below w5.heap.size w5 (w5.alloc _))) hb6) ((Below.refl _ _).alloc (Nat.le_refl _) (.cells #[.int .i64 M0, .string M1, .string M2, .int .i64 M3, .int .i64 M4, .int .i64 M5] 40) : Below w6.heap.size w6 (w6.alloc _)))
    clear hb1 hb2 hb3 hb4 hb5 hb6
    go_wp2_with fail
    go_ret
    exact ⟨rfl, hB⟩

end Go.Proofs.Ytjfijllnmjajpaa
