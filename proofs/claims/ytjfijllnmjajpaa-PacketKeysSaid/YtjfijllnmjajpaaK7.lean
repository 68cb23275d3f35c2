/- gangplanklaw07: works, Few, and two of the laws, walked. -/
import Derived.WalkKit
import Derived.Lib.Hide
import Derived.Laws.IdiomStrings
import Derived.Test.YtjfijllnmjajpaaPk
import Derived.Test.YtjfijllnmjajpaaRk
import Derived.Test.YtjfijllnmjajpaaPj
import Derived.Test.YtjfijllnmjajpaaOf
import Derived.Test.YtjfijllnmjajpaaB7
set_option linter.unusedSimpArgs false
set_option linter.unusedVariables false
namespace Go.Proofs.Ytjfijllnmjajpaa
open Go.RowKit Go.BigFrame

theorem app_nil7 (s : ByteArray) : s ++ ⟨#[]⟩ = s := ByteArray.append_empty
/-- What packet.Of answers at a key's bytes. -/
theorem ofV_bytes {v : Int} {a b : ByteArray} {f t p : Int} (h : bR v a b f t p = true) :
    ofV (bX v a b f t p) = .tuple #[.agg #[.int .i64 v, .string a, .string b, .int .i64 f, .int .i64 t, .int .i64 p], .bool true] := by
  obtain ⟨m1, m2, m3, m4, m5, m6⟩ := of_all h
  unfold ofV
  rw [m1, m2, m3, m4, m5, m6, oB_bytes h]
theorem bS_yes {v : Int} {a b : ByteArray} {f t p : Int} (h : bR v a b f t p = true) : bS v a b f t p = bX v a b f t p := by unfold bS; rw [if_pos h]

set_option maxHeartbeats 2000000 in
set_option maxRecDepth 100000 in
theorem works7 (w : World) : Calls Try.prog 20 #[] w fun e w' => e = .returned (.bool true) ∧ Below w.heap.size w w' := by
  have hp : puE 17 1 2 0 = 0 := by rw [puE_iff]; decide
  have hu : u4E ⟨#[1, 2, 3, 4]⟩ ⟨#[5, 6, 7, 8]⟩ 17 (puS 17 1 2 0) = 0 := by
    have := puS_le' 17 1 2 0
    rw [u4E_iff]
    exact ⟨rfl, rfl, by decide, by decide, by omega⟩
  have hE : jE 4 ⟨#[1, 2, 3, 4]⟩ ⟨#[5, 6, 7, 8]⟩ 1 2 17 0 = 0 := (jE_iff _ _ _ _ _ _ _).2 ⟨hp, Or.inl ⟨rfl, hu⟩⟩
  have hsz : (jS 4 ⟨#[1, 2, 3, 4]⟩ ⟨#[5, 6, 7, 8]⟩ 1 2 17 0).size = 28 := by rw [jS_4 hp, u4S_size hu, puS_size hp]; rfl
  have hR := right7 hE
  have hXz := (of_bytes hR).1
  have hOV := ofV_bytes hR
  have c1 := packetPut_calls 4 ⟨#[1, 2, 3, 4]⟩ ⟨#[5, 6, 7, 8]⟩ 1 2 17 0
  rw [hE] at c1
  obtain ⟨k1, k2, k3, k4, k5, k6, k7, k8⟩ := back7 4 ⟨#[1, 2, 3, 4]⟩ ⟨#[5, 6, 7, 8]⟩ 1 2 17 0 ⟨#[]⟩ hE
  rw [app_nil7] at k1 k2 k3 k4 k5 k6 k7 k8
  have c2 := packetParse_calls (jS 4 ⟨#[1, 2, 3, 4]⟩ ⟨#[5, 6, 7, 8]⟩ 1 2 17 0) (by omega)
  rw [k1, k2, k3, k4, k5, k6, k7, k8] at c2
  have c3 := bytes_calls 4 ⟨#[1, 2, 3, 4]⟩ ⟨#[5, 6, 7, 8]⟩ 1 2 17 (by decide) (by decide)
  rw [hR, bS_yes hR] at c3
  have c4 := packetOf_calls (bX 4 ⟨#[1, 2, 3, 4]⟩ ⟨#[5, 6, 7, 8]⟩ 1 2 17) (by omega)
  rw [hOV] at c4
  have c5 := packetParse_calls ⟨#[]⟩ (by decide)
  have hE0 : kE ⟨#[]⟩ = 2 := rfl
  obtain ⟨n1, n2, n3, n4, n5, n6, n7⟩ := k_none (s := ⟨#[]⟩) (by rw [hE0]; decide)
  rw [hE0, n1, n2, n3, n4, n5, n6, n7] at c5
  have c6 := closing_calls 0 ⟨#[]⟩ ⟨#[]⟩ 0 0 6 5
  have c7 := closing_calls 0 ⟨#[]⟩ ⟨#[]⟩ 0 0 17 5
  have e6 : cB 6 5 = true := by kernel_rfl
  have e7 : cB 17 5 = false := by kernel_rfl
  rw [e6] at c6
  rw [e7] at c7
  generalize jS 4 ⟨#[1, 2, 3, 4]⟩ ⟨#[5, 6, 7, 8]⟩ 1 2 17 0 = S at *
  generalize bX 4 ⟨#[1, 2, 3, 4]⟩ ⟨#[5, 6, 7, 8]⟩ 1 2 17 = X at *
  have hq : ((S.size : Int) == 28) = true := by rw [hsz]; rfl
  have hq2 : ((X.size : Int) == 38) = true := by rw [hXz]; rfl
  have C1 := fun w => Lib.hid (c1 w)
  have C2 := fun w => Lib.hid (c2 w)
  have C3 := fun w => Lib.hid (c3 w)
  have C4 := fun w => Lib.hid (c4 w)
  have C5 := fun w => Lib.hid (c5 w)
  have C6 := fun w => Lib.hid (c6 w)
  have C7 := fun w => Lib.hid (c7 w)
  clear c1 c2 c3 c4 c5 c6 c7 hE hp hu hR hOV hE0 n1 n2 n3 n4 n5 n6 n7 k1 k2 k3 k4 k5 k6 k7 k8 e6 e7 hsz hXz
  go_enter Try.func20, Try.ntmps20
  go_wp2_with (go_at_call 24; with_reducible refine ((C1 _).out).mono ?_)
  rintro e w1 ⟨rfl, hb1⟩
  go_wp2_with (go_at_call 21; with_reducible refine ((C2 _).out).mono ?_)
  rintro e w2 ⟨rfl, hb2⟩
  have hk := (((((Ky.new 40 4 ⟨#[1, 2, 3, 4]⟩ ⟨#[5, 6, 7, 8]⟩ 1 2 17 w).alloc (.cells #[.int .i64 4, .string ⟨#[1, 2, 3, 4]⟩, .string ⟨#[5, 6, 7, 8]⟩, .int .i64 1, .int .i64 2, .int .i64 17, .int .i64 0] 42)).later hb1).later hb2).alloc (.cells #[.int .i64 4, .string ⟨#[1, 2, 3, 4]⟩, .string ⟨#[5, 6, 7, 8]⟩, .int .i64 1, .int .i64 2, .int .i64 17, .int .i64 0] 42))
  try simp only [World.size_alloc] at hk
  obtain ⟨hkc0, hkc1, hkc2, hkc3, hkc4, hkc5⟩ := hk.cells
  go_wp2_with (go_at_call 28; with_reducible refine ((C3 _).out).mono ?_)
  rintro e w3 ⟨rfl, hb3⟩
  clear hk hkc0 hkc1 hkc2 hkc3 hkc4 hkc5
  go_wp2_with (go_at_call 30; with_reducible refine ((C4 _).out).mono ?_)
  rintro e w4 ⟨rfl, hb4⟩
  go_wp2_with (go_at_call 21; with_reducible refine ((C5 _).out).mono ?_)
  rintro e w5 ⟨rfl, hb5⟩
  have hk := ((((((((((Ky.new 40 4 ⟨#[1, 2, 3, 4]⟩ ⟨#[5, 6, 7, 8]⟩ 1 2 17 w).alloc (.cells #[.int .i64 4, .string ⟨#[1, 2, 3, 4]⟩, .string ⟨#[5, 6, 7, 8]⟩, .int .i64 1, .int .i64 2, .int .i64 17, .int .i64 0] 42)).later hb1).later hb2).alloc (.cells #[.int .i64 4, .string ⟨#[1, 2, 3, 4]⟩, .string ⟨#[5, 6, 7, 8]⟩, .int .i64 1, .int .i64 2, .int .i64 17, .int .i64 0] 42)).later hb3).later hb4).alloc (.cells #[.int .i64 4, .string ⟨#[1, 2, 3, 4]⟩, .string ⟨#[5, 6, 7, 8]⟩, .int .i64 1, .int .i64 2, .int .i64 17] 40)).later hb5).alloc (.cells #[.int .i64 0, .string ⟨#[]⟩, .string ⟨#[]⟩, .int .i64 0, .int .i64 0, .int .i64 0, .int .i64 0] 42))
  try simp only [World.size_alloc] at hk
  obtain ⟨hkc0, hkc1, hkc2, hkc3, hkc4, hkc5⟩ := hk.cells
  have hp := (((((((((Pk.new 42 4 ⟨#[1, 2, 3, 4]⟩ ⟨#[5, 6, 7, 8]⟩ 1 2 17 0 (w.alloc (.cells #[.int .i64 4, .string ⟨#[1, 2, 3, 4]⟩, .string ⟨#[5, 6, 7, 8]⟩, .int .i64 1, .int .i64 2, .int .i64 17] 40))).later hb1).later hb2).alloc (.cells #[.int .i64 4, .string ⟨#[1, 2, 3, 4]⟩, .string ⟨#[5, 6, 7, 8]⟩, .int .i64 1, .int .i64 2, .int .i64 17, .int .i64 0] 42)).later hb3).later hb4).alloc (.cells #[.int .i64 4, .string ⟨#[1, 2, 3, 4]⟩, .string ⟨#[5, 6, 7, 8]⟩, .int .i64 1, .int .i64 2, .int .i64 17] 40)).later hb5).alloc (.cells #[.int .i64 0, .string ⟨#[]⟩, .string ⟨#[]⟩, .int .i64 0, .int .i64 0, .int .i64 0, .int .i64 0] 42))
  try simp only [World.size_alloc] at hp
  obtain ⟨hpc0, hpc1, hpc2, hpc3, hpc4, hpc5, hpc6⟩ := hp.cells
  have hq3 := ((((((Pk.new 42 4 ⟨#[1, 2, 3, 4]⟩ ⟨#[5, 6, 7, 8]⟩ 1 2 17 0 w2).later hb3).later hb4).alloc (.cells #[.int .i64 4, .string ⟨#[1, 2, 3, 4]⟩, .string ⟨#[5, 6, 7, 8]⟩, .int .i64 1, .int .i64 2, .int .i64 17] 40)).later hb5).alloc (.cells #[.int .i64 0, .string ⟨#[]⟩, .string ⟨#[]⟩, .int .i64 0, .int .i64 0, .int .i64 0, .int .i64 0] 42))
  try simp only [World.size_alloc] at hq3
  obtain ⟨hq3c0, hq3c1, hq3c2, hq3c3, hq3c4, hq3c5, hq3c6⟩ := hq3.cells
  have hl := (((Ky.new 40 4 ⟨#[1, 2, 3, 4]⟩ ⟨#[5, 6, 7, 8]⟩ 1 2 17 w4).later hb5).alloc (.cells #[.int .i64 0, .string ⟨#[]⟩, .string ⟨#[]⟩, .int .i64 0, .int .i64 0, .int .i64 0, .int .i64 0] 42))
  try simp only [World.size_alloc] at hl
  obtain ⟨hlc0, hlc1, hlc2, hlc3, hlc4, hlc5⟩ := hl.cells
  go_wp2_with (go_at_call 26; with_reducible refine ((C6 _).out).mono ?_)
  rintro e w6 ⟨rfl, hb6⟩
  clear hk hkc0 hkc1 hkc2 hkc3 hkc4 hkc5
  clear hp hpc0 hpc1 hpc2 hpc3 hpc4 hpc5 hpc6
  clear hq3 hq3c0 hq3c1 hq3c2 hq3c3 hq3c4 hq3c5 hq3c6
  clear hl hlc0 hlc1 hlc2 hlc3 hlc4 hlc5
  go_wp2_with (go_at_call 26; with_reducible refine ((C7 _).out).mono ?_)
  rintro e w7 ⟨rfl, hb7⟩
  have hB := (bl (bl (bl (bl (bl (bl (bl (bl (bl (bl (bl ((Below.refl _ _).alloc (Nat.le_refl _) (.cells #[.int .i64 4, .string ⟨#[1, 2, 3, 4]⟩, .string ⟨#[5, 6, 7, 8]⟩, .int .i64 1, .int .i64 2, .int .i64 17] 40) : Below w.heap.size w (w.alloc _)) ((Below.refl _ _).alloc (Nat.le_refl _) (.cells #[.int .i64 4, .string ⟨#[1, 2, 3, 4]⟩, .string ⟨#[5, 6, 7, 8]⟩, .int .i64 1, .int .i64 2, .int .i64 17, .int .i64 0] 42) : Below (w.alloc (.cells #[.int .i64 4, .string ⟨#[1, 2, 3, 4]⟩, .string ⟨#[5, 6, 7, 8]⟩, .int .i64 1, .int .i64 2, .int .i64 17] 40)).heap.size (w.alloc (.cells #[.int .i64 4, .string ⟨#[1, 2, 3, 4]⟩, .string ⟨#[5, 6, 7, 8]⟩, .int .i64 1, .int .i64 2, .int .i64 17] 40)) ((w.alloc (.cells #[.int .i64 4, .string ⟨#[1, 2, 3, 4]⟩, .string ⟨#[5, 6, 7, 8]⟩, .int .i64 1, .int .i64 2, .int .i64 17] 40)).alloc _))) hb1) hb2) ((Below.refl _ _).alloc (Nat.le_refl _) (.cells #[.int .i64 4, .string ⟨#[1, 2, 3, 4]⟩, .string ⟨#[5, 6, 7, 8]⟩, .int .i64 1, .int .i64 2, .int .i64 17, .int .i64 0] 42) : Below w2.heap.size w2 (w2.alloc _))) hb3) hb4) ((Below.refl _ _).alloc (Nat.le_refl _) (.cells #[.int .i64 4, .string ⟨#[1, 2, 3, 4]⟩, .string ⟨#[5, 6, 7, 8]⟩, .int .i64 1, .int .i64 2, .int .i64 17] 40) : Below w4.heap.size w4 (w4.alloc _))) hb5) ((Below.refl _ _).alloc (Nat.le_refl _) (.cells #[.int .i64 0, .string ⟨#[]⟩, .string ⟨#[]⟩, .int .i64 0, .int .i64 0, .int .i64 0, .int .i64 0] 42) : Below w5.heap.size w5 (w5.alloc _))) hb6) hb7)
  clear hb1 hb2 hb3 hb4 hb5 hb6 hb7
  go_wp2_with fail
  go_ret
  exact ⟨rfl, hB⟩

set_option maxHeartbeats 2000000 in
set_option maxRecDepth 100000 in
theorem few_calls (v : Int) (a b : ByteArray) (f t p : Int) (w : World) :
    Calls Try.prog 23 #[.agg #[.int .i64 v, .string a, .string b, .int .i64 f, .int .i64 t, .int .i64 p]] w fun e w' => e = .returned (.bool (decide (a.size ≤ 300) && decide (b.size ≤ 300))) ∧ Below w.heap.size w w' := by
  cases h1 : decide (a.size ≤ 300) with
  | true =>
    have d1 : decide ((a.size : Int) ≤ 300) = true := by simp at h1 ⊢; omega
    cases h2 : decide (b.size ≤ 300) with
    | true =>
      have d2 : decide ((b.size : Int) ≤ 300) = true := by simp at h2 ⊢; omega
      go_enter Try.func23, Try.ntmps23
      go_wp2
      go_ret
      exact ⟨rfl, (Below.refl _ _).alloc (Nat.le_refl _) _⟩
    | false =>
      have d2 : decide ((b.size : Int) ≤ 300) = false := by simp at h2 ⊢; omega
      go_enter Try.func23, Try.ntmps23
      go_wp2
      go_ret
      exact ⟨rfl, (Below.refl _ _).alloc (Nat.le_refl _) _⟩
  | false =>
    have d1 : decide ((a.size : Int) ≤ 300) = false := by simp at h1 ⊢; omega
    go_enter Try.func23, Try.ntmps23
    go_wp2
    go_ret
    exact ⟨rfl, (Below.refl _ _).alloc (Nat.le_refl _) _⟩

set_option maxHeartbeats 2000000 in
set_option maxRecDepth 100000 in
theorem PacketParses_walk (s : ByteArray) (h_s : s.size ≤ 9223372036854775807) (w : World) :
    Calls Try.prog 8 #[.string s] w fun e w' => e = .returned (.bool true) ∧ Below w.heap.size w w' := by
  have CW := fun w => Lib.hid (works7 w)
  by_cases g_s : 300 < s.size
  · have d_s : decide (300 < (s.size : Int)) = true := by simp; omega
    clear g_s
    go_enter Try.func8, Try.ntmps8
    go_wp2_with (go_at_call 20; with_reducible refine ((CW _).out).mono ?_)
    rintro e w1 ⟨rfl, hb1⟩
    go_wp2_with fail
    go_ret
    exact ⟨rfl, hb1⟩
  have d_s : decide (300 < (s.size : Int)) = false := by simp; omega
  have l_s : s.size ≤ 300 := by omega
  clear g_s
  have C1 := fun w => Lib.hid (packetParse_calls s (by omega) w)
  have C2 := fun w => Lib.hid (refPacketParse_calls s (by omega) w)
  generalize kV s = V at *
  generalize kA s = A at *
  generalize kB s = B at *
  generalize kF s = F at *
  generalize kT s = T at *
  generalize kP s = P at *
  generalize kG s = G at *
  generalize kE s = E at *
  go_enter Try.func8, Try.ntmps8
  go_wp2_with (go_at_call 20; with_reducible refine ((CW _).out).mono ?_)
  rintro e w1 ⟨rfl, hb1⟩
  go_wp2_with (go_at_call 21; with_reducible refine ((C1 _).out).mono ?_)
  rintro e w2 ⟨rfl, hb2⟩
  go_wp2_with (go_at_call 22; with_reducible refine ((C2 _).out).mono ?_)
  rintro e w3 ⟨rfl, hb3⟩
  have hp := (((Pk.new 42 V A B F T P G w2).later hb3).alloc (.cells #[.int .i64 V, .string A, .string B, .int .i64 F, .int .i64 T, .int .i64 P, .int .i64 G] 42))
  try simp only [World.size_alloc] at hp
  obtain ⟨hpc0, hpc1, hpc2, hpc3, hpc4, hpc5, hpc6⟩ := hp.cells
  have hB := (bl (bl (bl (bl hb1 hb2) ((Below.refl _ _).alloc (Nat.le_refl _) (.cells #[.int .i64 V, .string A, .string B, .int .i64 F, .int .i64 T, .int .i64 P, .int .i64 G] 42) : Below w2.heap.size w2 (w2.alloc _))) hb3) ((Below.refl _ _).alloc (Nat.le_refl _) (.cells #[.int .i64 V, .string A, .string B, .int .i64 F, .int .i64 T, .int .i64 P, .int .i64 G] 42) : Below w3.heap.size w3 (w3.alloc _)))
  clear hb1 hb2 hb3
  go_wp2_with fail
  go_ret
  exact ⟨rfl, hB⟩

set_option maxHeartbeats 2000000 in
set_option maxRecDepth 100000 in
theorem PacketHeld_walk (s : ByteArray) (h_s : s.size ≤ 9223372036854775807) (w : World) :
    Calls Try.prog 12 #[.string s] w fun e w' => e = .returned (.bool true) ∧ Below w.heap.size w w' := by
  have CW := fun w => Lib.hid (works7 w)
  by_cases g_s : 300 < s.size
  · have d_s : decide (300 < (s.size : Int)) = true := by simp; omega
    clear g_s
    go_enter Try.func12, Try.ntmps12
    go_wp2_with (go_at_call 20; with_reducible refine ((CW _).out).mono ?_)
    rintro e w1 ⟨rfl, hb1⟩
    go_wp2_with fail
    go_ret
    exact ⟨rfl, hb1⟩
  have d_s : decide (300 < (s.size : Int)) = false := by simp; omega
  have l_s : s.size ≤ 300 := by omega
  clear g_s
  have c1 := packetParse_calls s (by omega)
  by_cases hE : kE s = 0
  · obtain ⟨hJ, hle⟩ := held7 s hE
    have hR := right7 hJ
    obtain ⟨k1, k2, k3, k4, k5, k6, k7, k8⟩ := back7 _ _ _ _ _ _ _ ⟨#[]⟩ hJ
    rw [app_nil7] at k1 k2 k3 k4 k5 k6 k7 k8
    have c2 := packetPut_calls (kV s) (kA s) (kB s) (kF s) (kT s) (kP s) (kG s)
    rw [hJ] at c2
    rw [hE] at c1
    have c3 := packetParse_calls (jS (kV s) (kA s) (kB s) (kF s) (kT s) (kP s) (kG s)) (by omega)
    rw [k1, k2, k3, k4, k5, k6, k7, k8] at c3
    have hb := (bR_iff' _ _ _ _ _ _).1 hR
    have c4 := bytes_calls (kV s) (kA s) (kB s) (kF s) (kT s) (kP s) (by omega) (by omega)
    rw [hR, bS_yes hR] at c4
    have hXz := (of_bytes hR).1
    have c5 := packetOf_calls (bX (kV s) (kA s) (kB s) (kF s) (kT s) (kP s)) (by omega)
    rw [ofV_bytes hR] at c5
    clear k1 k2 k3 k4 k5 k6 k7 k8 hJ hR hb hE
    generalize jS (kV s) (kA s) (kB s) (kF s) (kT s) (kP s) (kG s) = S at *
    generalize bX (kV s) (kA s) (kB s) (kF s) (kT s) (kP s) = X at *
    generalize kV s = V at *
    generalize kA s = A at *
    generalize kB s = B at *
    generalize kF s = F at *
    generalize kT s = T at *
    generalize kP s = P at *
    generalize kG s = G at *
    have hq : decide ((S.size : Int) ≤ (s.size : Int)) = true := by simp; omega
    have hq2 : decide (S.size ≤ s.size) = true := by simp; omega
    have C1 := fun w => Lib.hid (c1 w)
    have C2 := fun w => Lib.hid (c2 w)
    have C3 := fun w => Lib.hid (c3 w)
    have C4 := fun w => Lib.hid (c4 w)
    have C5 := fun w => Lib.hid (c5 w)
    clear c1 c2 c3 c4 c5 hXz hle
    go_enter Try.func12, Try.ntmps12
    go_wp2_with (go_at_call 20; with_reducible refine ((CW _).out).mono ?_)
    rintro e w1 ⟨rfl, hb1⟩
    go_wp2_with (go_at_call 21; with_reducible refine ((C1 _).out).mono ?_)
    rintro e w2 ⟨rfl, hb2⟩
    go_wp2_with (go_at_call 24; with_reducible refine ((C2 _).out).mono ?_)
    rintro e w3 ⟨rfl, hb3⟩
    go_wp2_with (go_at_call 21; with_reducible refine ((C3 _).out).mono ?_)
    rintro e w4 ⟨rfl, hb4⟩
    have hp := ((((Pk.new 42 V A B F T P G w2).later hb3).later hb4).alloc (.cells #[.int .i64 V, .string A, .string B, .int .i64 F, .int .i64 T, .int .i64 P, .int .i64 G] 42))
    try simp only [World.size_alloc] at hp
    obtain ⟨hpc0, hpc1, hpc2, hpc3, hpc4, hpc5, hpc6⟩ := hp.cells
    go_wp2_with (go_at_call 28; with_reducible refine ((C4 _).out).mono ?_)
    rintro e w5 ⟨rfl, hb5⟩
    clear hp hpc0 hpc1 hpc2 hpc3 hpc4 hpc5 hpc6
    go_wp2_with (go_at_call 30; with_reducible refine ((C5 _).out).mono ?_)
    rintro e w6 ⟨rfl, hb6⟩
    have hp := (((((((Pk.new 42 V A B F T P G w2).later hb3).later hb4).alloc (.cells #[.int .i64 V, .string A, .string B, .int .i64 F, .int .i64 T, .int .i64 P, .int .i64 G] 42)).later hb5).later hb6).alloc (.cells #[.int .i64 V, .string A, .string B, .int .i64 F, .int .i64 T, .int .i64 P] 40))
    try simp only [World.size_alloc] at hp
    obtain ⟨hpc0, hpc1, hpc2, hpc3, hpc4, hpc5, hpc6⟩ := hp.cells
    have hq3 := ((((Pk.new 42 V A B F T P G w4).later hb5).later hb6).alloc (.cells #[.int .i64 V, .string A, .string B, .int .i64 F, .int .i64 T, .int .i64 P] 40))
    try simp only [World.size_alloc] at hq3
    obtain ⟨hq3c0, hq3c1, hq3c2, hq3c3, hq3c4, hq3c5, hq3c6⟩ := hq3.cells
    have hB := (bl (bl (bl (bl (bl (bl (bl (bl hb1 hb2) ((Below.refl _ _).alloc (Nat.le_refl _) (.cells #[.int .i64 V, .string A, .string B, .int .i64 F, .int .i64 T, .int .i64 P, .int .i64 G] 42) : Below w2.heap.size w2 (w2.alloc _))) hb3) hb4) ((Below.refl _ _).alloc (Nat.le_refl _) (.cells #[.int .i64 V, .string A, .string B, .int .i64 F, .int .i64 T, .int .i64 P, .int .i64 G] 42) : Below w4.heap.size w4 (w4.alloc _))) hb5) hb6) ((Below.refl _ _).alloc (Nat.le_refl _) (.cells #[.int .i64 V, .string A, .string B, .int .i64 F, .int .i64 T, .int .i64 P] 40) : Below w6.heap.size w6 (w6.alloc _)))
    clear hb1 hb2 hb3 hb4 hb5 hb6
    go_wp2_with fail
    go_ret
    exact ⟨rfl, hB⟩
  · obtain ⟨n1, n2, n3, n4, n5, n6, n7⟩ := k_none hE
    rw [n1, n2, n3, n4, n5, n6, n7] at c1
    have d0 : (kE s != 0) = true := by simpa using hE
    generalize kE s = E at *
    have C1 := fun w => Lib.hid (c1 w)
    clear c1 n1 n2 n3 n4 n5 n6 n7 hE
    go_enter Try.func12, Try.ntmps12
    go_wp2_with (go_at_call 20; with_reducible refine ((CW _).out).mono ?_)
    rintro e w1 ⟨rfl, hb1⟩
    go_wp2_with (go_at_call 21; with_reducible refine ((C1 _).out).mono ?_)
    rintro e w2 ⟨rfl, hb2⟩
    have hB := (bl (bl hb1 hb2) ((Below.refl _ _).alloc (Nat.le_refl _) (.cells #[.int .i64 0, .string ⟨#[]⟩, .string ⟨#[]⟩, .int .i64 0, .int .i64 0, .int .i64 0, .int .i64 0] 42) : Below w2.heap.size w2 (w2.alloc _)))
    clear hb1 hb2
    go_wp2_with fail
    go_ret
    exact ⟨rfl, hB⟩

end Go.Proofs.Ytjfijllnmjajpaa
