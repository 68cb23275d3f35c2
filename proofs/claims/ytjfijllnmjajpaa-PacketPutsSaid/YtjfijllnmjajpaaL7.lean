/- gangplanklaw07: PacketPuts, PacketBack, PacketCut, walked. -/
import Derived.WalkKit
import Derived.Lib.Hide
import Derived.Laws.IdiomStrings
import Derived.BigQuiet
import Derived.Deep.QuietTactic
import Derived.Test.YtjfijllnmjajpaaK7
set_option linter.unusedSimpArgs false
set_option linter.unusedVariables false
namespace Go.Proofs.Ytjfijllnmjajpaa
open Go.RowKit Go.BigFrame

set_option maxHeartbeats 2000000 in
set_option maxRecDepth 100000 in
theorem PacketPuts_walk (v : Int) (a b : ByteArray) (f t p g : Int) (h_a : a.size ≤ 9223372036854775807) (h_b : b.size ≤ 9223372036854775807) (w : World) :
    Calls Try.prog 9 #[.agg #[.int .i64 v, .string a, .string b, .int .i64 f, .int .i64 t, .int .i64 p, .int .i64 g]] w fun e w' => e = .returned (.bool true) ∧ Below w.heap.size w w' := by
  have CW := fun w => Lib.hid (works7 w)
  have cF := few_calls v a b f t p
  cases hF : (decide (a.size ≤ 300) && decide (b.size ≤ 300)) with
  | false =>
    rw [hF] at cF
    have CF := fun w => Lib.hid (cF w)
    clear cF hF
    go_enter Try.func9, Try.ntmps9
    go_wp2_with (go_at_call 20; with_reducible refine ((CW _).out).mono ?_)
    rintro e w1 ⟨rfl, hb1⟩
    have hp := ((Pk.new 42 v a b f t p g w).later hb1)
    try simp only [World.size_alloc] at hp
    obtain ⟨hpc0, hpc1, hpc2, hpc3, hpc4, hpc5, hpc6⟩ := hp.cells
    go_wp2_with (go_at_call 23; with_reducible refine ((CF _).out).mono ?_)
    rintro e w2 ⟨rfl, hb2⟩
    have hB := (bl (bl ((Below.refl _ _).alloc (Nat.le_refl _) (.cells #[.int .i64 v, .string a, .string b, .int .i64 f, .int .i64 t, .int .i64 p, .int .i64 g] 42) : Below w.heap.size w (w.alloc _)) hb1) hb2)
    clear hb1 hb2
    clear hp hpc0 hpc1 hpc2 hpc3 hpc4 hpc5 hpc6
    go_wp2_with fail
    go_ret
    exact ⟨rfl, hB⟩
  | true =>
    rw [hF] at cF
    have CF := fun w => Lib.hid (cF w)
    have C1 := fun w => Lib.hid (packetPut_calls v a b f t p g w)
    have C2 := fun w => Lib.hid (refPacketPut_calls v a b f t p g w)
    have C3 := fun w => Lib.hid (closing_calls v a b f t p g w)
    have C4 := fun w => Lib.hid (refClosing_calls v a b f t p g w)
    generalize jS v a b f t p g = S at *
    generalize jE v a b f t p g = E at *
    generalize cB p g = G at *
    clear cF hF
    go_enter Try.func9, Try.ntmps9
    go_wp2_with (go_at_call 20; with_reducible refine ((CW _).out).mono ?_)
    rintro e w1 ⟨rfl, hb1⟩
    have hp := ((Pk.new 42 v a b f t p g w).later hb1)
    try simp only [World.size_alloc] at hp
    obtain ⟨hpc0, hpc1, hpc2, hpc3, hpc4, hpc5, hpc6⟩ := hp.cells
    go_wp2_with (go_at_call 23; with_reducible refine ((CF _).out).mono ?_)
    rintro e w2 ⟨rfl, hb2⟩
    clear hp hpc0 hpc1 hpc2 hpc3 hpc4 hpc5 hpc6
    have hp := (((Pk.new 42 v a b f t p g w).later hb1).later hb2)
    try simp only [World.size_alloc] at hp
    obtain ⟨hpc0, hpc1, hpc2, hpc3, hpc4, hpc5, hpc6⟩ := hp.cells
    go_wp2_with (go_at_call 24; with_reducible refine ((C1 _).out).mono ?_)
    rintro e w3 ⟨rfl, hb3⟩
    clear hp hpc0 hpc1 hpc2 hpc3 hpc4 hpc5 hpc6
    have hp := ((((Pk.new 42 v a b f t p g w).later hb1).later hb2).later hb3)
    try simp only [World.size_alloc] at hp
    obtain ⟨hpc0, hpc1, hpc2, hpc3, hpc4, hpc5, hpc6⟩ := hp.cells
    go_wp2_with (go_at_call 25; with_reducible refine ((C2 _).out).mono ?_)
    rintro e w4 ⟨rfl, hb4⟩
    clear hp hpc0 hpc1 hpc2 hpc3 hpc4 hpc5 hpc6
    have hP := (((((Pk.new 42 v a b f t p g w).later hb1).later hb2).later hb3).later hb4)
    have hB := (bl (bl (bl (bl ((Below.refl _ _).alloc (Nat.le_refl _) (.cells #[.int .i64 v, .string a, .string b, .int .i64 f, .int .i64 t, .int .i64 p, .int .i64 g] 42) : Below w.heap.size w (w.alloc _)) hb1) hb2) hb3) hb4)
    clear hb1 hb2 hb3 hb4
    have q : ∀ x : Later w4, Pk 42 w.heap.size v a b f t p g x.world := fun x => hP.later x.below
    have q0 : ∀ x : Later w4, x.world.cell? ⟨w.heap.size, 0, none⟩ = some (.int .i64 v) := fun x => (q x).cells.1
    have q1 : ∀ x : Later w4, x.world.cell? ⟨w.heap.size, 1, none⟩ = some (.string a) := fun x => (q x).cells.2.1
    have q2 : ∀ x : Later w4, x.world.cell? ⟨w.heap.size, 2, none⟩ = some (.string b) := fun x => (q x).cells.2.2.1
    have q3 : ∀ x : Later w4, x.world.cell? ⟨w.heap.size, 3, none⟩ = some (.int .i64 f) := fun x => (q x).cells.2.2.2.1
    have q4 : ∀ x : Later w4, x.world.cell? ⟨w.heap.size, 4, none⟩ = some (.int .i64 t) := fun x => (q x).cells.2.2.2.2.1
    have q5 : ∀ x : Later w4, x.world.cell? ⟨w.heap.size, 5, none⟩ = some (.int .i64 p) := fun x => (q x).cells.2.2.2.2.2.1
    have q6 : ∀ x : Later w4, x.world.cell? ⟨w.heap.size, 6, none⟩ = some (.int .i64 g) := fun x => (q x).cells.2.2.2.2.2.2
    clear q hP
    go_wp2_with fail
    refine wp_region_later (by kernel_rfl) (by kernel_rfl) ?_
    repeat (go_big_quiet_step (first | (go_at_call 26; with_reducible exact calls_later (C3 _).out) | (go_at_call 27; with_reducible exact calls_later (C4 _).out)))
    refine wpQuiet_nil ?_
    rintro _ ⟨x, rfl⟩
    have hB2 := bl hB x.below
    clear q0 q1 q2 q3 q4 q5 q6 hB
    go_wp2_with fail
    go_ret
    exact ⟨rfl, hB2⟩

set_option maxHeartbeats 2000000 in
set_option maxRecDepth 100000 in
theorem PacketBack_walk (v : Int) (a b : ByteArray) (f t p g : Int) (behind : ByteArray) (h_a : a.size ≤ 9223372036854775807) (h_b : b.size ≤ 9223372036854775807) (h_behind : behind.size ≤ 9223372036854775807) (w : World) :
    Calls Try.prog 11 #[.agg #[.int .i64 v, .string a, .string b, .int .i64 f, .int .i64 t, .int .i64 p, .int .i64 g], .string behind] w fun e w' => e = .returned (.bool true) ∧ Below w.heap.size w w' := by
  have CW := fun w => Lib.hid (works7 w)
  have cF := few_calls v a b f t p
  cases hF : (decide (a.size ≤ 300) && decide (b.size ≤ 300)) with
  | false =>
    rw [hF] at cF
    have CF := fun w => Lib.hid (cF w)
    clear cF hF
    go_enter Try.func11, Try.ntmps11
    go_wp2_with (go_at_call 20; with_reducible refine ((CW _).out).mono ?_)
    rintro e w1 ⟨rfl, hb1⟩
    have hp := ((Pk.new 42 v a b f t p g w).later hb1)
    try simp only [World.size_alloc] at hp
    obtain ⟨hpc0, hpc1, hpc2, hpc3, hpc4, hpc5, hpc6⟩ := hp.cells
    go_wp2_with (go_at_call 23; with_reducible refine ((CF _).out).mono ?_)
    rintro e w2 ⟨rfl, hb2⟩
    have hB := (bl (bl ((Below.refl _ _).alloc (Nat.le_refl _) (.cells #[.int .i64 v, .string a, .string b, .int .i64 f, .int .i64 t, .int .i64 p, .int .i64 g] 42) : Below w.heap.size w (w.alloc _)) hb1) hb2)
    clear hb1 hb2
    clear hp hpc0 hpc1 hpc2 hpc3 hpc4 hpc5 hpc6
    go_wp2_with fail
    go_ret
    exact ⟨rfl, hB⟩
  | true =>
    rw [hF] at cF
    have CF := fun w => Lib.hid (cF w)
    have l_ab : a.size ≤ 300 ∧ b.size ≤ 300 := by simpa using hF
    clear cF hF
    by_cases gb : 300 < behind.size
    · have d_b : decide (300 < (behind.size : Int)) = true := by simp; omega
      clear gb l_ab
      go_enter Try.func11, Try.ntmps11
      go_wp2_with (go_at_call 20; with_reducible refine ((CW _).out).mono ?_)
      rintro e w1 ⟨rfl, hb1⟩
      have hp := ((Pk.new 42 v a b f t p g w).later hb1)
      try simp only [World.size_alloc] at hp
      obtain ⟨hpc0, hpc1, hpc2, hpc3, hpc4, hpc5, hpc6⟩ := hp.cells
      go_wp2_with (go_at_call 23; with_reducible refine ((CF _).out).mono ?_)
      rintro e w2 ⟨rfl, hb2⟩
      have hB := (bl (bl ((Below.refl _ _).alloc (Nat.le_refl _) (.cells #[.int .i64 v, .string a, .string b, .int .i64 f, .int .i64 t, .int .i64 p, .int .i64 g] 42) : Below w.heap.size w (w.alloc _)) hb1) hb2)
      clear hb1 hb2
      clear hp hpc0 hpc1 hpc2 hpc3 hpc4 hpc5 hpc6
      go_wp2_with fail
      go_ret
      exact ⟨rfl, hB⟩
    · have d_b : decide (300 < (behind.size : Int)) = false := by simp; omega
      have l_b : behind.size ≤ 300 := by omega
      clear gb
      have c1 := packetPut_calls v a b f t p g
      by_cases hE : jE v a b f t p g = 0
      · obtain ⟨k1, k2, k3, k4, k5, k6, k7, k8⟩ := back7 v a b f t p g behind hE
        have hR := right7 hE
        have hle := jS_le v a b f t p g
        rw [hE] at c1
        have c2 := packetParse_calls (jS v a b f t p g ++ behind) (by rw [ByteArray.size_append]; omega)
        rw [k1, k2, k3, k4, k5, k6, k7, k8] at c2
        have c3 := bytes_calls v a b f t p h_a h_b
        rw [hR] at c3
        generalize bS v a b f t p = X at *
        generalize jS v a b f t p g = S at *
        have n1 : ¬ (9223372036854775807 < S.size + behind.size) := by omega
        have C1 := fun w => Lib.hid (c1 w)
        have C2 := fun w => Lib.hid (c2 w)
        have C3 := fun w => Lib.hid (c3 w)
        clear c1 c2 c3 k1 k2 k3 k4 k5 k6 k7 k8 hE hR hle l_ab l_b
        go_enter Try.func11, Try.ntmps11
        go_wp2_with (go_at_call 20; with_reducible refine ((CW _).out).mono ?_)
        rintro e w1 ⟨rfl, hb1⟩
        have hp := ((Pk.new 42 v a b f t p g w).later hb1)
        try simp only [World.size_alloc] at hp
        obtain ⟨hpc0, hpc1, hpc2, hpc3, hpc4, hpc5, hpc6⟩ := hp.cells
        go_wp2_with (go_at_call 23; with_reducible refine ((CF _).out).mono ?_)
        rintro e w2 ⟨rfl, hb2⟩
        clear hp hpc0 hpc1 hpc2 hpc3 hpc4 hpc5 hpc6
        have hp := (((Pk.new 42 v a b f t p g w).later hb1).later hb2)
        try simp only [World.size_alloc] at hp
        obtain ⟨hpc0, hpc1, hpc2, hpc3, hpc4, hpc5, hpc6⟩ := hp.cells
        go_wp2_with (go_at_call 24; with_reducible refine ((C1 _).out).mono ?_)
        rintro e w3 ⟨rfl, hb3⟩
        clear hp hpc0 hpc1 hpc2 hpc3 hpc4 hpc5 hpc6
        go_wp2_with (go_at_call 21; with_reducible refine ((C2 _).out).mono ?_)
        rintro e w4 ⟨rfl, hb4⟩
        have hp := ((((((Pk.new 42 v a b f t p g w).later hb1).later hb2).later hb3).later hb4).alloc (.cells #[.int .i64 v, .string a, .string b, .int .i64 f, .int .i64 t, .int .i64 p, .int .i64 g] 42))
        try simp only [World.size_alloc] at hp
        obtain ⟨hpc0, hpc1, hpc2, hpc3, hpc4, hpc5, hpc6⟩ := hp.cells
        go_wp2_with (go_at_call 28; with_reducible refine ((C3 _).out).mono ?_)
        rintro e w5 ⟨rfl, hb5⟩
        clear hp hpc0 hpc1 hpc2 hpc3 hpc4 hpc5 hpc6
        have hp := (((((((Pk.new 42 v a b f t p g w).later hb1).later hb2).later hb3).later hb4).alloc (.cells #[.int .i64 v, .string a, .string b, .int .i64 f, .int .i64 t, .int .i64 p, .int .i64 g] 42)).later hb5)
        try simp only [World.size_alloc] at hp
        obtain ⟨hpc0, hpc1, hpc2, hpc3, hpc4, hpc5, hpc6⟩ := hp.cells
        have hq := ((Pk.new 42 v a b f t p g w4).later hb5)
        try simp only [World.size_alloc] at hq
        obtain ⟨hqc0, hqc1, hqc2, hqc3, hqc4, hqc5, hqc6⟩ := hq.cells
        have hB := (bl (bl (bl (bl (bl (bl ((Below.refl _ _).alloc (Nat.le_refl _) (.cells #[.int .i64 v, .string a, .string b, .int .i64 f, .int .i64 t, .int .i64 p, .int .i64 g] 42) : Below w.heap.size w (w.alloc _)) hb1) hb2) hb3) hb4) ((Below.refl _ _).alloc (Nat.le_refl _) (.cells #[.int .i64 v, .string a, .string b, .int .i64 f, .int .i64 t, .int .i64 p, .int .i64 g] 42) : Below w4.heap.size w4 (w4.alloc _))) hb5)
        clear hb1 hb2 hb3 hb4 hb5
        go_wp2_with fail
        go_ret
        exact ⟨rfl, hB⟩
      · rw [jS_none hE] at c1
        have d0 : (jE v a b f t p g != 0) = true := by simpa using hE
        generalize jE v a b f t p g = E at *
        have C1 := fun w => Lib.hid (c1 w)
        clear c1 hE l_ab l_b
        go_enter Try.func11, Try.ntmps11
        go_wp2_with (go_at_call 20; with_reducible refine ((CW _).out).mono ?_)
        rintro e w1 ⟨rfl, hb1⟩
        have hp := ((Pk.new 42 v a b f t p g w).later hb1)
        try simp only [World.size_alloc] at hp
        obtain ⟨hpc0, hpc1, hpc2, hpc3, hpc4, hpc5, hpc6⟩ := hp.cells
        go_wp2_with (go_at_call 23; with_reducible refine ((CF _).out).mono ?_)
        rintro e w2 ⟨rfl, hb2⟩
        clear hp hpc0 hpc1 hpc2 hpc3 hpc4 hpc5 hpc6
        have hp := (((Pk.new 42 v a b f t p g w).later hb1).later hb2)
        try simp only [World.size_alloc] at hp
        obtain ⟨hpc0, hpc1, hpc2, hpc3, hpc4, hpc5, hpc6⟩ := hp.cells
        go_wp2_with (go_at_call 24; with_reducible refine ((C1 _).out).mono ?_)
        rintro e w3 ⟨rfl, hb3⟩
        clear hp hpc0 hpc1 hpc2 hpc3 hpc4 hpc5 hpc6
        have hB := (bl (bl (bl ((Below.refl _ _).alloc (Nat.le_refl _) (.cells #[.int .i64 v, .string a, .string b, .int .i64 f, .int .i64 t, .int .i64 p, .int .i64 g] 42) : Below w.heap.size w (w.alloc _)) hb1) hb2) hb3)
        clear hb1 hb2 hb3
        go_wp2_with fail
        go_ret
        exact ⟨rfl, hB⟩

set_option maxHeartbeats 2000000 in
set_option maxRecDepth 100000 in
theorem PacketCut_walk (v : Int) (a b : ByteArray) (f t p g : Int) (n : Int) (h_a : a.size ≤ 9223372036854775807) (h_b : b.size ≤ 9223372036854775807) (h_n : -9223372036854775808 ≤ n ∧ n ≤ 9223372036854775807) (w : World) :
    Calls Try.prog 14 #[.agg #[.int .i64 v, .string a, .string b, .int .i64 f, .int .i64 t, .int .i64 p, .int .i64 g], .int .i64 n] w fun e w' => e = .returned (.bool true) ∧ Below w.heap.size w w' := by
  have CW := fun w => Lib.hid (works7 w)
  have cF := few_calls v a b f t p
  cases hF : (decide (a.size ≤ 300) && decide (b.size ≤ 300)) with
  | false =>
    rw [hF] at cF
    have CF := fun w => Lib.hid (cF w)
    clear cF hF
    go_enter Try.func14, Try.ntmps14
    go_wp2_with (go_at_call 20; with_reducible refine ((CW _).out).mono ?_)
    rintro e w1 ⟨rfl, hb1⟩
    have hp := ((Pk.new 42 v a b f t p g w).later hb1)
    try simp only [World.size_alloc] at hp
    obtain ⟨hpc0, hpc1, hpc2, hpc3, hpc4, hpc5, hpc6⟩ := hp.cells
    go_wp2_with (go_at_call 23; with_reducible refine ((CF _).out).mono ?_)
    rintro e w2 ⟨rfl, hb2⟩
    have hB := (bl (bl ((Below.refl _ _).alloc (Nat.le_refl _) (.cells #[.int .i64 v, .string a, .string b, .int .i64 f, .int .i64 t, .int .i64 p, .int .i64 g] 42) : Below w.heap.size w (w.alloc _)) hb1) hb2)
    clear hb1 hb2
    clear hp hpc0 hpc1 hpc2 hpc3 hpc4 hpc5 hpc6
    go_wp2_with fail
    go_ret
    exact ⟨rfl, hB⟩
  | true =>
    rw [hF] at cF
    have CF := fun w => Lib.hid (cF w)
    clear cF hF
    have c1 := packetPut_calls v a b f t p g
    by_cases hE : jE v a b f t p g = 0
    · have hz := jS_le v a b f t p g
      have e0 : ((0 : Int) != 0) = false := rfl
      rw [hE] at c1
      by_cases hn0 : n < 0
      · have e1 : decide (n < 0) = true := by simpa using hn0
        generalize jS v a b f t p g = S at *
        have C1 := fun w => Lib.hid (c1 w)
        clear c1 hn0 hE hz
        go_enter Try.func14, Try.ntmps14
        go_wp2_with (go_at_call 20; with_reducible refine ((CW _).out).mono ?_)
        rintro e w1 ⟨rfl, hb1⟩
        have hp := ((Pk.new 42 v a b f t p g w).later hb1)
        try simp only [World.size_alloc] at hp
        obtain ⟨hpc0, hpc1, hpc2, hpc3, hpc4, hpc5, hpc6⟩ := hp.cells
        go_wp2_with (go_at_call 23; with_reducible refine ((CF _).out).mono ?_)
        rintro e w2 ⟨rfl, hb2⟩
        clear hp hpc0 hpc1 hpc2 hpc3 hpc4 hpc5 hpc6
        have hp := (((Pk.new 42 v a b f t p g w).later hb1).later hb2)
        try simp only [World.size_alloc] at hp
        obtain ⟨hpc0, hpc1, hpc2, hpc3, hpc4, hpc5, hpc6⟩ := hp.cells
        go_wp2_with (go_at_call 24; with_reducible refine ((C1 _).out).mono ?_)
        rintro e w3 ⟨rfl, hb3⟩
        clear hp hpc0 hpc1 hpc2 hpc3 hpc4 hpc5 hpc6
        have hB := (bl (bl (bl ((Below.refl _ _).alloc (Nat.le_refl _) (.cells #[.int .i64 v, .string a, .string b, .int .i64 f, .int .i64 t, .int .i64 p, .int .i64 g] 42) : Below w.heap.size w (w.alloc _)) hb1) hb2) hb3)
        clear hb1 hb2 hb3
        go_wp2_with fail
        go_ret
        exact ⟨rfl, hB⟩
      · have e1 : decide (n < 0) = false := by simpa using hn0
        by_cases hn1 : ((jS v a b f t p g).size : Int) ≤ n
        · have e2 : decide (((jS v a b f t p g).size : Int) ≤ n) = true := by simpa using hn1
          generalize jS v a b f t p g = S at *
          have C1 := fun w => Lib.hid (c1 w)
          clear c1 hn0 hn1 hE hz
          go_enter Try.func14, Try.ntmps14
          go_wp2_with (go_at_call 20; with_reducible refine ((CW _).out).mono ?_)
          rintro e w1 ⟨rfl, hb1⟩
          have hp := ((Pk.new 42 v a b f t p g w).later hb1)
          try simp only [World.size_alloc] at hp
          obtain ⟨hpc0, hpc1, hpc2, hpc3, hpc4, hpc5, hpc6⟩ := hp.cells
          go_wp2_with (go_at_call 23; with_reducible refine ((CF _).out).mono ?_)
          rintro e w2 ⟨rfl, hb2⟩
          clear hp hpc0 hpc1 hpc2 hpc3 hpc4 hpc5 hpc6
          have hp := (((Pk.new 42 v a b f t p g w).later hb1).later hb2)
          try simp only [World.size_alloc] at hp
          obtain ⟨hpc0, hpc1, hpc2, hpc3, hpc4, hpc5, hpc6⟩ := hp.cells
          go_wp2_with (go_at_call 24; with_reducible refine ((C1 _).out).mono ?_)
          rintro e w3 ⟨rfl, hb3⟩
          clear hp hpc0 hpc1 hpc2 hpc3 hpc4 hpc5 hpc6
          have hB := (bl (bl (bl ((Below.refl _ _).alloc (Nat.le_refl _) (.cells #[.int .i64 v, .string a, .string b, .int .i64 f, .int .i64 t, .int .i64 p, .int .i64 g] 42) : Below w.heap.size w (w.alloc _)) hb1) hb2) hb3)
          clear hb1 hb2 hb3
          go_wp2_with fail
          go_ret
          exact ⟨rfl, hB⟩
        · obtain ⟨m, rfl⟩ : ∃ m : Nat, n = (m : Int) := ⟨n.toNat, by omega⟩
          have hcut := cut7 v a b f t p g hE m (by omega)
          have hpe : kE ((jS v a b f t p g).extract 0 m) ≠ 0 := by omega
          obtain ⟨n1, n2, n3, n4, n5, n6, n7⟩ := k_none hpe
          have c2 := packetParse_calls ((jS v a b f t p g).extract 0 m) (by rw [ByteArray.size_extract]; omega)
          rw [n1, n2, n3, n4, n5, n6, n7] at c2
          clear n1 n2 n3 n4 n5 n6 n7 hpe
          have e2 : decide (((jS v a b f t p g).size : Int) ≤ (m : Int)) = false := by simp; omega
          have e2' : decide ((jS v a b f t p g).size ≤ m) = false := by simp; omega
          have e3 : (m : Int) ≤ ((jS v a b f t p g).size : Int) := by omega
          have e3' : m ≤ (jS v a b f t p g).size := by omega
          generalize kE ((jS v a b f t p g).extract 0 m) = E at *
          generalize jS v a b f t p g = S at *
          have C1 := fun w => Lib.hid (c1 w)
          rcases hcut with rfl | rfl
          · have C2 := fun w => Lib.hid (c2 w)
            clear c1 c2 hn0 hn1 hE hz
            go_enter Try.func14, Try.ntmps14
            go_wp2_with (go_at_call 20; with_reducible refine ((CW _).out).mono ?_)
            rintro e w1 ⟨rfl, hb1⟩
            have hp := ((Pk.new 42 v a b f t p g w).later hb1)
            try simp only [World.size_alloc] at hp
            obtain ⟨hpc0, hpc1, hpc2, hpc3, hpc4, hpc5, hpc6⟩ := hp.cells
            go_wp2_with (go_at_call 23; with_reducible refine ((CF _).out).mono ?_)
            rintro e w2 ⟨rfl, hb2⟩
            clear hp hpc0 hpc1 hpc2 hpc3 hpc4 hpc5 hpc6
            have hp := (((Pk.new 42 v a b f t p g w).later hb1).later hb2)
            try simp only [World.size_alloc] at hp
            obtain ⟨hpc0, hpc1, hpc2, hpc3, hpc4, hpc5, hpc6⟩ := hp.cells
            go_wp2_with (go_at_call 24; with_reducible refine ((C1 _).out).mono ?_)
            rintro e w3 ⟨rfl, hb3⟩
            clear hp hpc0 hpc1 hpc2 hpc3 hpc4 hpc5 hpc6
            go_wp2_with (go_at_call 21; with_reducible refine ((C2 _).out).mono ?_)
            rintro e w4 ⟨rfl, hb4⟩
            have hB := (bl (bl (bl (bl (bl ((Below.refl _ _).alloc (Nat.le_refl _) (.cells #[.int .i64 v, .string a, .string b, .int .i64 f, .int .i64 t, .int .i64 p, .int .i64 g] 42) : Below w.heap.size w (w.alloc _)) hb1) hb2) hb3) hb4) ((Below.refl _ _).alloc (Nat.le_refl _) (.cells #[.int .i64 0, .string ⟨#[]⟩, .string ⟨#[]⟩, .int .i64 0, .int .i64 0, .int .i64 0, .int .i64 0] 42) : Below w4.heap.size w4 (w4.alloc _)))
            clear hb1 hb2 hb3 hb4
            go_wp2_with fail
            go_ret
            exact ⟨rfl, hB⟩
          · have C2 := fun w => Lib.hid (c2 w)
            clear c1 c2 hn0 hn1 hE hz
            go_enter Try.func14, Try.ntmps14
            go_wp2_with (go_at_call 20; with_reducible refine ((CW _).out).mono ?_)
            rintro e w1 ⟨rfl, hb1⟩
            have hp := ((Pk.new 42 v a b f t p g w).later hb1)
            try simp only [World.size_alloc] at hp
            obtain ⟨hpc0, hpc1, hpc2, hpc3, hpc4, hpc5, hpc6⟩ := hp.cells
            go_wp2_with (go_at_call 23; with_reducible refine ((CF _).out).mono ?_)
            rintro e w2 ⟨rfl, hb2⟩
            clear hp hpc0 hpc1 hpc2 hpc3 hpc4 hpc5 hpc6
            have hp := (((Pk.new 42 v a b f t p g w).later hb1).later hb2)
            try simp only [World.size_alloc] at hp
            obtain ⟨hpc0, hpc1, hpc2, hpc3, hpc4, hpc5, hpc6⟩ := hp.cells
            go_wp2_with (go_at_call 24; with_reducible refine ((C1 _).out).mono ?_)
            rintro e w3 ⟨rfl, hb3⟩
            clear hp hpc0 hpc1 hpc2 hpc3 hpc4 hpc5 hpc6
            go_wp2_with (go_at_call 21; with_reducible refine ((C2 _).out).mono ?_)
            rintro e w4 ⟨rfl, hb4⟩
            have hB := (bl (bl (bl (bl (bl ((Below.refl _ _).alloc (Nat.le_refl _) (.cells #[.int .i64 v, .string a, .string b, .int .i64 f, .int .i64 t, .int .i64 p, .int .i64 g] 42) : Below w.heap.size w (w.alloc _)) hb1) hb2) hb3) hb4) ((Below.refl _ _).alloc (Nat.le_refl _) (.cells #[.int .i64 0, .string ⟨#[]⟩, .string ⟨#[]⟩, .int .i64 0, .int .i64 0, .int .i64 0, .int .i64 0] 42) : Below w4.heap.size w4 (w4.alloc _)))
            clear hb1 hb2 hb3 hb4
            go_wp2_with fail
            go_ret
            exact ⟨rfl, hB⟩
    · have d0 : (jE v a b f t p g != 0) = true := by simpa using hE
      generalize jE v a b f t p g = E at *
      generalize jS v a b f t p g = S at *
      have C1 := fun w => Lib.hid (c1 w)
      clear c1 hE
      go_enter Try.func14, Try.ntmps14
      go_wp2_with (go_at_call 20; with_reducible refine ((CW _).out).mono ?_)
      rintro e w1 ⟨rfl, hb1⟩
      have hp := ((Pk.new 42 v a b f t p g w).later hb1)
      try simp only [World.size_alloc] at hp
      obtain ⟨hpc0, hpc1, hpc2, hpc3, hpc4, hpc5, hpc6⟩ := hp.cells
      go_wp2_with (go_at_call 23; with_reducible refine ((CF _).out).mono ?_)
      rintro e w2 ⟨rfl, hb2⟩
      clear hp hpc0 hpc1 hpc2 hpc3 hpc4 hpc5 hpc6
      have hp := (((Pk.new 42 v a b f t p g w).later hb1).later hb2)
      try simp only [World.size_alloc] at hp
      obtain ⟨hpc0, hpc1, hpc2, hpc3, hpc4, hpc5, hpc6⟩ := hp.cells
      go_wp2_with (go_at_call 24; with_reducible refine ((C1 _).out).mono ?_)
      rintro e w3 ⟨rfl, hb3⟩
      clear hp hpc0 hpc1 hpc2 hpc3 hpc4 hpc5 hpc6
      have hB := (bl (bl (bl ((Below.refl _ _).alloc (Nat.le_refl _) (.cells #[.int .i64 v, .string a, .string b, .int .i64 f, .int .i64 t, .int .i64 p, .int .i64 g] 42) : Below w.heap.size w (w.alloc _)) hb1) hb2) hb3)
      clear hb1 hb2 hb3
      go_wp2_with fail
      go_ret
      exact ⟨rfl, hB⟩

end Go.Proofs.Ytjfijllnmjajpaa
