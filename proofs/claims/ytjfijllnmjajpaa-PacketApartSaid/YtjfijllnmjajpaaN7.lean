/- gangplanklaw07: PacketApart, walked. -/
import Derived.WalkKit
import Derived.Lib.Hide
import Derived.Laws.IdiomStrings
import Derived.BigQuiet
import Derived.Deep.QuietTactic
import Derived.Test.YtjfijllnmjajpaaK7
set_option linter.unusedSimpArgs false
set_option linter.unusedVariables false
namespace Go.Proofs.Ytjfijllnmjajpaa
open Go.RowKit Go.BigFrame

theorem bS_no {v : Int} {a b : ByteArray} {f t p : Int} (h : bR v a b f t p = false) : bS v a b f t p = ⟨#[]⟩ := by unfold bS; rw [if_neg (by rw [h]; decide)]

set_option maxHeartbeats 2000000 in
set_option maxRecDepth 100000 in
theorem PacketApart_walk (v : Int) (a b : ByteArray) (f t p : Int) (v2 : Int) (a2 b2 : ByteArray) (f2 t2 p2 : Int) (c : ByteArray) (h_a : a.size ≤ 9223372036854775807) (h_b : b.size ≤ 9223372036854775807) (h_a2 : a2.size ≤ 9223372036854775807) (h_b2 : b2.size ≤ 9223372036854775807) (h_c : c.size ≤ 9223372036854775807) (w : World) :
    Calls Try.prog 13 #[.agg #[.int .i64 v, .string a, .string b, .int .i64 f, .int .i64 t, .int .i64 p], .agg #[.int .i64 v2, .string a2, .string b2, .int .i64 f2, .int .i64 t2, .int .i64 p2], .string c] w fun e w' => e = .returned (.bool true) ∧ Below w.heap.size w w' := by
  have CW := fun w => Lib.hid (works7 w)
  have cF := few_calls v a b f t p
  have cG := few_calls v2 a2 b2 f2 t2 p2
  cases hF : (decide (a.size ≤ 300) && decide (b.size ≤ 300)) with
  | false =>
    rw [hF] at cF
    have CF := fun w => Lib.hid (cF w)
    clear cF cG hF
    go_enter Try.func13, Try.ntmps13
    go_wp2_with (go_at_call 20; with_reducible refine ((CW _).out).mono ?_)
    rintro e w1 ⟨rfl, hb1⟩
    have hk := (((Ky.new 40 v a b f t p w).alloc (.cells #[.int .i64 v2, .string a2, .string b2, .int .i64 f2, .int .i64 t2, .int .i64 p2] 40)).later hb1)
    try simp only [World.size_alloc] at hk
    obtain ⟨hkc0, hkc1, hkc2, hkc3, hkc4, hkc5⟩ := hk.cells
    go_wp2_with (go_at_call 23; with_reducible refine ((CF _).out).mono ?_)
    rintro e w2 ⟨rfl, hb2⟩
    clear hk hkc0 hkc1 hkc2 hkc3 hkc4 hkc5
    have hB := (bl (bl (bl ((Below.refl _ _).alloc (Nat.le_refl _) (.cells #[.int .i64 v, .string a, .string b, .int .i64 f, .int .i64 t, .int .i64 p] 40) : Below w.heap.size w (w.alloc _)) ((Below.refl _ _).alloc (Nat.le_refl _) (.cells #[.int .i64 v2, .string a2, .string b2, .int .i64 f2, .int .i64 t2, .int .i64 p2] 40) : Below (w.alloc (.cells #[.int .i64 v, .string a, .string b, .int .i64 f, .int .i64 t, .int .i64 p] 40)).heap.size (w.alloc (.cells #[.int .i64 v, .string a, .string b, .int .i64 f, .int .i64 t, .int .i64 p] 40)) ((w.alloc (.cells #[.int .i64 v, .string a, .string b, .int .i64 f, .int .i64 t, .int .i64 p] 40)).alloc _))) hb1) hb2)
    clear hb1 hb2
    go_wp2_with fail
    go_ret
    exact ⟨rfl, hB⟩
  | true =>
    rw [hF] at cF
    have l_ab : a.size ≤ 300 ∧ b.size ≤ 300 := by simpa using hF
    cases hG : (decide (a2.size ≤ 300) && decide (b2.size ≤ 300)) with
    | false =>
      rw [hG] at cG
      have CF := fun w => Lib.hid (cF w)
      have CG := fun w => Lib.hid (cG w)
      clear cF cG hF hG l_ab
      go_enter Try.func13, Try.ntmps13
      go_wp2_with (go_at_call 20; with_reducible refine ((CW _).out).mono ?_)
      rintro e w1 ⟨rfl, hb1⟩
      have hk := (((Ky.new 40 v a b f t p w).alloc (.cells #[.int .i64 v2, .string a2, .string b2, .int .i64 f2, .int .i64 t2, .int .i64 p2] 40)).later hb1)
      try simp only [World.size_alloc] at hk
      obtain ⟨hkc0, hkc1, hkc2, hkc3, hkc4, hkc5⟩ := hk.cells
      go_wp2_with (go_at_call 23; with_reducible refine ((CF _).out).mono ?_)
      rintro e w2 ⟨rfl, hb2⟩
      clear hk hkc0 hkc1 hkc2 hkc3 hkc4 hkc5
      have hl := (((Ky.new 40 v2 a2 b2 f2 t2 p2 (w.alloc (.cells #[.int .i64 v, .string a, .string b, .int .i64 f, .int .i64 t, .int .i64 p] 40))).later hb1).later hb2)
      try simp only [World.size_alloc] at hl
      obtain ⟨hlc0, hlc1, hlc2, hlc3, hlc4, hlc5⟩ := hl.cells
      go_wp2_with (go_at_call 23; with_reducible refine ((CG _).out).mono ?_)
      rintro e w3 ⟨rfl, hb3⟩
      clear hl hlc0 hlc1 hlc2 hlc3 hlc4 hlc5
      have hB := (bl (bl (bl (bl ((Below.refl _ _).alloc (Nat.le_refl _) (.cells #[.int .i64 v, .string a, .string b, .int .i64 f, .int .i64 t, .int .i64 p] 40) : Below w.heap.size w (w.alloc _)) ((Below.refl _ _).alloc (Nat.le_refl _) (.cells #[.int .i64 v2, .string a2, .string b2, .int .i64 f2, .int .i64 t2, .int .i64 p2] 40) : Below (w.alloc (.cells #[.int .i64 v, .string a, .string b, .int .i64 f, .int .i64 t, .int .i64 p] 40)).heap.size (w.alloc (.cells #[.int .i64 v, .string a, .string b, .int .i64 f, .int .i64 t, .int .i64 p] 40)) ((w.alloc (.cells #[.int .i64 v, .string a, .string b, .int .i64 f, .int .i64 t, .int .i64 p] 40)).alloc _))) hb1) hb2) hb3)
      clear hb1 hb2 hb3
      go_wp2_with fail
      go_ret
      exact ⟨rfl, hB⟩
    | true =>
      rw [hG] at cG
      have l_ab2 : a2.size ≤ 300 ∧ b2.size ≤ 300 := by simpa using hG
      clear hF hG
      by_cases gc : 300 < c.size
      · have d_c : decide (300 < (c.size : Int)) = true := by simp; omega
        have CF := fun w => Lib.hid (cF w)
        have CG := fun w => Lib.hid (cG w)
        clear gc l_ab l_ab2 cF cG
        go_enter Try.func13, Try.ntmps13
        go_wp2_with (go_at_call 20; with_reducible refine ((CW _).out).mono ?_)
        rintro e w1 ⟨rfl, hb1⟩
        have hk := (((Ky.new 40 v a b f t p w).alloc (.cells #[.int .i64 v2, .string a2, .string b2, .int .i64 f2, .int .i64 t2, .int .i64 p2] 40)).later hb1)
        try simp only [World.size_alloc] at hk
        obtain ⟨hkc0, hkc1, hkc2, hkc3, hkc4, hkc5⟩ := hk.cells
        go_wp2_with (go_at_call 23; with_reducible refine ((CF _).out).mono ?_)
        rintro e w2 ⟨rfl, hb2⟩
        clear hk hkc0 hkc1 hkc2 hkc3 hkc4 hkc5
        have hl := (((Ky.new 40 v2 a2 b2 f2 t2 p2 (w.alloc (.cells #[.int .i64 v, .string a, .string b, .int .i64 f, .int .i64 t, .int .i64 p] 40))).later hb1).later hb2)
        try simp only [World.size_alloc] at hl
        obtain ⟨hlc0, hlc1, hlc2, hlc3, hlc4, hlc5⟩ := hl.cells
        go_wp2_with (go_at_call 23; with_reducible refine ((CG _).out).mono ?_)
        rintro e w3 ⟨rfl, hb3⟩
        clear hl hlc0 hlc1 hlc2 hlc3 hlc4 hlc5
        have hB := (bl (bl (bl (bl ((Below.refl _ _).alloc (Nat.le_refl _) (.cells #[.int .i64 v, .string a, .string b, .int .i64 f, .int .i64 t, .int .i64 p] 40) : Below w.heap.size w (w.alloc _)) ((Below.refl _ _).alloc (Nat.le_refl _) (.cells #[.int .i64 v2, .string a2, .string b2, .int .i64 f2, .int .i64 t2, .int .i64 p2] 40) : Below (w.alloc (.cells #[.int .i64 v, .string a, .string b, .int .i64 f, .int .i64 t, .int .i64 p] 40)).heap.size (w.alloc (.cells #[.int .i64 v, .string a, .string b, .int .i64 f, .int .i64 t, .int .i64 p] 40)) ((w.alloc (.cells #[.int .i64 v, .string a, .string b, .int .i64 f, .int .i64 t, .int .i64 p] 40)).alloc _))) hb1) hb2) hb3)
        clear hb1 hb2 hb3
        go_wp2_with fail
        go_ret
        exact ⟨rfl, hB⟩
      have d_c : decide (300 < (c.size : Int)) = false := by simp; omega
      have l_c : c.size ≤ 300 := by omega
      clear gc
      cases hRk : bR v a b f t p with
      | false =>
        have ck := bytes_calls v a b f t p (by omega) (by omega)
        have cl := bytes_calls v2 a2 b2 f2 t2 p2 (by omega) (by omega)
        rw [hRk, bS_no hRk] at ck
        generalize bS v2 a2 b2 f2 t2 p2 = T at *
        generalize bR v2 a2 b2 f2 t2 p2 = R2 at *
        have C1 := fun w => Lib.hid (ck w)
        have C2 := fun w => Lib.hid (cl w)
        have CF := fun w => Lib.hid (cF w)
        have CG := fun w => Lib.hid (cG w)
        have co := packetOf_calls c (by omega)
        cases hO : oB c with
        | false =>
          rw [ofV_no (by rw [hO]; decide)] at co
          have C3 := fun w => Lib.hid (co w)
          clear ck cl cF cG co hO l_ab l_ab2 l_c hRk
          go_enter Try.func13, Try.ntmps13
          go_wp2_with (go_at_call 20; with_reducible refine ((CW _).out).mono ?_)
          rintro e w1 ⟨rfl, hb1⟩
          have hk := (((Ky.new 40 v a b f t p w).alloc (.cells #[.int .i64 v2, .string a2, .string b2, .int .i64 f2, .int .i64 t2, .int .i64 p2] 40)).later hb1)
          try simp only [World.size_alloc] at hk
          obtain ⟨hkc0, hkc1, hkc2, hkc3, hkc4, hkc5⟩ := hk.cells
          go_wp2_with (go_at_call 23; with_reducible refine ((CF _).out).mono ?_)
          rintro e w2 ⟨rfl, hb2⟩
          clear hk hkc0 hkc1 hkc2 hkc3 hkc4 hkc5
          have hl := (((Ky.new 40 v2 a2 b2 f2 t2 p2 (w.alloc (.cells #[.int .i64 v, .string a, .string b, .int .i64 f, .int .i64 t, .int .i64 p] 40))).later hb1).later hb2)
          try simp only [World.size_alloc] at hl
          obtain ⟨hlc0, hlc1, hlc2, hlc3, hlc4, hlc5⟩ := hl.cells
          go_wp2_with (go_at_call 23; with_reducible refine ((CG _).out).mono ?_)
          rintro e w3 ⟨rfl, hb3⟩
          clear hl hlc0 hlc1 hlc2 hlc3 hlc4 hlc5
          have hk := (((((Ky.new 40 v a b f t p w).alloc (.cells #[.int .i64 v2, .string a2, .string b2, .int .i64 f2, .int .i64 t2, .int .i64 p2] 40)).later hb1).later hb2).later hb3)
          try simp only [World.size_alloc] at hk
          obtain ⟨hkc0, hkc1, hkc2, hkc3, hkc4, hkc5⟩ := hk.cells
          go_wp2_with (go_at_call 28; with_reducible refine ((C1 _).out).mono ?_)
          rintro e w4 ⟨rfl, hb4⟩
          clear hk hkc0 hkc1 hkc2 hkc3 hkc4 hkc5
          have hl := (((((Ky.new 40 v2 a2 b2 f2 t2 p2 (w.alloc (.cells #[.int .i64 v, .string a, .string b, .int .i64 f, .int .i64 t, .int .i64 p] 40))).later hb1).later hb2).later hb3).later hb4)
          try simp only [World.size_alloc] at hl
          obtain ⟨hlc0, hlc1, hlc2, hlc3, hlc4, hlc5⟩ := hl.cells
          go_wp2_with (go_at_call 28; with_reducible refine ((C2 _).out).mono ?_)
          rintro e w5 ⟨rfl, hb5⟩
          clear hl hlc0 hlc1 hlc2 hlc3 hlc4 hlc5
          go_wp2_with (go_at_call 30; with_reducible refine ((C3 _).out).mono ?_)
          rintro e w6 ⟨rfl, hb6⟩
          have hB := (bl (bl (bl (bl (bl (bl (bl (bl ((Below.refl _ _).alloc (Nat.le_refl _) (.cells #[.int .i64 v, .string a, .string b, .int .i64 f, .int .i64 t, .int .i64 p] 40) : Below w.heap.size w (w.alloc _)) ((Below.refl _ _).alloc (Nat.le_refl _) (.cells #[.int .i64 v2, .string a2, .string b2, .int .i64 f2, .int .i64 t2, .int .i64 p2] 40) : Below (w.alloc (.cells #[.int .i64 v, .string a, .string b, .int .i64 f, .int .i64 t, .int .i64 p] 40)).heap.size (w.alloc (.cells #[.int .i64 v, .string a, .string b, .int .i64 f, .int .i64 t, .int .i64 p] 40)) ((w.alloc (.cells #[.int .i64 v, .string a, .string b, .int .i64 f, .int .i64 t, .int .i64 p] 40)).alloc _))) hb1) hb2) hb3) hb4) hb5) hb6) ((Below.refl _ _).alloc (Nat.le_refl _) (.cells #[.int .i64 0, .string ⟨#[]⟩, .string ⟨#[]⟩, .int .i64 0, .int .i64 0, .int .i64 0] 40) : Below w6.heap.size w6 (w6.alloc _)))
          clear hb1 hb2 hb3 hb4 hb5 hb6
          go_wp2_with fail
          go_ret
          exact ⟨rfl, hB⟩
        | true =>
          rw [ofV_yes hO] at co
          obtain ⟨_, hr1, hs1⟩ := (oB_iff c).1 hO
          have hsz := (bR_iff' _ _ _ _ _ _).1 hr1
          have cm := bytes_calls (byteN c 0) (oS c) (oD c) (getV c 2 2) (getV c 4 2) (byteN c 1) (by omega) (by omega)
          rw [hr1, hs1] at cm
          have C3 := fun w => Lib.hid (co w)
          have C4 := fun w => Lib.hid (cm w)
          clear ck cl cF cG co cm hO hr1 hs1 hsz l_ab l_ab2 l_c hRk
          generalize oS c = M1 at *
          generalize oD c = M2 at *
          generalize getV c 2 2 = M3 at *
          generalize getV c 4 2 = M4 at *
          generalize ((byteN c 1 : Nat) : Int) = M5 at *
          generalize ((byteN c 0 : Nat) : Int) = M0 at *
          go_enter Try.func13, Try.ntmps13
          go_wp2_with (go_at_call 20; with_reducible refine ((CW _).out).mono ?_)
          rintro e w1 ⟨rfl, hb1⟩
          have hk := (((Ky.new 40 v a b f t p w).alloc (.cells #[.int .i64 v2, .string a2, .string b2, .int .i64 f2, .int .i64 t2, .int .i64 p2] 40)).later hb1)
          try simp only [World.size_alloc] at hk
          obtain ⟨hkc0, hkc1, hkc2, hkc3, hkc4, hkc5⟩ := hk.cells
          go_wp2_with (go_at_call 23; with_reducible refine ((CF _).out).mono ?_)
          rintro e w2 ⟨rfl, hb2⟩
          clear hk hkc0 hkc1 hkc2 hkc3 hkc4 hkc5
          have hl := (((Ky.new 40 v2 a2 b2 f2 t2 p2 (w.alloc (.cells #[.int .i64 v, .string a, .string b, .int .i64 f, .int .i64 t, .int .i64 p] 40))).later hb1).later hb2)
          try simp only [World.size_alloc] at hl
          obtain ⟨hlc0, hlc1, hlc2, hlc3, hlc4, hlc5⟩ := hl.cells
          go_wp2_with (go_at_call 23; with_reducible refine ((CG _).out).mono ?_)
          rintro e w3 ⟨rfl, hb3⟩
          clear hl hlc0 hlc1 hlc2 hlc3 hlc4 hlc5
          have hk := (((((Ky.new 40 v a b f t p w).alloc (.cells #[.int .i64 v2, .string a2, .string b2, .int .i64 f2, .int .i64 t2, .int .i64 p2] 40)).later hb1).later hb2).later hb3)
          try simp only [World.size_alloc] at hk
          obtain ⟨hkc0, hkc1, hkc2, hkc3, hkc4, hkc5⟩ := hk.cells
          go_wp2_with (go_at_call 28; with_reducible refine ((C1 _).out).mono ?_)
          rintro e w4 ⟨rfl, hb4⟩
          clear hk hkc0 hkc1 hkc2 hkc3 hkc4 hkc5
          have hl := (((((Ky.new 40 v2 a2 b2 f2 t2 p2 (w.alloc (.cells #[.int .i64 v, .string a, .string b, .int .i64 f, .int .i64 t, .int .i64 p] 40))).later hb1).later hb2).later hb3).later hb4)
          try simp only [World.size_alloc] at hl
          obtain ⟨hlc0, hlc1, hlc2, hlc3, hlc4, hlc5⟩ := hl.cells
          go_wp2_with (go_at_call 28; with_reducible refine ((C2 _).out).mono ?_)
          rintro e w5 ⟨rfl, hb5⟩
          clear hl hlc0 hlc1 hlc2 hlc3 hlc4 hlc5
          go_wp2_with (go_at_call 30; with_reducible refine ((C3 _).out).mono ?_)
          rintro e w6 ⟨rfl, hb6⟩
          have hm := (Ky.new 40 M0 M1 M2 M3 M4 M5 w6)
          try simp only [World.size_alloc] at hm
          obtain ⟨hmc0, hmc1, hmc2, hmc3, hmc4, hmc5⟩ := hm.cells
          go_wp2_with (go_at_call 28; with_reducible refine ((C4 _).out).mono ?_)
          rintro e w7 ⟨rfl, hb7⟩
          clear hm hmc0 hmc1 hmc2 hmc3 hmc4 hmc5
          have hB := (bl (bl (bl (bl (bl (bl (bl (bl (bl ((Below.refl _ _).alloc (Nat.le_refl _) (.cells #[.int .i64 v, .string a, .string b, .int .i64 f, .int .i64 t, .int .i64 p] 40) : Below w.heap.size w (w.alloc _)) ((Below.refl _ _).alloc (Nat.le_refl _) (.cells #[.int .i64 v2, .string a2, .string b2, .int .i64 f2, .int .i64 t2, .int .i64 p2] 40) : Below (w.alloc (.cells #[.int .i64 v, .string a, .string b, .int .i64 f, .int .i64 t, .int .i64 p] 40)).heap.size (w.alloc (.cells #[.int .i64 v, .string a, .string b, .int .i64 f, .int .i64 t, .int .i64 p] 40)) ((w.alloc (.cells #[.int .i64 v, .string a, .string b, .int .i64 f, .int .i64 t, .int .i64 p] 40)).alloc _))) hb1) hb2) hb3) hb4) hb5) hb6) ((Below.refl _ _).alloc (Nat.le_refl _) (.cells #[.int .i64 M0, .string M1, .string M2, .int .i64 M3, .int .i64 M4, .int .i64 M5] 40) : Below w6.heap.size w6 (w6.alloc _))) hb7)
          clear hb1 hb2 hb3 hb4 hb5 hb6 hb7
          go_wp2_with fail
          go_ret
          exact ⟨rfl, hB⟩
      | true =>
        cases hRl : bR v2 a2 b2 f2 t2 p2 with
        | false =>
          have ck := bytes_calls v a b f t p (by omega) (by omega)
          have cl := bytes_calls v2 a2 b2 f2 t2 p2 (by omega) (by omega)
          rw [hRk, bS_yes hRk] at ck
          rw [hRl, bS_no hRl] at cl
          generalize bX v a b f t p = S at *
          have C1 := fun w => Lib.hid (ck w)
          have C2 := fun w => Lib.hid (cl w)
          have CF := fun w => Lib.hid (cF w)
          have CG := fun w => Lib.hid (cG w)
          have co := packetOf_calls c (by omega)
          cases hO : oB c with
          | false =>
            rw [ofV_no (by rw [hO]; decide)] at co
            have C3 := fun w => Lib.hid (co w)
            clear ck cl cF cG co hO l_ab l_ab2 l_c hRk hRl
            go_enter Try.func13, Try.ntmps13
            go_wp2_with (go_at_call 20; with_reducible refine ((CW _).out).mono ?_)
            rintro e w1 ⟨rfl, hb1⟩
            have hk := (((Ky.new 40 v a b f t p w).alloc (.cells #[.int .i64 v2, .string a2, .string b2, .int .i64 f2, .int .i64 t2, .int .i64 p2] 40)).later hb1)
            try simp only [World.size_alloc] at hk
            obtain ⟨hkc0, hkc1, hkc2, hkc3, hkc4, hkc5⟩ := hk.cells
            go_wp2_with (go_at_call 23; with_reducible refine ((CF _).out).mono ?_)
            rintro e w2 ⟨rfl, hb2⟩
            clear hk hkc0 hkc1 hkc2 hkc3 hkc4 hkc5
            have hl := (((Ky.new 40 v2 a2 b2 f2 t2 p2 (w.alloc (.cells #[.int .i64 v, .string a, .string b, .int .i64 f, .int .i64 t, .int .i64 p] 40))).later hb1).later hb2)
            try simp only [World.size_alloc] at hl
            obtain ⟨hlc0, hlc1, hlc2, hlc3, hlc4, hlc5⟩ := hl.cells
            go_wp2_with (go_at_call 23; with_reducible refine ((CG _).out).mono ?_)
            rintro e w3 ⟨rfl, hb3⟩
            clear hl hlc0 hlc1 hlc2 hlc3 hlc4 hlc5
            have hk := (((((Ky.new 40 v a b f t p w).alloc (.cells #[.int .i64 v2, .string a2, .string b2, .int .i64 f2, .int .i64 t2, .int .i64 p2] 40)).later hb1).later hb2).later hb3)
            try simp only [World.size_alloc] at hk
            obtain ⟨hkc0, hkc1, hkc2, hkc3, hkc4, hkc5⟩ := hk.cells
            go_wp2_with (go_at_call 28; with_reducible refine ((C1 _).out).mono ?_)
            rintro e w4 ⟨rfl, hb4⟩
            clear hk hkc0 hkc1 hkc2 hkc3 hkc4 hkc5
            have hl := (((((Ky.new 40 v2 a2 b2 f2 t2 p2 (w.alloc (.cells #[.int .i64 v, .string a, .string b, .int .i64 f, .int .i64 t, .int .i64 p] 40))).later hb1).later hb2).later hb3).later hb4)
            try simp only [World.size_alloc] at hl
            obtain ⟨hlc0, hlc1, hlc2, hlc3, hlc4, hlc5⟩ := hl.cells
            go_wp2_with (go_at_call 28; with_reducible refine ((C2 _).out).mono ?_)
            rintro e w5 ⟨rfl, hb5⟩
            clear hl hlc0 hlc1 hlc2 hlc3 hlc4 hlc5
            go_wp2_with (go_at_call 30; with_reducible refine ((C3 _).out).mono ?_)
            rintro e w6 ⟨rfl, hb6⟩
            have hB := (bl (bl (bl (bl (bl (bl (bl (bl ((Below.refl _ _).alloc (Nat.le_refl _) (.cells #[.int .i64 v, .string a, .string b, .int .i64 f, .int .i64 t, .int .i64 p] 40) : Below w.heap.size w (w.alloc _)) ((Below.refl _ _).alloc (Nat.le_refl _) (.cells #[.int .i64 v2, .string a2, .string b2, .int .i64 f2, .int .i64 t2, .int .i64 p2] 40) : Below (w.alloc (.cells #[.int .i64 v, .string a, .string b, .int .i64 f, .int .i64 t, .int .i64 p] 40)).heap.size (w.alloc (.cells #[.int .i64 v, .string a, .string b, .int .i64 f, .int .i64 t, .int .i64 p] 40)) ((w.alloc (.cells #[.int .i64 v, .string a, .string b, .int .i64 f, .int .i64 t, .int .i64 p] 40)).alloc _))) hb1) hb2) hb3) hb4) hb5) hb6) ((Below.refl _ _).alloc (Nat.le_refl _) (.cells #[.int .i64 0, .string ⟨#[]⟩, .string ⟨#[]⟩, .int .i64 0, .int .i64 0, .int .i64 0] 40) : Below w6.heap.size w6 (w6.alloc _)))
            clear hb1 hb2 hb3 hb4 hb5 hb6
            go_wp2_with fail
            go_ret
            exact ⟨rfl, hB⟩
          | true =>
            rw [ofV_yes hO] at co
            obtain ⟨_, hr1, hs1⟩ := (oB_iff c).1 hO
            have hsz := (bR_iff' _ _ _ _ _ _).1 hr1
            have cm := bytes_calls (byteN c 0) (oS c) (oD c) (getV c 2 2) (getV c 4 2) (byteN c 1) (by omega) (by omega)
            rw [hr1, hs1] at cm
            have C3 := fun w => Lib.hid (co w)
            have C4 := fun w => Lib.hid (cm w)
            clear ck cl cF cG co cm hO hr1 hs1 hsz l_ab l_ab2 l_c hRk hRl
            generalize oS c = M1 at *
            generalize oD c = M2 at *
            generalize getV c 2 2 = M3 at *
            generalize getV c 4 2 = M4 at *
            generalize ((byteN c 1 : Nat) : Int) = M5 at *
            generalize ((byteN c 0 : Nat) : Int) = M0 at *
            go_enter Try.func13, Try.ntmps13
            go_wp2_with (go_at_call 20; with_reducible refine ((CW _).out).mono ?_)
            rintro e w1 ⟨rfl, hb1⟩
            have hk := (((Ky.new 40 v a b f t p w).alloc (.cells #[.int .i64 v2, .string a2, .string b2, .int .i64 f2, .int .i64 t2, .int .i64 p2] 40)).later hb1)
            try simp only [World.size_alloc] at hk
            obtain ⟨hkc0, hkc1, hkc2, hkc3, hkc4, hkc5⟩ := hk.cells
            go_wp2_with (go_at_call 23; with_reducible refine ((CF _).out).mono ?_)
            rintro e w2 ⟨rfl, hb2⟩
            clear hk hkc0 hkc1 hkc2 hkc3 hkc4 hkc5
            have hl := (((Ky.new 40 v2 a2 b2 f2 t2 p2 (w.alloc (.cells #[.int .i64 v, .string a, .string b, .int .i64 f, .int .i64 t, .int .i64 p] 40))).later hb1).later hb2)
            try simp only [World.size_alloc] at hl
            obtain ⟨hlc0, hlc1, hlc2, hlc3, hlc4, hlc5⟩ := hl.cells
            go_wp2_with (go_at_call 23; with_reducible refine ((CG _).out).mono ?_)
            rintro e w3 ⟨rfl, hb3⟩
            clear hl hlc0 hlc1 hlc2 hlc3 hlc4 hlc5
            have hk := (((((Ky.new 40 v a b f t p w).alloc (.cells #[.int .i64 v2, .string a2, .string b2, .int .i64 f2, .int .i64 t2, .int .i64 p2] 40)).later hb1).later hb2).later hb3)
            try simp only [World.size_alloc] at hk
            obtain ⟨hkc0, hkc1, hkc2, hkc3, hkc4, hkc5⟩ := hk.cells
            go_wp2_with (go_at_call 28; with_reducible refine ((C1 _).out).mono ?_)
            rintro e w4 ⟨rfl, hb4⟩
            clear hk hkc0 hkc1 hkc2 hkc3 hkc4 hkc5
            have hl := (((((Ky.new 40 v2 a2 b2 f2 t2 p2 (w.alloc (.cells #[.int .i64 v, .string a, .string b, .int .i64 f, .int .i64 t, .int .i64 p] 40))).later hb1).later hb2).later hb3).later hb4)
            try simp only [World.size_alloc] at hl
            obtain ⟨hlc0, hlc1, hlc2, hlc3, hlc4, hlc5⟩ := hl.cells
            go_wp2_with (go_at_call 28; with_reducible refine ((C2 _).out).mono ?_)
            rintro e w5 ⟨rfl, hb5⟩
            clear hl hlc0 hlc1 hlc2 hlc3 hlc4 hlc5
            go_wp2_with (go_at_call 30; with_reducible refine ((C3 _).out).mono ?_)
            rintro e w6 ⟨rfl, hb6⟩
            have hm := (Ky.new 40 M0 M1 M2 M3 M4 M5 w6)
            try simp only [World.size_alloc] at hm
            obtain ⟨hmc0, hmc1, hmc2, hmc3, hmc4, hmc5⟩ := hm.cells
            go_wp2_with (go_at_call 28; with_reducible refine ((C4 _).out).mono ?_)
            rintro e w7 ⟨rfl, hb7⟩
            clear hm hmc0 hmc1 hmc2 hmc3 hmc4 hmc5
            have hB := (bl (bl (bl (bl (bl (bl (bl (bl (bl ((Below.refl _ _).alloc (Nat.le_refl _) (.cells #[.int .i64 v, .string a, .string b, .int .i64 f, .int .i64 t, .int .i64 p] 40) : Below w.heap.size w (w.alloc _)) ((Below.refl _ _).alloc (Nat.le_refl _) (.cells #[.int .i64 v2, .string a2, .string b2, .int .i64 f2, .int .i64 t2, .int .i64 p2] 40) : Below (w.alloc (.cells #[.int .i64 v, .string a, .string b, .int .i64 f, .int .i64 t, .int .i64 p] 40)).heap.size (w.alloc (.cells #[.int .i64 v, .string a, .string b, .int .i64 f, .int .i64 t, .int .i64 p] 40)) ((w.alloc (.cells #[.int .i64 v, .string a, .string b, .int .i64 f, .int .i64 t, .int .i64 p] 40)).alloc _))) hb1) hb2) hb3) hb4) hb5) hb6) ((Below.refl _ _).alloc (Nat.le_refl _) (.cells #[.int .i64 M0, .string M1, .string M2, .int .i64 M3, .int .i64 M4, .int .i64 M5] 40) : Below w6.heap.size w6 (w6.alloc _))) hb7)
            clear hb1 hb2 hb3 hb4 hb5 hb6 hb7
            go_wp2_with fail
            go_ret
            exact ⟨rfl, hB⟩
        | true =>
          by_cases hd : v = v2
          rotate_left
          · skip
            have ck := bytes_calls v a b f t p (by omega) (by omega)
            have cl := bytes_calls v2 a2 b2 f2 t2 p2 (by omega) (by omega)
            rw [hRk, bS_yes hRk] at ck
            rw [hRl, bS_yes hRl] at cl
            have hcmp : (v == v2) = false := by simpa using hd
            have hST : (bX v a b f t p).toList ≠ (bX v2 a2 b2 f2 t2 p2).toList := by
              intro h
              rw [ByteArray.toList_eq, ByteArray.toList_eq] at h
              exact hd (apart7 hRk hRl (ba_ext h)).1
            have hST' : ((bX v a b f t p).toList == (bX v2 a2 b2 f2 t2 p2).toList) = false := by rw [beq_eq_false_iff_ne]; exact hST
            clear hST hd
            generalize bX v a b f t p = S at *
            generalize bX v2 a2 b2 f2 t2 p2 = T at *
            have C1 := fun w => Lib.hid (ck w)
            have C2 := fun w => Lib.hid (cl w)
            have CF := fun w => Lib.hid (cF w)
            have CG := fun w => Lib.hid (cG w)
            have co := packetOf_calls c (by omega)
            cases hO : oB c with
            | false =>
              rw [ofV_no (by rw [hO]; decide)] at co
              have C3 := fun w => Lib.hid (co w)
              clear ck cl cF cG co hO l_ab l_ab2 l_c hRk hRl
              go_enter Try.func13, Try.ntmps13
              go_wp2_with (go_at_call 20; with_reducible refine ((CW _).out).mono ?_)
              rintro e w1 ⟨rfl, hb1⟩
              have hk := (((Ky.new 40 v a b f t p w).alloc (.cells #[.int .i64 v2, .string a2, .string b2, .int .i64 f2, .int .i64 t2, .int .i64 p2] 40)).later hb1)
              try simp only [World.size_alloc] at hk
              obtain ⟨hkc0, hkc1, hkc2, hkc3, hkc4, hkc5⟩ := hk.cells
              go_wp2_with (go_at_call 23; with_reducible refine ((CF _).out).mono ?_)
              rintro e w2 ⟨rfl, hb2⟩
              clear hk hkc0 hkc1 hkc2 hkc3 hkc4 hkc5
              have hl := (((Ky.new 40 v2 a2 b2 f2 t2 p2 (w.alloc (.cells #[.int .i64 v, .string a, .string b, .int .i64 f, .int .i64 t, .int .i64 p] 40))).later hb1).later hb2)
              try simp only [World.size_alloc] at hl
              obtain ⟨hlc0, hlc1, hlc2, hlc3, hlc4, hlc5⟩ := hl.cells
              go_wp2_with (go_at_call 23; with_reducible refine ((CG _).out).mono ?_)
              rintro e w3 ⟨rfl, hb3⟩
              clear hl hlc0 hlc1 hlc2 hlc3 hlc4 hlc5
              have hk := (((((Ky.new 40 v a b f t p w).alloc (.cells #[.int .i64 v2, .string a2, .string b2, .int .i64 f2, .int .i64 t2, .int .i64 p2] 40)).later hb1).later hb2).later hb3)
              try simp only [World.size_alloc] at hk
              obtain ⟨hkc0, hkc1, hkc2, hkc3, hkc4, hkc5⟩ := hk.cells
              go_wp2_with (go_at_call 28; with_reducible refine ((C1 _).out).mono ?_)
              rintro e w4 ⟨rfl, hb4⟩
              clear hk hkc0 hkc1 hkc2 hkc3 hkc4 hkc5
              have hl := (((((Ky.new 40 v2 a2 b2 f2 t2 p2 (w.alloc (.cells #[.int .i64 v, .string a, .string b, .int .i64 f, .int .i64 t, .int .i64 p] 40))).later hb1).later hb2).later hb3).later hb4)
              try simp only [World.size_alloc] at hl
              obtain ⟨hlc0, hlc1, hlc2, hlc3, hlc4, hlc5⟩ := hl.cells
              go_wp2_with (go_at_call 28; with_reducible refine ((C2 _).out).mono ?_)
              rintro e w5 ⟨rfl, hb5⟩
              clear hl hlc0 hlc1 hlc2 hlc3 hlc4 hlc5
              have hk := (((((((Ky.new 40 v a b f t p w).alloc (.cells #[.int .i64 v2, .string a2, .string b2, .int .i64 f2, .int .i64 t2, .int .i64 p2] 40)).later hb1).later hb2).later hb3).later hb4).later hb5)
              try simp only [World.size_alloc] at hk
              obtain ⟨hkc0, hkc1, hkc2, hkc3, hkc4, hkc5⟩ := hk.cells
              have hl := ((((((Ky.new 40 v2 a2 b2 f2 t2 p2 (w.alloc (.cells #[.int .i64 v, .string a, .string b, .int .i64 f, .int .i64 t, .int .i64 p] 40))).later hb1).later hb2).later hb3).later hb4).later hb5)
              try simp only [World.size_alloc] at hl
              obtain ⟨hlc0, hlc1, hlc2, hlc3, hlc4, hlc5⟩ := hl.cells
              go_wp2_with (go_at_call 30; with_reducible refine ((C3 _).out).mono ?_)
              rintro e w6 ⟨rfl, hb6⟩
              clear hk hkc0 hkc1 hkc2 hkc3 hkc4 hkc5
              clear hl hlc0 hlc1 hlc2 hlc3 hlc4 hlc5
              have hB := (bl (bl (bl (bl (bl (bl (bl (bl ((Below.refl _ _).alloc (Nat.le_refl _) (.cells #[.int .i64 v, .string a, .string b, .int .i64 f, .int .i64 t, .int .i64 p] 40) : Below w.heap.size w (w.alloc _)) ((Below.refl _ _).alloc (Nat.le_refl _) (.cells #[.int .i64 v2, .string a2, .string b2, .int .i64 f2, .int .i64 t2, .int .i64 p2] 40) : Below (w.alloc (.cells #[.int .i64 v, .string a, .string b, .int .i64 f, .int .i64 t, .int .i64 p] 40)).heap.size (w.alloc (.cells #[.int .i64 v, .string a, .string b, .int .i64 f, .int .i64 t, .int .i64 p] 40)) ((w.alloc (.cells #[.int .i64 v, .string a, .string b, .int .i64 f, .int .i64 t, .int .i64 p] 40)).alloc _))) hb1) hb2) hb3) hb4) hb5) hb6) ((Below.refl _ _).alloc (Nat.le_refl _) (.cells #[.int .i64 0, .string ⟨#[]⟩, .string ⟨#[]⟩, .int .i64 0, .int .i64 0, .int .i64 0] 40) : Below w6.heap.size w6 (w6.alloc _)))
              clear hb1 hb2 hb3 hb4 hb5 hb6
              go_wp2_with fail
              go_ret
              exact ⟨rfl, hB⟩
            | true =>
              rw [ofV_yes hO] at co
              obtain ⟨_, hr1, hs1⟩ := (oB_iff c).1 hO
              have hsz := (bR_iff' _ _ _ _ _ _).1 hr1
              have cm := bytes_calls (byteN c 0) (oS c) (oD c) (getV c 2 2) (getV c 4 2) (byteN c 1) (by omega) (by omega)
              rw [hr1, hs1] at cm
              have C3 := fun w => Lib.hid (co w)
              have C4 := fun w => Lib.hid (cm w)
              clear ck cl cF cG co cm hO hr1 hs1 hsz l_ab l_ab2 l_c hRk hRl
              generalize oS c = M1 at *
              generalize oD c = M2 at *
              generalize getV c 2 2 = M3 at *
              generalize getV c 4 2 = M4 at *
              generalize ((byteN c 1 : Nat) : Int) = M5 at *
              generalize ((byteN c 0 : Nat) : Int) = M0 at *
              go_enter Try.func13, Try.ntmps13
              go_wp2_with (go_at_call 20; with_reducible refine ((CW _).out).mono ?_)
              rintro e w1 ⟨rfl, hb1⟩
              have hk := (((Ky.new 40 v a b f t p w).alloc (.cells #[.int .i64 v2, .string a2, .string b2, .int .i64 f2, .int .i64 t2, .int .i64 p2] 40)).later hb1)
              try simp only [World.size_alloc] at hk
              obtain ⟨hkc0, hkc1, hkc2, hkc3, hkc4, hkc5⟩ := hk.cells
              go_wp2_with (go_at_call 23; with_reducible refine ((CF _).out).mono ?_)
              rintro e w2 ⟨rfl, hb2⟩
              clear hk hkc0 hkc1 hkc2 hkc3 hkc4 hkc5
              have hl := (((Ky.new 40 v2 a2 b2 f2 t2 p2 (w.alloc (.cells #[.int .i64 v, .string a, .string b, .int .i64 f, .int .i64 t, .int .i64 p] 40))).later hb1).later hb2)
              try simp only [World.size_alloc] at hl
              obtain ⟨hlc0, hlc1, hlc2, hlc3, hlc4, hlc5⟩ := hl.cells
              go_wp2_with (go_at_call 23; with_reducible refine ((CG _).out).mono ?_)
              rintro e w3 ⟨rfl, hb3⟩
              clear hl hlc0 hlc1 hlc2 hlc3 hlc4 hlc5
              have hk := (((((Ky.new 40 v a b f t p w).alloc (.cells #[.int .i64 v2, .string a2, .string b2, .int .i64 f2, .int .i64 t2, .int .i64 p2] 40)).later hb1).later hb2).later hb3)
              try simp only [World.size_alloc] at hk
              obtain ⟨hkc0, hkc1, hkc2, hkc3, hkc4, hkc5⟩ := hk.cells
              go_wp2_with (go_at_call 28; with_reducible refine ((C1 _).out).mono ?_)
              rintro e w4 ⟨rfl, hb4⟩
              clear hk hkc0 hkc1 hkc2 hkc3 hkc4 hkc5
              have hl := (((((Ky.new 40 v2 a2 b2 f2 t2 p2 (w.alloc (.cells #[.int .i64 v, .string a, .string b, .int .i64 f, .int .i64 t, .int .i64 p] 40))).later hb1).later hb2).later hb3).later hb4)
              try simp only [World.size_alloc] at hl
              obtain ⟨hlc0, hlc1, hlc2, hlc3, hlc4, hlc5⟩ := hl.cells
              go_wp2_with (go_at_call 28; with_reducible refine ((C2 _).out).mono ?_)
              rintro e w5 ⟨rfl, hb5⟩
              clear hl hlc0 hlc1 hlc2 hlc3 hlc4 hlc5
              have hk := (((((((Ky.new 40 v a b f t p w).alloc (.cells #[.int .i64 v2, .string a2, .string b2, .int .i64 f2, .int .i64 t2, .int .i64 p2] 40)).later hb1).later hb2).later hb3).later hb4).later hb5)
              try simp only [World.size_alloc] at hk
              obtain ⟨hkc0, hkc1, hkc2, hkc3, hkc4, hkc5⟩ := hk.cells
              have hl := ((((((Ky.new 40 v2 a2 b2 f2 t2 p2 (w.alloc (.cells #[.int .i64 v, .string a, .string b, .int .i64 f, .int .i64 t, .int .i64 p] 40))).later hb1).later hb2).later hb3).later hb4).later hb5)
              try simp only [World.size_alloc] at hl
              obtain ⟨hlc0, hlc1, hlc2, hlc3, hlc4, hlc5⟩ := hl.cells
              go_wp2_with (go_at_call 30; with_reducible refine ((C3 _).out).mono ?_)
              rintro e w6 ⟨rfl, hb6⟩
              clear hk hkc0 hkc1 hkc2 hkc3 hkc4 hkc5
              clear hl hlc0 hlc1 hlc2 hlc3 hlc4 hlc5
              have hm := (Ky.new 40 M0 M1 M2 M3 M4 M5 w6)
              try simp only [World.size_alloc] at hm
              obtain ⟨hmc0, hmc1, hmc2, hmc3, hmc4, hmc5⟩ := hm.cells
              go_wp2_with (go_at_call 28; with_reducible refine ((C4 _).out).mono ?_)
              rintro e w7 ⟨rfl, hb7⟩
              clear hm hmc0 hmc1 hmc2 hmc3 hmc4 hmc5
              have hB := (bl (bl (bl (bl (bl (bl (bl (bl (bl ((Below.refl _ _).alloc (Nat.le_refl _) (.cells #[.int .i64 v, .string a, .string b, .int .i64 f, .int .i64 t, .int .i64 p] 40) : Below w.heap.size w (w.alloc _)) ((Below.refl _ _).alloc (Nat.le_refl _) (.cells #[.int .i64 v2, .string a2, .string b2, .int .i64 f2, .int .i64 t2, .int .i64 p2] 40) : Below (w.alloc (.cells #[.int .i64 v, .string a, .string b, .int .i64 f, .int .i64 t, .int .i64 p] 40)).heap.size (w.alloc (.cells #[.int .i64 v, .string a, .string b, .int .i64 f, .int .i64 t, .int .i64 p] 40)) ((w.alloc (.cells #[.int .i64 v, .string a, .string b, .int .i64 f, .int .i64 t, .int .i64 p] 40)).alloc _))) hb1) hb2) hb3) hb4) hb5) hb6) ((Below.refl _ _).alloc (Nat.le_refl _) (.cells #[.int .i64 M0, .string M1, .string M2, .int .i64 M3, .int .i64 M4, .int .i64 M5] 40) : Below w6.heap.size w6 (w6.alloc _))) hb7)
              clear hb1 hb2 hb3 hb4 hb5 hb6 hb7
              go_wp2_with fail
              go_ret
              exact ⟨rfl, hB⟩
          obtain rfl : v = v2 := hd
          by_cases hd : a = a2
          rotate_left
          · skip
            have ck := bytes_calls v a b f t p (by omega) (by omega)
            have cl := bytes_calls v a2 b2 f2 t2 p2 (by omega) (by omega)
            rw [hRk, bS_yes hRk] at ck
            rw [hRl, bS_yes hRl] at cl
            have hcmp : (a.toList == a2.toList) = false := by
              rw [beq_eq_false_iff_ne]
              intro h
              rw [ByteArray.toList_eq, ByteArray.toList_eq] at h
              exact hd (ba_ext h)
            have hST : (bX v a b f t p).toList ≠ (bX v a2 b2 f2 t2 p2).toList := by
              intro h
              rw [ByteArray.toList_eq, ByteArray.toList_eq] at h
              exact hd (apart7 hRk hRl (ba_ext h)).2.1
            have hST' : ((bX v a b f t p).toList == (bX v a2 b2 f2 t2 p2).toList) = false := by rw [beq_eq_false_iff_ne]; exact hST
            clear hST hd
            generalize bX v a b f t p = S at *
            generalize bX v a2 b2 f2 t2 p2 = T at *
            have C1 := fun w => Lib.hid (ck w)
            have C2 := fun w => Lib.hid (cl w)
            have CF := fun w => Lib.hid (cF w)
            have CG := fun w => Lib.hid (cG w)
            have co := packetOf_calls c (by omega)
            cases hO : oB c with
            | false =>
              rw [ofV_no (by rw [hO]; decide)] at co
              have C3 := fun w => Lib.hid (co w)
              clear ck cl cF cG co hO l_ab l_ab2 l_c hRk hRl
              go_enter Try.func13, Try.ntmps13
              go_wp2_with (go_at_call 20; with_reducible refine ((CW _).out).mono ?_)
              rintro e w1 ⟨rfl, hb1⟩
              have hk := (((Ky.new 40 v a b f t p w).alloc (.cells #[.int .i64 v, .string a2, .string b2, .int .i64 f2, .int .i64 t2, .int .i64 p2] 40)).later hb1)
              try simp only [World.size_alloc] at hk
              obtain ⟨hkc0, hkc1, hkc2, hkc3, hkc4, hkc5⟩ := hk.cells
              go_wp2_with (go_at_call 23; with_reducible refine ((CF _).out).mono ?_)
              rintro e w2 ⟨rfl, hb2⟩
              clear hk hkc0 hkc1 hkc2 hkc3 hkc4 hkc5
              have hl := (((Ky.new 40 v a2 b2 f2 t2 p2 (w.alloc (.cells #[.int .i64 v, .string a, .string b, .int .i64 f, .int .i64 t, .int .i64 p] 40))).later hb1).later hb2)
              try simp only [World.size_alloc] at hl
              obtain ⟨hlc0, hlc1, hlc2, hlc3, hlc4, hlc5⟩ := hl.cells
              go_wp2_with (go_at_call 23; with_reducible refine ((CG _).out).mono ?_)
              rintro e w3 ⟨rfl, hb3⟩
              clear hl hlc0 hlc1 hlc2 hlc3 hlc4 hlc5
              have hk := (((((Ky.new 40 v a b f t p w).alloc (.cells #[.int .i64 v, .string a2, .string b2, .int .i64 f2, .int .i64 t2, .int .i64 p2] 40)).later hb1).later hb2).later hb3)
              try simp only [World.size_alloc] at hk
              obtain ⟨hkc0, hkc1, hkc2, hkc3, hkc4, hkc5⟩ := hk.cells
              go_wp2_with (go_at_call 28; with_reducible refine ((C1 _).out).mono ?_)
              rintro e w4 ⟨rfl, hb4⟩
              clear hk hkc0 hkc1 hkc2 hkc3 hkc4 hkc5
              have hl := (((((Ky.new 40 v a2 b2 f2 t2 p2 (w.alloc (.cells #[.int .i64 v, .string a, .string b, .int .i64 f, .int .i64 t, .int .i64 p] 40))).later hb1).later hb2).later hb3).later hb4)
              try simp only [World.size_alloc] at hl
              obtain ⟨hlc0, hlc1, hlc2, hlc3, hlc4, hlc5⟩ := hl.cells
              go_wp2_with (go_at_call 28; with_reducible refine ((C2 _).out).mono ?_)
              rintro e w5 ⟨rfl, hb5⟩
              clear hl hlc0 hlc1 hlc2 hlc3 hlc4 hlc5
              have hk := (((((((Ky.new 40 v a b f t p w).alloc (.cells #[.int .i64 v, .string a2, .string b2, .int .i64 f2, .int .i64 t2, .int .i64 p2] 40)).later hb1).later hb2).later hb3).later hb4).later hb5)
              try simp only [World.size_alloc] at hk
              obtain ⟨hkc0, hkc1, hkc2, hkc3, hkc4, hkc5⟩ := hk.cells
              have hl := ((((((Ky.new 40 v a2 b2 f2 t2 p2 (w.alloc (.cells #[.int .i64 v, .string a, .string b, .int .i64 f, .int .i64 t, .int .i64 p] 40))).later hb1).later hb2).later hb3).later hb4).later hb5)
              try simp only [World.size_alloc] at hl
              obtain ⟨hlc0, hlc1, hlc2, hlc3, hlc4, hlc5⟩ := hl.cells
              go_wp2_with (go_at_call 30; with_reducible refine ((C3 _).out).mono ?_)
              rintro e w6 ⟨rfl, hb6⟩
              clear hk hkc0 hkc1 hkc2 hkc3 hkc4 hkc5
              clear hl hlc0 hlc1 hlc2 hlc3 hlc4 hlc5
              have hB := (bl (bl (bl (bl (bl (bl (bl (bl ((Below.refl _ _).alloc (Nat.le_refl _) (.cells #[.int .i64 v, .string a, .string b, .int .i64 f, .int .i64 t, .int .i64 p] 40) : Below w.heap.size w (w.alloc _)) ((Below.refl _ _).alloc (Nat.le_refl _) (.cells #[.int .i64 v, .string a2, .string b2, .int .i64 f2, .int .i64 t2, .int .i64 p2] 40) : Below (w.alloc (.cells #[.int .i64 v, .string a, .string b, .int .i64 f, .int .i64 t, .int .i64 p] 40)).heap.size (w.alloc (.cells #[.int .i64 v, .string a, .string b, .int .i64 f, .int .i64 t, .int .i64 p] 40)) ((w.alloc (.cells #[.int .i64 v, .string a, .string b, .int .i64 f, .int .i64 t, .int .i64 p] 40)).alloc _))) hb1) hb2) hb3) hb4) hb5) hb6) ((Below.refl _ _).alloc (Nat.le_refl _) (.cells #[.int .i64 0, .string ⟨#[]⟩, .string ⟨#[]⟩, .int .i64 0, .int .i64 0, .int .i64 0] 40) : Below w6.heap.size w6 (w6.alloc _)))
              clear hb1 hb2 hb3 hb4 hb5 hb6
              go_wp2_with fail
              go_ret
              exact ⟨rfl, hB⟩
            | true =>
              rw [ofV_yes hO] at co
              obtain ⟨_, hr1, hs1⟩ := (oB_iff c).1 hO
              have hsz := (bR_iff' _ _ _ _ _ _).1 hr1
              have cm := bytes_calls (byteN c 0) (oS c) (oD c) (getV c 2 2) (getV c 4 2) (byteN c 1) (by omega) (by omega)
              rw [hr1, hs1] at cm
              have C3 := fun w => Lib.hid (co w)
              have C4 := fun w => Lib.hid (cm w)
              clear ck cl cF cG co cm hO hr1 hs1 hsz l_ab l_ab2 l_c hRk hRl
              generalize oS c = M1 at *
              generalize oD c = M2 at *
              generalize getV c 2 2 = M3 at *
              generalize getV c 4 2 = M4 at *
              generalize ((byteN c 1 : Nat) : Int) = M5 at *
              generalize ((byteN c 0 : Nat) : Int) = M0 at *
              go_enter Try.func13, Try.ntmps13
              go_wp2_with (go_at_call 20; with_reducible refine ((CW _).out).mono ?_)
              rintro e w1 ⟨rfl, hb1⟩
              have hk := (((Ky.new 40 v a b f t p w).alloc (.cells #[.int .i64 v, .string a2, .string b2, .int .i64 f2, .int .i64 t2, .int .i64 p2] 40)).later hb1)
              try simp only [World.size_alloc] at hk
              obtain ⟨hkc0, hkc1, hkc2, hkc3, hkc4, hkc5⟩ := hk.cells
              go_wp2_with (go_at_call 23; with_reducible refine ((CF _).out).mono ?_)
              rintro e w2 ⟨rfl, hb2⟩
              clear hk hkc0 hkc1 hkc2 hkc3 hkc4 hkc5
              have hl := (((Ky.new 40 v a2 b2 f2 t2 p2 (w.alloc (.cells #[.int .i64 v, .string a, .string b, .int .i64 f, .int .i64 t, .int .i64 p] 40))).later hb1).later hb2)
              try simp only [World.size_alloc] at hl
              obtain ⟨hlc0, hlc1, hlc2, hlc3, hlc4, hlc5⟩ := hl.cells
              go_wp2_with (go_at_call 23; with_reducible refine ((CG _).out).mono ?_)
              rintro e w3 ⟨rfl, hb3⟩
              clear hl hlc0 hlc1 hlc2 hlc3 hlc4 hlc5
              have hk := (((((Ky.new 40 v a b f t p w).alloc (.cells #[.int .i64 v, .string a2, .string b2, .int .i64 f2, .int .i64 t2, .int .i64 p2] 40)).later hb1).later hb2).later hb3)
              try simp only [World.size_alloc] at hk
              obtain ⟨hkc0, hkc1, hkc2, hkc3, hkc4, hkc5⟩ := hk.cells
              go_wp2_with (go_at_call 28; with_reducible refine ((C1 _).out).mono ?_)
              rintro e w4 ⟨rfl, hb4⟩
              clear hk hkc0 hkc1 hkc2 hkc3 hkc4 hkc5
              have hl := (((((Ky.new 40 v a2 b2 f2 t2 p2 (w.alloc (.cells #[.int .i64 v, .string a, .string b, .int .i64 f, .int .i64 t, .int .i64 p] 40))).later hb1).later hb2).later hb3).later hb4)
              try simp only [World.size_alloc] at hl
              obtain ⟨hlc0, hlc1, hlc2, hlc3, hlc4, hlc5⟩ := hl.cells
              go_wp2_with (go_at_call 28; with_reducible refine ((C2 _).out).mono ?_)
              rintro e w5 ⟨rfl, hb5⟩
              clear hl hlc0 hlc1 hlc2 hlc3 hlc4 hlc5
              have hk := (((((((Ky.new 40 v a b f t p w).alloc (.cells #[.int .i64 v, .string a2, .string b2, .int .i64 f2, .int .i64 t2, .int .i64 p2] 40)).later hb1).later hb2).later hb3).later hb4).later hb5)
              try simp only [World.size_alloc] at hk
              obtain ⟨hkc0, hkc1, hkc2, hkc3, hkc4, hkc5⟩ := hk.cells
              have hl := ((((((Ky.new 40 v a2 b2 f2 t2 p2 (w.alloc (.cells #[.int .i64 v, .string a, .string b, .int .i64 f, .int .i64 t, .int .i64 p] 40))).later hb1).later hb2).later hb3).later hb4).later hb5)
              try simp only [World.size_alloc] at hl
              obtain ⟨hlc0, hlc1, hlc2, hlc3, hlc4, hlc5⟩ := hl.cells
              go_wp2_with (go_at_call 30; with_reducible refine ((C3 _).out).mono ?_)
              rintro e w6 ⟨rfl, hb6⟩
              clear hk hkc0 hkc1 hkc2 hkc3 hkc4 hkc5
              clear hl hlc0 hlc1 hlc2 hlc3 hlc4 hlc5
              have hm := (Ky.new 40 M0 M1 M2 M3 M4 M5 w6)
              try simp only [World.size_alloc] at hm
              obtain ⟨hmc0, hmc1, hmc2, hmc3, hmc4, hmc5⟩ := hm.cells
              go_wp2_with (go_at_call 28; with_reducible refine ((C4 _).out).mono ?_)
              rintro e w7 ⟨rfl, hb7⟩
              clear hm hmc0 hmc1 hmc2 hmc3 hmc4 hmc5
              have hB := (bl (bl (bl (bl (bl (bl (bl (bl (bl ((Below.refl _ _).alloc (Nat.le_refl _) (.cells #[.int .i64 v, .string a, .string b, .int .i64 f, .int .i64 t, .int .i64 p] 40) : Below w.heap.size w (w.alloc _)) ((Below.refl _ _).alloc (Nat.le_refl _) (.cells #[.int .i64 v, .string a2, .string b2, .int .i64 f2, .int .i64 t2, .int .i64 p2] 40) : Below (w.alloc (.cells #[.int .i64 v, .string a, .string b, .int .i64 f, .int .i64 t, .int .i64 p] 40)).heap.size (w.alloc (.cells #[.int .i64 v, .string a, .string b, .int .i64 f, .int .i64 t, .int .i64 p] 40)) ((w.alloc (.cells #[.int .i64 v, .string a, .string b, .int .i64 f, .int .i64 t, .int .i64 p] 40)).alloc _))) hb1) hb2) hb3) hb4) hb5) hb6) ((Below.refl _ _).alloc (Nat.le_refl _) (.cells #[.int .i64 M0, .string M1, .string M2, .int .i64 M3, .int .i64 M4, .int .i64 M5] 40) : Below w6.heap.size w6 (w6.alloc _))) hb7)
              clear hb1 hb2 hb3 hb4 hb5 hb6 hb7
              go_wp2_with fail
              go_ret
              exact ⟨rfl, hB⟩
          obtain rfl : a = a2 := hd
          by_cases hd : b = b2
          rotate_left
          · skip
            have ck := bytes_calls v a b f t p (by omega) (by omega)
            have cl := bytes_calls v a b2 f2 t2 p2 (by omega) (by omega)
            rw [hRk, bS_yes hRk] at ck
            rw [hRl, bS_yes hRl] at cl
            have hcmp : (b.toList == b2.toList) = false := by
              rw [beq_eq_false_iff_ne]
              intro h
              rw [ByteArray.toList_eq, ByteArray.toList_eq] at h
              exact hd (ba_ext h)
            have hST : (bX v a b f t p).toList ≠ (bX v a b2 f2 t2 p2).toList := by
              intro h
              rw [ByteArray.toList_eq, ByteArray.toList_eq] at h
              exact hd (apart7 hRk hRl (ba_ext h)).2.2.1
            have hST' : ((bX v a b f t p).toList == (bX v a b2 f2 t2 p2).toList) = false := by rw [beq_eq_false_iff_ne]; exact hST
            clear hST hd
            generalize bX v a b f t p = S at *
            generalize bX v a b2 f2 t2 p2 = T at *
            have C1 := fun w => Lib.hid (ck w)
            have C2 := fun w => Lib.hid (cl w)
            have CF := fun w => Lib.hid (cF w)
            have CG := fun w => Lib.hid (cG w)
            have co := packetOf_calls c (by omega)
            cases hO : oB c with
            | false =>
              rw [ofV_no (by rw [hO]; decide)] at co
              have C3 := fun w => Lib.hid (co w)
              clear ck cl cF cG co hO l_ab l_ab2 l_c hRk hRl
              go_enter Try.func13, Try.ntmps13
              go_wp2_with (go_at_call 20; with_reducible refine ((CW _).out).mono ?_)
              rintro e w1 ⟨rfl, hb1⟩
              have hk := (((Ky.new 40 v a b f t p w).alloc (.cells #[.int .i64 v, .string a, .string b2, .int .i64 f2, .int .i64 t2, .int .i64 p2] 40)).later hb1)
              try simp only [World.size_alloc] at hk
              obtain ⟨hkc0, hkc1, hkc2, hkc3, hkc4, hkc5⟩ := hk.cells
              go_wp2_with (go_at_call 23; with_reducible refine ((CF _).out).mono ?_)
              rintro e w2 ⟨rfl, hb2⟩
              clear hk hkc0 hkc1 hkc2 hkc3 hkc4 hkc5
              have hl := (((Ky.new 40 v a b2 f2 t2 p2 (w.alloc (.cells #[.int .i64 v, .string a, .string b, .int .i64 f, .int .i64 t, .int .i64 p] 40))).later hb1).later hb2)
              try simp only [World.size_alloc] at hl
              obtain ⟨hlc0, hlc1, hlc2, hlc3, hlc4, hlc5⟩ := hl.cells
              go_wp2_with (go_at_call 23; with_reducible refine ((CG _).out).mono ?_)
              rintro e w3 ⟨rfl, hb3⟩
              clear hl hlc0 hlc1 hlc2 hlc3 hlc4 hlc5
              have hk := (((((Ky.new 40 v a b f t p w).alloc (.cells #[.int .i64 v, .string a, .string b2, .int .i64 f2, .int .i64 t2, .int .i64 p2] 40)).later hb1).later hb2).later hb3)
              try simp only [World.size_alloc] at hk
              obtain ⟨hkc0, hkc1, hkc2, hkc3, hkc4, hkc5⟩ := hk.cells
              go_wp2_with (go_at_call 28; with_reducible refine ((C1 _).out).mono ?_)
              rintro e w4 ⟨rfl, hb4⟩
              clear hk hkc0 hkc1 hkc2 hkc3 hkc4 hkc5
              have hl := (((((Ky.new 40 v a b2 f2 t2 p2 (w.alloc (.cells #[.int .i64 v, .string a, .string b, .int .i64 f, .int .i64 t, .int .i64 p] 40))).later hb1).later hb2).later hb3).later hb4)
              try simp only [World.size_alloc] at hl
              obtain ⟨hlc0, hlc1, hlc2, hlc3, hlc4, hlc5⟩ := hl.cells
              go_wp2_with (go_at_call 28; with_reducible refine ((C2 _).out).mono ?_)
              rintro e w5 ⟨rfl, hb5⟩
              clear hl hlc0 hlc1 hlc2 hlc3 hlc4 hlc5
              have hk := (((((((Ky.new 40 v a b f t p w).alloc (.cells #[.int .i64 v, .string a, .string b2, .int .i64 f2, .int .i64 t2, .int .i64 p2] 40)).later hb1).later hb2).later hb3).later hb4).later hb5)
              try simp only [World.size_alloc] at hk
              obtain ⟨hkc0, hkc1, hkc2, hkc3, hkc4, hkc5⟩ := hk.cells
              have hl := ((((((Ky.new 40 v a b2 f2 t2 p2 (w.alloc (.cells #[.int .i64 v, .string a, .string b, .int .i64 f, .int .i64 t, .int .i64 p] 40))).later hb1).later hb2).later hb3).later hb4).later hb5)
              try simp only [World.size_alloc] at hl
              obtain ⟨hlc0, hlc1, hlc2, hlc3, hlc4, hlc5⟩ := hl.cells
              go_wp2_with (go_at_call 30; with_reducible refine ((C3 _).out).mono ?_)
              rintro e w6 ⟨rfl, hb6⟩
              clear hk hkc0 hkc1 hkc2 hkc3 hkc4 hkc5
              clear hl hlc0 hlc1 hlc2 hlc3 hlc4 hlc5
              have hB := (bl (bl (bl (bl (bl (bl (bl (bl ((Below.refl _ _).alloc (Nat.le_refl _) (.cells #[.int .i64 v, .string a, .string b, .int .i64 f, .int .i64 t, .int .i64 p] 40) : Below w.heap.size w (w.alloc _)) ((Below.refl _ _).alloc (Nat.le_refl _) (.cells #[.int .i64 v, .string a, .string b2, .int .i64 f2, .int .i64 t2, .int .i64 p2] 40) : Below (w.alloc (.cells #[.int .i64 v, .string a, .string b, .int .i64 f, .int .i64 t, .int .i64 p] 40)).heap.size (w.alloc (.cells #[.int .i64 v, .string a, .string b, .int .i64 f, .int .i64 t, .int .i64 p] 40)) ((w.alloc (.cells #[.int .i64 v, .string a, .string b, .int .i64 f, .int .i64 t, .int .i64 p] 40)).alloc _))) hb1) hb2) hb3) hb4) hb5) hb6) ((Below.refl _ _).alloc (Nat.le_refl _) (.cells #[.int .i64 0, .string ⟨#[]⟩, .string ⟨#[]⟩, .int .i64 0, .int .i64 0, .int .i64 0] 40) : Below w6.heap.size w6 (w6.alloc _)))
              clear hb1 hb2 hb3 hb4 hb5 hb6
              go_wp2_with fail
              go_ret
              exact ⟨rfl, hB⟩
            | true =>
              rw [ofV_yes hO] at co
              obtain ⟨_, hr1, hs1⟩ := (oB_iff c).1 hO
              have hsz := (bR_iff' _ _ _ _ _ _).1 hr1
              have cm := bytes_calls (byteN c 0) (oS c) (oD c) (getV c 2 2) (getV c 4 2) (byteN c 1) (by omega) (by omega)
              rw [hr1, hs1] at cm
              have C3 := fun w => Lib.hid (co w)
              have C4 := fun w => Lib.hid (cm w)
              clear ck cl cF cG co cm hO hr1 hs1 hsz l_ab l_ab2 l_c hRk hRl
              generalize oS c = M1 at *
              generalize oD c = M2 at *
              generalize getV c 2 2 = M3 at *
              generalize getV c 4 2 = M4 at *
              generalize ((byteN c 1 : Nat) : Int) = M5 at *
              generalize ((byteN c 0 : Nat) : Int) = M0 at *
              go_enter Try.func13, Try.ntmps13
              go_wp2_with (go_at_call 20; with_reducible refine ((CW _).out).mono ?_)
              rintro e w1 ⟨rfl, hb1⟩
              have hk := (((Ky.new 40 v a b f t p w).alloc (.cells #[.int .i64 v, .string a, .string b2, .int .i64 f2, .int .i64 t2, .int .i64 p2] 40)).later hb1)
              try simp only [World.size_alloc] at hk
              obtain ⟨hkc0, hkc1, hkc2, hkc3, hkc4, hkc5⟩ := hk.cells
              go_wp2_with (go_at_call 23; with_reducible refine ((CF _).out).mono ?_)
              rintro e w2 ⟨rfl, hb2⟩
              clear hk hkc0 hkc1 hkc2 hkc3 hkc4 hkc5
              have hl := (((Ky.new 40 v a b2 f2 t2 p2 (w.alloc (.cells #[.int .i64 v, .string a, .string b, .int .i64 f, .int .i64 t, .int .i64 p] 40))).later hb1).later hb2)
              try simp only [World.size_alloc] at hl
              obtain ⟨hlc0, hlc1, hlc2, hlc3, hlc4, hlc5⟩ := hl.cells
              go_wp2_with (go_at_call 23; with_reducible refine ((CG _).out).mono ?_)
              rintro e w3 ⟨rfl, hb3⟩
              clear hl hlc0 hlc1 hlc2 hlc3 hlc4 hlc5
              have hk := (((((Ky.new 40 v a b f t p w).alloc (.cells #[.int .i64 v, .string a, .string b2, .int .i64 f2, .int .i64 t2, .int .i64 p2] 40)).later hb1).later hb2).later hb3)
              try simp only [World.size_alloc] at hk
              obtain ⟨hkc0, hkc1, hkc2, hkc3, hkc4, hkc5⟩ := hk.cells
              go_wp2_with (go_at_call 28; with_reducible refine ((C1 _).out).mono ?_)
              rintro e w4 ⟨rfl, hb4⟩
              clear hk hkc0 hkc1 hkc2 hkc3 hkc4 hkc5
              have hl := (((((Ky.new 40 v a b2 f2 t2 p2 (w.alloc (.cells #[.int .i64 v, .string a, .string b, .int .i64 f, .int .i64 t, .int .i64 p] 40))).later hb1).later hb2).later hb3).later hb4)
              try simp only [World.size_alloc] at hl
              obtain ⟨hlc0, hlc1, hlc2, hlc3, hlc4, hlc5⟩ := hl.cells
              go_wp2_with (go_at_call 28; with_reducible refine ((C2 _).out).mono ?_)
              rintro e w5 ⟨rfl, hb5⟩
              clear hl hlc0 hlc1 hlc2 hlc3 hlc4 hlc5
              have hk := (((((((Ky.new 40 v a b f t p w).alloc (.cells #[.int .i64 v, .string a, .string b2, .int .i64 f2, .int .i64 t2, .int .i64 p2] 40)).later hb1).later hb2).later hb3).later hb4).later hb5)
              try simp only [World.size_alloc] at hk
              obtain ⟨hkc0, hkc1, hkc2, hkc3, hkc4, hkc5⟩ := hk.cells
              have hl := ((((((Ky.new 40 v a b2 f2 t2 p2 (w.alloc (.cells #[.int .i64 v, .string a, .string b, .int .i64 f, .int .i64 t, .int .i64 p] 40))).later hb1).later hb2).later hb3).later hb4).later hb5)
              try simp only [World.size_alloc] at hl
              obtain ⟨hlc0, hlc1, hlc2, hlc3, hlc4, hlc5⟩ := hl.cells
              go_wp2_with (go_at_call 30; with_reducible refine ((C3 _).out).mono ?_)
              rintro e w6 ⟨rfl, hb6⟩
              clear hk hkc0 hkc1 hkc2 hkc3 hkc4 hkc5
              clear hl hlc0 hlc1 hlc2 hlc3 hlc4 hlc5
              have hm := (Ky.new 40 M0 M1 M2 M3 M4 M5 w6)
              try simp only [World.size_alloc] at hm
              obtain ⟨hmc0, hmc1, hmc2, hmc3, hmc4, hmc5⟩ := hm.cells
              go_wp2_with (go_at_call 28; with_reducible refine ((C4 _).out).mono ?_)
              rintro e w7 ⟨rfl, hb7⟩
              clear hm hmc0 hmc1 hmc2 hmc3 hmc4 hmc5
              have hB := (bl (bl (bl (bl (bl (bl (bl (bl (bl ((Below.refl _ _).alloc (Nat.le_refl _) (.cells #[.int .i64 v, .string a, .string b, .int .i64 f, .int .i64 t, .int .i64 p] 40) : Below w.heap.size w (w.alloc _)) ((Below.refl _ _).alloc (Nat.le_refl _) (.cells #[.int .i64 v, .string a, .string b2, .int .i64 f2, .int .i64 t2, .int .i64 p2] 40) : Below (w.alloc (.cells #[.int .i64 v, .string a, .string b, .int .i64 f, .int .i64 t, .int .i64 p] 40)).heap.size (w.alloc (.cells #[.int .i64 v, .string a, .string b, .int .i64 f, .int .i64 t, .int .i64 p] 40)) ((w.alloc (.cells #[.int .i64 v, .string a, .string b, .int .i64 f, .int .i64 t, .int .i64 p] 40)).alloc _))) hb1) hb2) hb3) hb4) hb5) hb6) ((Below.refl _ _).alloc (Nat.le_refl _) (.cells #[.int .i64 M0, .string M1, .string M2, .int .i64 M3, .int .i64 M4, .int .i64 M5] 40) : Below w6.heap.size w6 (w6.alloc _))) hb7)
              clear hb1 hb2 hb3 hb4 hb5 hb6 hb7
              go_wp2_with fail
              go_ret
              exact ⟨rfl, hB⟩
          obtain rfl : b = b2 := hd
          by_cases hd : f = f2
          rotate_left
          · skip
            have ck := bytes_calls v a b f t p (by omega) (by omega)
            have cl := bytes_calls v a b f2 t2 p2 (by omega) (by omega)
            rw [hRk, bS_yes hRk] at ck
            rw [hRl, bS_yes hRl] at cl
            have hcmp : (f == f2) = false := by simpa using hd
            have hST : (bX v a b f t p).toList ≠ (bX v a b f2 t2 p2).toList := by
              intro h
              rw [ByteArray.toList_eq, ByteArray.toList_eq] at h
              exact hd (apart7 hRk hRl (ba_ext h)).2.2.2.1
            have hST' : ((bX v a b f t p).toList == (bX v a b f2 t2 p2).toList) = false := by rw [beq_eq_false_iff_ne]; exact hST
            clear hST hd
            generalize bX v a b f t p = S at *
            generalize bX v a b f2 t2 p2 = T at *
            have C1 := fun w => Lib.hid (ck w)
            have C2 := fun w => Lib.hid (cl w)
            have CF := fun w => Lib.hid (cF w)
            have CG := fun w => Lib.hid (cG w)
            have co := packetOf_calls c (by omega)
            cases hO : oB c with
            | false =>
              rw [ofV_no (by rw [hO]; decide)] at co
              have C3 := fun w => Lib.hid (co w)
              clear ck cl cF cG co hO l_ab l_ab2 l_c hRk hRl
              go_enter Try.func13, Try.ntmps13
              go_wp2_with (go_at_call 20; with_reducible refine ((CW _).out).mono ?_)
              rintro e w1 ⟨rfl, hb1⟩
              have hk := (((Ky.new 40 v a b f t p w).alloc (.cells #[.int .i64 v, .string a, .string b, .int .i64 f2, .int .i64 t2, .int .i64 p2] 40)).later hb1)
              try simp only [World.size_alloc] at hk
              obtain ⟨hkc0, hkc1, hkc2, hkc3, hkc4, hkc5⟩ := hk.cells
              go_wp2_with (go_at_call 23; with_reducible refine ((CF _).out).mono ?_)
              rintro e w2 ⟨rfl, hb2⟩
              clear hk hkc0 hkc1 hkc2 hkc3 hkc4 hkc5
              have hl := (((Ky.new 40 v a b f2 t2 p2 (w.alloc (.cells #[.int .i64 v, .string a, .string b, .int .i64 f, .int .i64 t, .int .i64 p] 40))).later hb1).later hb2)
              try simp only [World.size_alloc] at hl
              obtain ⟨hlc0, hlc1, hlc2, hlc3, hlc4, hlc5⟩ := hl.cells
              go_wp2_with (go_at_call 23; with_reducible refine ((CG _).out).mono ?_)
              rintro e w3 ⟨rfl, hb3⟩
              clear hl hlc0 hlc1 hlc2 hlc3 hlc4 hlc5
              have hk := (((((Ky.new 40 v a b f t p w).alloc (.cells #[.int .i64 v, .string a, .string b, .int .i64 f2, .int .i64 t2, .int .i64 p2] 40)).later hb1).later hb2).later hb3)
              try simp only [World.size_alloc] at hk
              obtain ⟨hkc0, hkc1, hkc2, hkc3, hkc4, hkc5⟩ := hk.cells
              go_wp2_with (go_at_call 28; with_reducible refine ((C1 _).out).mono ?_)
              rintro e w4 ⟨rfl, hb4⟩
              clear hk hkc0 hkc1 hkc2 hkc3 hkc4 hkc5
              have hl := (((((Ky.new 40 v a b f2 t2 p2 (w.alloc (.cells #[.int .i64 v, .string a, .string b, .int .i64 f, .int .i64 t, .int .i64 p] 40))).later hb1).later hb2).later hb3).later hb4)
              try simp only [World.size_alloc] at hl
              obtain ⟨hlc0, hlc1, hlc2, hlc3, hlc4, hlc5⟩ := hl.cells
              go_wp2_with (go_at_call 28; with_reducible refine ((C2 _).out).mono ?_)
              rintro e w5 ⟨rfl, hb5⟩
              clear hl hlc0 hlc1 hlc2 hlc3 hlc4 hlc5
              have hk := (((((((Ky.new 40 v a b f t p w).alloc (.cells #[.int .i64 v, .string a, .string b, .int .i64 f2, .int .i64 t2, .int .i64 p2] 40)).later hb1).later hb2).later hb3).later hb4).later hb5)
              try simp only [World.size_alloc] at hk
              obtain ⟨hkc0, hkc1, hkc2, hkc3, hkc4, hkc5⟩ := hk.cells
              have hl := ((((((Ky.new 40 v a b f2 t2 p2 (w.alloc (.cells #[.int .i64 v, .string a, .string b, .int .i64 f, .int .i64 t, .int .i64 p] 40))).later hb1).later hb2).later hb3).later hb4).later hb5)
              try simp only [World.size_alloc] at hl
              obtain ⟨hlc0, hlc1, hlc2, hlc3, hlc4, hlc5⟩ := hl.cells
              go_wp2_with (go_at_call 30; with_reducible refine ((C3 _).out).mono ?_)
              rintro e w6 ⟨rfl, hb6⟩
              clear hk hkc0 hkc1 hkc2 hkc3 hkc4 hkc5
              clear hl hlc0 hlc1 hlc2 hlc3 hlc4 hlc5
              have hB := (bl (bl (bl (bl (bl (bl (bl (bl ((Below.refl _ _).alloc (Nat.le_refl _) (.cells #[.int .i64 v, .string a, .string b, .int .i64 f, .int .i64 t, .int .i64 p] 40) : Below w.heap.size w (w.alloc _)) ((Below.refl _ _).alloc (Nat.le_refl _) (.cells #[.int .i64 v, .string a, .string b, .int .i64 f2, .int .i64 t2, .int .i64 p2] 40) : Below (w.alloc (.cells #[.int .i64 v, .string a, .string b, .int .i64 f, .int .i64 t, .int .i64 p] 40)).heap.size (w.alloc (.cells #[.int .i64 v, .string a, .string b, .int .i64 f, .int .i64 t, .int .i64 p] 40)) ((w.alloc (.cells #[.int .i64 v, .string a, .string b, .int .i64 f, .int .i64 t, .int .i64 p] 40)).alloc _))) hb1) hb2) hb3) hb4) hb5) hb6) ((Below.refl _ _).alloc (Nat.le_refl _) (.cells #[.int .i64 0, .string ⟨#[]⟩, .string ⟨#[]⟩, .int .i64 0, .int .i64 0, .int .i64 0] 40) : Below w6.heap.size w6 (w6.alloc _)))
              clear hb1 hb2 hb3 hb4 hb5 hb6
              go_wp2_with fail
              go_ret
              exact ⟨rfl, hB⟩
            | true =>
              rw [ofV_yes hO] at co
              obtain ⟨_, hr1, hs1⟩ := (oB_iff c).1 hO
              have hsz := (bR_iff' _ _ _ _ _ _).1 hr1
              have cm := bytes_calls (byteN c 0) (oS c) (oD c) (getV c 2 2) (getV c 4 2) (byteN c 1) (by omega) (by omega)
              rw [hr1, hs1] at cm
              have C3 := fun w => Lib.hid (co w)
              have C4 := fun w => Lib.hid (cm w)
              clear ck cl cF cG co cm hO hr1 hs1 hsz l_ab l_ab2 l_c hRk hRl
              generalize oS c = M1 at *
              generalize oD c = M2 at *
              generalize getV c 2 2 = M3 at *
              generalize getV c 4 2 = M4 at *
              generalize ((byteN c 1 : Nat) : Int) = M5 at *
              generalize ((byteN c 0 : Nat) : Int) = M0 at *
              go_enter Try.func13, Try.ntmps13
              go_wp2_with (go_at_call 20; with_reducible refine ((CW _).out).mono ?_)
              rintro e w1 ⟨rfl, hb1⟩
              have hk := (((Ky.new 40 v a b f t p w).alloc (.cells #[.int .i64 v, .string a, .string b, .int .i64 f2, .int .i64 t2, .int .i64 p2] 40)).later hb1)
              try simp only [World.size_alloc] at hk
              obtain ⟨hkc0, hkc1, hkc2, hkc3, hkc4, hkc5⟩ := hk.cells
              go_wp2_with (go_at_call 23; with_reducible refine ((CF _).out).mono ?_)
              rintro e w2 ⟨rfl, hb2⟩
              clear hk hkc0 hkc1 hkc2 hkc3 hkc4 hkc5
              have hl := (((Ky.new 40 v a b f2 t2 p2 (w.alloc (.cells #[.int .i64 v, .string a, .string b, .int .i64 f, .int .i64 t, .int .i64 p] 40))).later hb1).later hb2)
              try simp only [World.size_alloc] at hl
              obtain ⟨hlc0, hlc1, hlc2, hlc3, hlc4, hlc5⟩ := hl.cells
              go_wp2_with (go_at_call 23; with_reducible refine ((CG _).out).mono ?_)
              rintro e w3 ⟨rfl, hb3⟩
              clear hl hlc0 hlc1 hlc2 hlc3 hlc4 hlc5
              have hk := (((((Ky.new 40 v a b f t p w).alloc (.cells #[.int .i64 v, .string a, .string b, .int .i64 f2, .int .i64 t2, .int .i64 p2] 40)).later hb1).later hb2).later hb3)
              try simp only [World.size_alloc] at hk
              obtain ⟨hkc0, hkc1, hkc2, hkc3, hkc4, hkc5⟩ := hk.cells
              go_wp2_with (go_at_call 28; with_reducible refine ((C1 _).out).mono ?_)
              rintro e w4 ⟨rfl, hb4⟩
              clear hk hkc0 hkc1 hkc2 hkc3 hkc4 hkc5
              have hl := (((((Ky.new 40 v a b f2 t2 p2 (w.alloc (.cells #[.int .i64 v, .string a, .string b, .int .i64 f, .int .i64 t, .int .i64 p] 40))).later hb1).later hb2).later hb3).later hb4)
              try simp only [World.size_alloc] at hl
              obtain ⟨hlc0, hlc1, hlc2, hlc3, hlc4, hlc5⟩ := hl.cells
              go_wp2_with (go_at_call 28; with_reducible refine ((C2 _).out).mono ?_)
              rintro e w5 ⟨rfl, hb5⟩
              clear hl hlc0 hlc1 hlc2 hlc3 hlc4 hlc5
              have hk := (((((((Ky.new 40 v a b f t p w).alloc (.cells #[.int .i64 v, .string a, .string b, .int .i64 f2, .int .i64 t2, .int .i64 p2] 40)).later hb1).later hb2).later hb3).later hb4).later hb5)
              try simp only [World.size_alloc] at hk
              obtain ⟨hkc0, hkc1, hkc2, hkc3, hkc4, hkc5⟩ := hk.cells
              have hl := ((((((Ky.new 40 v a b f2 t2 p2 (w.alloc (.cells #[.int .i64 v, .string a, .string b, .int .i64 f, .int .i64 t, .int .i64 p] 40))).later hb1).later hb2).later hb3).later hb4).later hb5)
              try simp only [World.size_alloc] at hl
              obtain ⟨hlc0, hlc1, hlc2, hlc3, hlc4, hlc5⟩ := hl.cells
              go_wp2_with (go_at_call 30; with_reducible refine ((C3 _).out).mono ?_)
              rintro e w6 ⟨rfl, hb6⟩
              clear hk hkc0 hkc1 hkc2 hkc3 hkc4 hkc5
              clear hl hlc0 hlc1 hlc2 hlc3 hlc4 hlc5
              have hm := (Ky.new 40 M0 M1 M2 M3 M4 M5 w6)
              try simp only [World.size_alloc] at hm
              obtain ⟨hmc0, hmc1, hmc2, hmc3, hmc4, hmc5⟩ := hm.cells
              go_wp2_with (go_at_call 28; with_reducible refine ((C4 _).out).mono ?_)
              rintro e w7 ⟨rfl, hb7⟩
              clear hm hmc0 hmc1 hmc2 hmc3 hmc4 hmc5
              have hB := (bl (bl (bl (bl (bl (bl (bl (bl (bl ((Below.refl _ _).alloc (Nat.le_refl _) (.cells #[.int .i64 v, .string a, .string b, .int .i64 f, .int .i64 t, .int .i64 p] 40) : Below w.heap.size w (w.alloc _)) ((Below.refl _ _).alloc (Nat.le_refl _) (.cells #[.int .i64 v, .string a, .string b, .int .i64 f2, .int .i64 t2, .int .i64 p2] 40) : Below (w.alloc (.cells #[.int .i64 v, .string a, .string b, .int .i64 f, .int .i64 t, .int .i64 p] 40)).heap.size (w.alloc (.cells #[.int .i64 v, .string a, .string b, .int .i64 f, .int .i64 t, .int .i64 p] 40)) ((w.alloc (.cells #[.int .i64 v, .string a, .string b, .int .i64 f, .int .i64 t, .int .i64 p] 40)).alloc _))) hb1) hb2) hb3) hb4) hb5) hb6) ((Below.refl _ _).alloc (Nat.le_refl _) (.cells #[.int .i64 M0, .string M1, .string M2, .int .i64 M3, .int .i64 M4, .int .i64 M5] 40) : Below w6.heap.size w6 (w6.alloc _))) hb7)
              clear hb1 hb2 hb3 hb4 hb5 hb6 hb7
              go_wp2_with fail
              go_ret
              exact ⟨rfl, hB⟩
          obtain rfl : f = f2 := hd
          by_cases hd : t = t2
          rotate_left
          · skip
            have ck := bytes_calls v a b f t p (by omega) (by omega)
            have cl := bytes_calls v a b f t2 p2 (by omega) (by omega)
            rw [hRk, bS_yes hRk] at ck
            rw [hRl, bS_yes hRl] at cl
            have hcmp : (t == t2) = false := by simpa using hd
            have hST : (bX v a b f t p).toList ≠ (bX v a b f t2 p2).toList := by
              intro h
              rw [ByteArray.toList_eq, ByteArray.toList_eq] at h
              exact hd (apart7 hRk hRl (ba_ext h)).2.2.2.2.1
            have hST' : ((bX v a b f t p).toList == (bX v a b f t2 p2).toList) = false := by rw [beq_eq_false_iff_ne]; exact hST
            clear hST hd
            generalize bX v a b f t p = S at *
            generalize bX v a b f t2 p2 = T at *
            have C1 := fun w => Lib.hid (ck w)
            have C2 := fun w => Lib.hid (cl w)
            have CF := fun w => Lib.hid (cF w)
            have CG := fun w => Lib.hid (cG w)
            have co := packetOf_calls c (by omega)
            cases hO : oB c with
            | false =>
              rw [ofV_no (by rw [hO]; decide)] at co
              have C3 := fun w => Lib.hid (co w)
              clear ck cl cF cG co hO l_ab l_ab2 l_c hRk hRl
              go_enter Try.func13, Try.ntmps13
              go_wp2_with (go_at_call 20; with_reducible refine ((CW _).out).mono ?_)
              rintro e w1 ⟨rfl, hb1⟩
              have hk := (((Ky.new 40 v a b f t p w).alloc (.cells #[.int .i64 v, .string a, .string b, .int .i64 f, .int .i64 t2, .int .i64 p2] 40)).later hb1)
              try simp only [World.size_alloc] at hk
              obtain ⟨hkc0, hkc1, hkc2, hkc3, hkc4, hkc5⟩ := hk.cells
              go_wp2_with (go_at_call 23; with_reducible refine ((CF _).out).mono ?_)
              rintro e w2 ⟨rfl, hb2⟩
              clear hk hkc0 hkc1 hkc2 hkc3 hkc4 hkc5
              have hl := (((Ky.new 40 v a b f t2 p2 (w.alloc (.cells #[.int .i64 v, .string a, .string b, .int .i64 f, .int .i64 t, .int .i64 p] 40))).later hb1).later hb2)
              try simp only [World.size_alloc] at hl
              obtain ⟨hlc0, hlc1, hlc2, hlc3, hlc4, hlc5⟩ := hl.cells
              go_wp2_with (go_at_call 23; with_reducible refine ((CG _).out).mono ?_)
              rintro e w3 ⟨rfl, hb3⟩
              clear hl hlc0 hlc1 hlc2 hlc3 hlc4 hlc5
              have hk := (((((Ky.new 40 v a b f t p w).alloc (.cells #[.int .i64 v, .string a, .string b, .int .i64 f, .int .i64 t2, .int .i64 p2] 40)).later hb1).later hb2).later hb3)
              try simp only [World.size_alloc] at hk
              obtain ⟨hkc0, hkc1, hkc2, hkc3, hkc4, hkc5⟩ := hk.cells
              go_wp2_with (go_at_call 28; with_reducible refine ((C1 _).out).mono ?_)
              rintro e w4 ⟨rfl, hb4⟩
              clear hk hkc0 hkc1 hkc2 hkc3 hkc4 hkc5
              have hl := (((((Ky.new 40 v a b f t2 p2 (w.alloc (.cells #[.int .i64 v, .string a, .string b, .int .i64 f, .int .i64 t, .int .i64 p] 40))).later hb1).later hb2).later hb3).later hb4)
              try simp only [World.size_alloc] at hl
              obtain ⟨hlc0, hlc1, hlc2, hlc3, hlc4, hlc5⟩ := hl.cells
              go_wp2_with (go_at_call 28; with_reducible refine ((C2 _).out).mono ?_)
              rintro e w5 ⟨rfl, hb5⟩
              clear hl hlc0 hlc1 hlc2 hlc3 hlc4 hlc5
              have hk := (((((((Ky.new 40 v a b f t p w).alloc (.cells #[.int .i64 v, .string a, .string b, .int .i64 f, .int .i64 t2, .int .i64 p2] 40)).later hb1).later hb2).later hb3).later hb4).later hb5)
              try simp only [World.size_alloc] at hk
              obtain ⟨hkc0, hkc1, hkc2, hkc3, hkc4, hkc5⟩ := hk.cells
              have hl := ((((((Ky.new 40 v a b f t2 p2 (w.alloc (.cells #[.int .i64 v, .string a, .string b, .int .i64 f, .int .i64 t, .int .i64 p] 40))).later hb1).later hb2).later hb3).later hb4).later hb5)
              try simp only [World.size_alloc] at hl
              obtain ⟨hlc0, hlc1, hlc2, hlc3, hlc4, hlc5⟩ := hl.cells
              go_wp2_with (go_at_call 30; with_reducible refine ((C3 _).out).mono ?_)
              rintro e w6 ⟨rfl, hb6⟩
              clear hk hkc0 hkc1 hkc2 hkc3 hkc4 hkc5
              clear hl hlc0 hlc1 hlc2 hlc3 hlc4 hlc5
              have hB := (bl (bl (bl (bl (bl (bl (bl (bl ((Below.refl _ _).alloc (Nat.le_refl _) (.cells #[.int .i64 v, .string a, .string b, .int .i64 f, .int .i64 t, .int .i64 p] 40) : Below w.heap.size w (w.alloc _)) ((Below.refl _ _).alloc (Nat.le_refl _) (.cells #[.int .i64 v, .string a, .string b, .int .i64 f, .int .i64 t2, .int .i64 p2] 40) : Below (w.alloc (.cells #[.int .i64 v, .string a, .string b, .int .i64 f, .int .i64 t, .int .i64 p] 40)).heap.size (w.alloc (.cells #[.int .i64 v, .string a, .string b, .int .i64 f, .int .i64 t, .int .i64 p] 40)) ((w.alloc (.cells #[.int .i64 v, .string a, .string b, .int .i64 f, .int .i64 t, .int .i64 p] 40)).alloc _))) hb1) hb2) hb3) hb4) hb5) hb6) ((Below.refl _ _).alloc (Nat.le_refl _) (.cells #[.int .i64 0, .string ⟨#[]⟩, .string ⟨#[]⟩, .int .i64 0, .int .i64 0, .int .i64 0] 40) : Below w6.heap.size w6 (w6.alloc _)))
              clear hb1 hb2 hb3 hb4 hb5 hb6
              go_wp2_with fail
              go_ret
              exact ⟨rfl, hB⟩
            | true =>
              rw [ofV_yes hO] at co
              obtain ⟨_, hr1, hs1⟩ := (oB_iff c).1 hO
              have hsz := (bR_iff' _ _ _ _ _ _).1 hr1
              have cm := bytes_calls (byteN c 0) (oS c) (oD c) (getV c 2 2) (getV c 4 2) (byteN c 1) (by omega) (by omega)
              rw [hr1, hs1] at cm
              have C3 := fun w => Lib.hid (co w)
              have C4 := fun w => Lib.hid (cm w)
              clear ck cl cF cG co cm hO hr1 hs1 hsz l_ab l_ab2 l_c hRk hRl
              generalize oS c = M1 at *
              generalize oD c = M2 at *
              generalize getV c 2 2 = M3 at *
              generalize getV c 4 2 = M4 at *
              generalize ((byteN c 1 : Nat) : Int) = M5 at *
              generalize ((byteN c 0 : Nat) : Int) = M0 at *
              go_enter Try.func13, Try.ntmps13
              go_wp2_with (go_at_call 20; with_reducible refine ((CW _).out).mono ?_)
              rintro e w1 ⟨rfl, hb1⟩
              have hk := (((Ky.new 40 v a b f t p w).alloc (.cells #[.int .i64 v, .string a, .string b, .int .i64 f, .int .i64 t2, .int .i64 p2] 40)).later hb1)
              try simp only [World.size_alloc] at hk
              obtain ⟨hkc0, hkc1, hkc2, hkc3, hkc4, hkc5⟩ := hk.cells
              go_wp2_with (go_at_call 23; with_reducible refine ((CF _).out).mono ?_)
              rintro e w2 ⟨rfl, hb2⟩
              clear hk hkc0 hkc1 hkc2 hkc3 hkc4 hkc5
              have hl := (((Ky.new 40 v a b f t2 p2 (w.alloc (.cells #[.int .i64 v, .string a, .string b, .int .i64 f, .int .i64 t, .int .i64 p] 40))).later hb1).later hb2)
              try simp only [World.size_alloc] at hl
              obtain ⟨hlc0, hlc1, hlc2, hlc3, hlc4, hlc5⟩ := hl.cells
              go_wp2_with (go_at_call 23; with_reducible refine ((CG _).out).mono ?_)
              rintro e w3 ⟨rfl, hb3⟩
              clear hl hlc0 hlc1 hlc2 hlc3 hlc4 hlc5
              have hk := (((((Ky.new 40 v a b f t p w).alloc (.cells #[.int .i64 v, .string a, .string b, .int .i64 f, .int .i64 t2, .int .i64 p2] 40)).later hb1).later hb2).later hb3)
              try simp only [World.size_alloc] at hk
              obtain ⟨hkc0, hkc1, hkc2, hkc3, hkc4, hkc5⟩ := hk.cells
              go_wp2_with (go_at_call 28; with_reducible refine ((C1 _).out).mono ?_)
              rintro e w4 ⟨rfl, hb4⟩
              clear hk hkc0 hkc1 hkc2 hkc3 hkc4 hkc5
              have hl := (((((Ky.new 40 v a b f t2 p2 (w.alloc (.cells #[.int .i64 v, .string a, .string b, .int .i64 f, .int .i64 t, .int .i64 p] 40))).later hb1).later hb2).later hb3).later hb4)
              try simp only [World.size_alloc] at hl
              obtain ⟨hlc0, hlc1, hlc2, hlc3, hlc4, hlc5⟩ := hl.cells
              go_wp2_with (go_at_call 28; with_reducible refine ((C2 _).out).mono ?_)
              rintro e w5 ⟨rfl, hb5⟩
              clear hl hlc0 hlc1 hlc2 hlc3 hlc4 hlc5
              have hk := (((((((Ky.new 40 v a b f t p w).alloc (.cells #[.int .i64 v, .string a, .string b, .int .i64 f, .int .i64 t2, .int .i64 p2] 40)).later hb1).later hb2).later hb3).later hb4).later hb5)
              try simp only [World.size_alloc] at hk
              obtain ⟨hkc0, hkc1, hkc2, hkc3, hkc4, hkc5⟩ := hk.cells
              have hl := ((((((Ky.new 40 v a b f t2 p2 (w.alloc (.cells #[.int .i64 v, .string a, .string b, .int .i64 f, .int .i64 t, .int .i64 p] 40))).later hb1).later hb2).later hb3).later hb4).later hb5)
              try simp only [World.size_alloc] at hl
              obtain ⟨hlc0, hlc1, hlc2, hlc3, hlc4, hlc5⟩ := hl.cells
              go_wp2_with (go_at_call 30; with_reducible refine ((C3 _).out).mono ?_)
              rintro e w6 ⟨rfl, hb6⟩
              clear hk hkc0 hkc1 hkc2 hkc3 hkc4 hkc5
              clear hl hlc0 hlc1 hlc2 hlc3 hlc4 hlc5
              have hm := (Ky.new 40 M0 M1 M2 M3 M4 M5 w6)
              try simp only [World.size_alloc] at hm
              obtain ⟨hmc0, hmc1, hmc2, hmc3, hmc4, hmc5⟩ := hm.cells
              go_wp2_with (go_at_call 28; with_reducible refine ((C4 _).out).mono ?_)
              rintro e w7 ⟨rfl, hb7⟩
              clear hm hmc0 hmc1 hmc2 hmc3 hmc4 hmc5
              have hB := (bl (bl (bl (bl (bl (bl (bl (bl (bl ((Below.refl _ _).alloc (Nat.le_refl _) (.cells #[.int .i64 v, .string a, .string b, .int .i64 f, .int .i64 t, .int .i64 p] 40) : Below w.heap.size w (w.alloc _)) ((Below.refl _ _).alloc (Nat.le_refl _) (.cells #[.int .i64 v, .string a, .string b, .int .i64 f, .int .i64 t2, .int .i64 p2] 40) : Below (w.alloc (.cells #[.int .i64 v, .string a, .string b, .int .i64 f, .int .i64 t, .int .i64 p] 40)).heap.size (w.alloc (.cells #[.int .i64 v, .string a, .string b, .int .i64 f, .int .i64 t, .int .i64 p] 40)) ((w.alloc (.cells #[.int .i64 v, .string a, .string b, .int .i64 f, .int .i64 t, .int .i64 p] 40)).alloc _))) hb1) hb2) hb3) hb4) hb5) hb6) ((Below.refl _ _).alloc (Nat.le_refl _) (.cells #[.int .i64 M0, .string M1, .string M2, .int .i64 M3, .int .i64 M4, .int .i64 M5] 40) : Below w6.heap.size w6 (w6.alloc _))) hb7)
              clear hb1 hb2 hb3 hb4 hb5 hb6 hb7
              go_wp2_with fail
              go_ret
              exact ⟨rfl, hB⟩
          obtain rfl : t = t2 := hd
          by_cases hd : p = p2
          rotate_left
          · skip
            have ck := bytes_calls v a b f t p (by omega) (by omega)
            have cl := bytes_calls v a b f t p2 (by omega) (by omega)
            rw [hRk, bS_yes hRk] at ck
            rw [hRl, bS_yes hRl] at cl
            have hcmp : (p == p2) = false := by simpa using hd
            have hST : (bX v a b f t p).toList ≠ (bX v a b f t p2).toList := by
              intro h
              rw [ByteArray.toList_eq, ByteArray.toList_eq] at h
              exact hd (apart7 hRk hRl (ba_ext h)).2.2.2.2.2
            have hST' : ((bX v a b f t p).toList == (bX v a b f t p2).toList) = false := by rw [beq_eq_false_iff_ne]; exact hST
            clear hST hd
            generalize bX v a b f t p = S at *
            generalize bX v a b f t p2 = T at *
            have C1 := fun w => Lib.hid (ck w)
            have C2 := fun w => Lib.hid (cl w)
            have CF := fun w => Lib.hid (cF w)
            have CG := fun w => Lib.hid (cG w)
            have co := packetOf_calls c (by omega)
            cases hO : oB c with
            | false =>
              rw [ofV_no (by rw [hO]; decide)] at co
              have C3 := fun w => Lib.hid (co w)
              clear ck cl cF cG co hO l_ab l_ab2 l_c hRk hRl
              go_enter Try.func13, Try.ntmps13
              go_wp2_with (go_at_call 20; with_reducible refine ((CW _).out).mono ?_)
              rintro e w1 ⟨rfl, hb1⟩
              have hk := (((Ky.new 40 v a b f t p w).alloc (.cells #[.int .i64 v, .string a, .string b, .int .i64 f, .int .i64 t, .int .i64 p2] 40)).later hb1)
              try simp only [World.size_alloc] at hk
              obtain ⟨hkc0, hkc1, hkc2, hkc3, hkc4, hkc5⟩ := hk.cells
              go_wp2_with (go_at_call 23; with_reducible refine ((CF _).out).mono ?_)
              rintro e w2 ⟨rfl, hb2⟩
              clear hk hkc0 hkc1 hkc2 hkc3 hkc4 hkc5
              have hl := (((Ky.new 40 v a b f t p2 (w.alloc (.cells #[.int .i64 v, .string a, .string b, .int .i64 f, .int .i64 t, .int .i64 p] 40))).later hb1).later hb2)
              try simp only [World.size_alloc] at hl
              obtain ⟨hlc0, hlc1, hlc2, hlc3, hlc4, hlc5⟩ := hl.cells
              go_wp2_with (go_at_call 23; with_reducible refine ((CG _).out).mono ?_)
              rintro e w3 ⟨rfl, hb3⟩
              clear hl hlc0 hlc1 hlc2 hlc3 hlc4 hlc5
              have hk := (((((Ky.new 40 v a b f t p w).alloc (.cells #[.int .i64 v, .string a, .string b, .int .i64 f, .int .i64 t, .int .i64 p2] 40)).later hb1).later hb2).later hb3)
              try simp only [World.size_alloc] at hk
              obtain ⟨hkc0, hkc1, hkc2, hkc3, hkc4, hkc5⟩ := hk.cells
              go_wp2_with (go_at_call 28; with_reducible refine ((C1 _).out).mono ?_)
              rintro e w4 ⟨rfl, hb4⟩
              clear hk hkc0 hkc1 hkc2 hkc3 hkc4 hkc5
              have hl := (((((Ky.new 40 v a b f t p2 (w.alloc (.cells #[.int .i64 v, .string a, .string b, .int .i64 f, .int .i64 t, .int .i64 p] 40))).later hb1).later hb2).later hb3).later hb4)
              try simp only [World.size_alloc] at hl
              obtain ⟨hlc0, hlc1, hlc2, hlc3, hlc4, hlc5⟩ := hl.cells
              go_wp2_with (go_at_call 28; with_reducible refine ((C2 _).out).mono ?_)
              rintro e w5 ⟨rfl, hb5⟩
              clear hl hlc0 hlc1 hlc2 hlc3 hlc4 hlc5
              have hk := (((((((Ky.new 40 v a b f t p w).alloc (.cells #[.int .i64 v, .string a, .string b, .int .i64 f, .int .i64 t, .int .i64 p2] 40)).later hb1).later hb2).later hb3).later hb4).later hb5)
              try simp only [World.size_alloc] at hk
              obtain ⟨hkc0, hkc1, hkc2, hkc3, hkc4, hkc5⟩ := hk.cells
              have hl := ((((((Ky.new 40 v a b f t p2 (w.alloc (.cells #[.int .i64 v, .string a, .string b, .int .i64 f, .int .i64 t, .int .i64 p] 40))).later hb1).later hb2).later hb3).later hb4).later hb5)
              try simp only [World.size_alloc] at hl
              obtain ⟨hlc0, hlc1, hlc2, hlc3, hlc4, hlc5⟩ := hl.cells
              go_wp2_with (go_at_call 30; with_reducible refine ((C3 _).out).mono ?_)
              rintro e w6 ⟨rfl, hb6⟩
              clear hk hkc0 hkc1 hkc2 hkc3 hkc4 hkc5
              clear hl hlc0 hlc1 hlc2 hlc3 hlc4 hlc5
              have hB := (bl (bl (bl (bl (bl (bl (bl (bl ((Below.refl _ _).alloc (Nat.le_refl _) (.cells #[.int .i64 v, .string a, .string b, .int .i64 f, .int .i64 t, .int .i64 p] 40) : Below w.heap.size w (w.alloc _)) ((Below.refl _ _).alloc (Nat.le_refl _) (.cells #[.int .i64 v, .string a, .string b, .int .i64 f, .int .i64 t, .int .i64 p2] 40) : Below (w.alloc (.cells #[.int .i64 v, .string a, .string b, .int .i64 f, .int .i64 t, .int .i64 p] 40)).heap.size (w.alloc (.cells #[.int .i64 v, .string a, .string b, .int .i64 f, .int .i64 t, .int .i64 p] 40)) ((w.alloc (.cells #[.int .i64 v, .string a, .string b, .int .i64 f, .int .i64 t, .int .i64 p] 40)).alloc _))) hb1) hb2) hb3) hb4) hb5) hb6) ((Below.refl _ _).alloc (Nat.le_refl _) (.cells #[.int .i64 0, .string ⟨#[]⟩, .string ⟨#[]⟩, .int .i64 0, .int .i64 0, .int .i64 0] 40) : Below w6.heap.size w6 (w6.alloc _)))
              clear hb1 hb2 hb3 hb4 hb5 hb6
              go_wp2_with fail
              go_ret
              exact ⟨rfl, hB⟩
            | true =>
              rw [ofV_yes hO] at co
              obtain ⟨_, hr1, hs1⟩ := (oB_iff c).1 hO
              have hsz := (bR_iff' _ _ _ _ _ _).1 hr1
              have cm := bytes_calls (byteN c 0) (oS c) (oD c) (getV c 2 2) (getV c 4 2) (byteN c 1) (by omega) (by omega)
              rw [hr1, hs1] at cm
              have C3 := fun w => Lib.hid (co w)
              have C4 := fun w => Lib.hid (cm w)
              clear ck cl cF cG co cm hO hr1 hs1 hsz l_ab l_ab2 l_c hRk hRl
              generalize oS c = M1 at *
              generalize oD c = M2 at *
              generalize getV c 2 2 = M3 at *
              generalize getV c 4 2 = M4 at *
              generalize ((byteN c 1 : Nat) : Int) = M5 at *
              generalize ((byteN c 0 : Nat) : Int) = M0 at *
              go_enter Try.func13, Try.ntmps13
              go_wp2_with (go_at_call 20; with_reducible refine ((CW _).out).mono ?_)
              rintro e w1 ⟨rfl, hb1⟩
              have hk := (((Ky.new 40 v a b f t p w).alloc (.cells #[.int .i64 v, .string a, .string b, .int .i64 f, .int .i64 t, .int .i64 p2] 40)).later hb1)
              try simp only [World.size_alloc] at hk
              obtain ⟨hkc0, hkc1, hkc2, hkc3, hkc4, hkc5⟩ := hk.cells
              go_wp2_with (go_at_call 23; with_reducible refine ((CF _).out).mono ?_)
              rintro e w2 ⟨rfl, hb2⟩
              clear hk hkc0 hkc1 hkc2 hkc3 hkc4 hkc5
              have hl := (((Ky.new 40 v a b f t p2 (w.alloc (.cells #[.int .i64 v, .string a, .string b, .int .i64 f, .int .i64 t, .int .i64 p] 40))).later hb1).later hb2)
              try simp only [World.size_alloc] at hl
              obtain ⟨hlc0, hlc1, hlc2, hlc3, hlc4, hlc5⟩ := hl.cells
              go_wp2_with (go_at_call 23; with_reducible refine ((CG _).out).mono ?_)
              rintro e w3 ⟨rfl, hb3⟩
              clear hl hlc0 hlc1 hlc2 hlc3 hlc4 hlc5
              have hk := (((((Ky.new 40 v a b f t p w).alloc (.cells #[.int .i64 v, .string a, .string b, .int .i64 f, .int .i64 t, .int .i64 p2] 40)).later hb1).later hb2).later hb3)
              try simp only [World.size_alloc] at hk
              obtain ⟨hkc0, hkc1, hkc2, hkc3, hkc4, hkc5⟩ := hk.cells
              go_wp2_with (go_at_call 28; with_reducible refine ((C1 _).out).mono ?_)
              rintro e w4 ⟨rfl, hb4⟩
              clear hk hkc0 hkc1 hkc2 hkc3 hkc4 hkc5
              have hl := (((((Ky.new 40 v a b f t p2 (w.alloc (.cells #[.int .i64 v, .string a, .string b, .int .i64 f, .int .i64 t, .int .i64 p] 40))).later hb1).later hb2).later hb3).later hb4)
              try simp only [World.size_alloc] at hl
              obtain ⟨hlc0, hlc1, hlc2, hlc3, hlc4, hlc5⟩ := hl.cells
              go_wp2_with (go_at_call 28; with_reducible refine ((C2 _).out).mono ?_)
              rintro e w5 ⟨rfl, hb5⟩
              clear hl hlc0 hlc1 hlc2 hlc3 hlc4 hlc5
              have hk := (((((((Ky.new 40 v a b f t p w).alloc (.cells #[.int .i64 v, .string a, .string b, .int .i64 f, .int .i64 t, .int .i64 p2] 40)).later hb1).later hb2).later hb3).later hb4).later hb5)
              try simp only [World.size_alloc] at hk
              obtain ⟨hkc0, hkc1, hkc2, hkc3, hkc4, hkc5⟩ := hk.cells
              have hl := ((((((Ky.new 40 v a b f t p2 (w.alloc (.cells #[.int .i64 v, .string a, .string b, .int .i64 f, .int .i64 t, .int .i64 p] 40))).later hb1).later hb2).later hb3).later hb4).later hb5)
              try simp only [World.size_alloc] at hl
              obtain ⟨hlc0, hlc1, hlc2, hlc3, hlc4, hlc5⟩ := hl.cells
              go_wp2_with (go_at_call 30; with_reducible refine ((C3 _).out).mono ?_)
              rintro e w6 ⟨rfl, hb6⟩
              clear hk hkc0 hkc1 hkc2 hkc3 hkc4 hkc5
              clear hl hlc0 hlc1 hlc2 hlc3 hlc4 hlc5
              have hm := (Ky.new 40 M0 M1 M2 M3 M4 M5 w6)
              try simp only [World.size_alloc] at hm
              obtain ⟨hmc0, hmc1, hmc2, hmc3, hmc4, hmc5⟩ := hm.cells
              go_wp2_with (go_at_call 28; with_reducible refine ((C4 _).out).mono ?_)
              rintro e w7 ⟨rfl, hb7⟩
              clear hm hmc0 hmc1 hmc2 hmc3 hmc4 hmc5
              have hB := (bl (bl (bl (bl (bl (bl (bl (bl (bl ((Below.refl _ _).alloc (Nat.le_refl _) (.cells #[.int .i64 v, .string a, .string b, .int .i64 f, .int .i64 t, .int .i64 p] 40) : Below w.heap.size w (w.alloc _)) ((Below.refl _ _).alloc (Nat.le_refl _) (.cells #[.int .i64 v, .string a, .string b, .int .i64 f, .int .i64 t, .int .i64 p2] 40) : Below (w.alloc (.cells #[.int .i64 v, .string a, .string b, .int .i64 f, .int .i64 t, .int .i64 p] 40)).heap.size (w.alloc (.cells #[.int .i64 v, .string a, .string b, .int .i64 f, .int .i64 t, .int .i64 p] 40)) ((w.alloc (.cells #[.int .i64 v, .string a, .string b, .int .i64 f, .int .i64 t, .int .i64 p] 40)).alloc _))) hb1) hb2) hb3) hb4) hb5) hb6) ((Below.refl _ _).alloc (Nat.le_refl _) (.cells #[.int .i64 M0, .string M1, .string M2, .int .i64 M3, .int .i64 M4, .int .i64 M5] 40) : Below w6.heap.size w6 (w6.alloc _))) hb7)
              clear hb1 hb2 hb3 hb4 hb5 hb6 hb7
              go_wp2_with fail
              go_ret
              exact ⟨rfl, hB⟩
          obtain rfl : p = p2 := hd
          have ck := bytes_calls v a b f t p (by omega) (by omega)
          have cl := bytes_calls v a b f t p (by omega) (by omega)
          rw [hRk, bS_yes hRk] at ck
          rw [hRk, bS_yes hRk] at cl
          generalize bX v a b f t p = S at *
          have C1 := fun w => Lib.hid (ck w)
          have C2 := fun w => Lib.hid (cl w)
          have CF := fun w => Lib.hid (cF w)
          have CG := fun w => Lib.hid (cG w)
          have co := packetOf_calls c (by omega)
          cases hO : oB c with
          | false =>
            rw [ofV_no (by rw [hO]; decide)] at co
            have C3 := fun w => Lib.hid (co w)
            clear ck cl cF cG co hO l_ab l_ab2 l_c hRk hRl
            go_enter Try.func13, Try.ntmps13
            go_wp2_with (go_at_call 20; with_reducible refine ((CW _).out).mono ?_)
            rintro e w1 ⟨rfl, hb1⟩
            have hk := (((Ky.new 40 v a b f t p w).alloc (.cells #[.int .i64 v, .string a, .string b, .int .i64 f, .int .i64 t, .int .i64 p] 40)).later hb1)
            try simp only [World.size_alloc] at hk
            obtain ⟨hkc0, hkc1, hkc2, hkc3, hkc4, hkc5⟩ := hk.cells
            go_wp2_with (go_at_call 23; with_reducible refine ((CF _).out).mono ?_)
            rintro e w2 ⟨rfl, hb2⟩
            clear hk hkc0 hkc1 hkc2 hkc3 hkc4 hkc5
            have hl := (((Ky.new 40 v a b f t p (w.alloc (.cells #[.int .i64 v, .string a, .string b, .int .i64 f, .int .i64 t, .int .i64 p] 40))).later hb1).later hb2)
            try simp only [World.size_alloc] at hl
            obtain ⟨hlc0, hlc1, hlc2, hlc3, hlc4, hlc5⟩ := hl.cells
            go_wp2_with (go_at_call 23; with_reducible refine ((CG _).out).mono ?_)
            rintro e w3 ⟨rfl, hb3⟩
            clear hl hlc0 hlc1 hlc2 hlc3 hlc4 hlc5
            have hk := (((((Ky.new 40 v a b f t p w).alloc (.cells #[.int .i64 v, .string a, .string b, .int .i64 f, .int .i64 t, .int .i64 p] 40)).later hb1).later hb2).later hb3)
            try simp only [World.size_alloc] at hk
            obtain ⟨hkc0, hkc1, hkc2, hkc3, hkc4, hkc5⟩ := hk.cells
            go_wp2_with (go_at_call 28; with_reducible refine ((C1 _).out).mono ?_)
            rintro e w4 ⟨rfl, hb4⟩
            clear hk hkc0 hkc1 hkc2 hkc3 hkc4 hkc5
            have hl := (((((Ky.new 40 v a b f t p (w.alloc (.cells #[.int .i64 v, .string a, .string b, .int .i64 f, .int .i64 t, .int .i64 p] 40))).later hb1).later hb2).later hb3).later hb4)
            try simp only [World.size_alloc] at hl
            obtain ⟨hlc0, hlc1, hlc2, hlc3, hlc4, hlc5⟩ := hl.cells
            go_wp2_with (go_at_call 28; with_reducible refine ((C2 _).out).mono ?_)
            rintro e w5 ⟨rfl, hb5⟩
            clear hl hlc0 hlc1 hlc2 hlc3 hlc4 hlc5
            have hk := (((((((Ky.new 40 v a b f t p w).alloc (.cells #[.int .i64 v, .string a, .string b, .int .i64 f, .int .i64 t, .int .i64 p] 40)).later hb1).later hb2).later hb3).later hb4).later hb5)
            try simp only [World.size_alloc] at hk
            obtain ⟨hkc0, hkc1, hkc2, hkc3, hkc4, hkc5⟩ := hk.cells
            have hl := ((((((Ky.new 40 v a b f t p (w.alloc (.cells #[.int .i64 v, .string a, .string b, .int .i64 f, .int .i64 t, .int .i64 p] 40))).later hb1).later hb2).later hb3).later hb4).later hb5)
            try simp only [World.size_alloc] at hl
            obtain ⟨hlc0, hlc1, hlc2, hlc3, hlc4, hlc5⟩ := hl.cells
            go_wp2_with (go_at_call 30; with_reducible refine ((C3 _).out).mono ?_)
            rintro e w6 ⟨rfl, hb6⟩
            clear hk hkc0 hkc1 hkc2 hkc3 hkc4 hkc5
            clear hl hlc0 hlc1 hlc2 hlc3 hlc4 hlc5
            have hB := (bl (bl (bl (bl (bl (bl (bl (bl ((Below.refl _ _).alloc (Nat.le_refl _) (.cells #[.int .i64 v, .string a, .string b, .int .i64 f, .int .i64 t, .int .i64 p] 40) : Below w.heap.size w (w.alloc _)) ((Below.refl _ _).alloc (Nat.le_refl _) (.cells #[.int .i64 v, .string a, .string b, .int .i64 f, .int .i64 t, .int .i64 p] 40) : Below (w.alloc (.cells #[.int .i64 v, .string a, .string b, .int .i64 f, .int .i64 t, .int .i64 p] 40)).heap.size (w.alloc (.cells #[.int .i64 v, .string a, .string b, .int .i64 f, .int .i64 t, .int .i64 p] 40)) ((w.alloc (.cells #[.int .i64 v, .string a, .string b, .int .i64 f, .int .i64 t, .int .i64 p] 40)).alloc _))) hb1) hb2) hb3) hb4) hb5) hb6) ((Below.refl _ _).alloc (Nat.le_refl _) (.cells #[.int .i64 0, .string ⟨#[]⟩, .string ⟨#[]⟩, .int .i64 0, .int .i64 0, .int .i64 0] 40) : Below w6.heap.size w6 (w6.alloc _)))
            clear hb1 hb2 hb3 hb4 hb5 hb6
            go_wp2_with fail
            go_ret
            exact ⟨rfl, hB⟩
          | true =>
            rw [ofV_yes hO] at co
            obtain ⟨_, hr1, hs1⟩ := (oB_iff c).1 hO
            have hsz := (bR_iff' _ _ _ _ _ _).1 hr1
            have cm := bytes_calls (byteN c 0) (oS c) (oD c) (getV c 2 2) (getV c 4 2) (byteN c 1) (by omega) (by omega)
            rw [hr1, hs1] at cm
            have C3 := fun w => Lib.hid (co w)
            have C4 := fun w => Lib.hid (cm w)
            clear ck cl cF cG co cm hO hr1 hs1 hsz l_ab l_ab2 l_c hRk hRl
            generalize oS c = M1 at *
            generalize oD c = M2 at *
            generalize getV c 2 2 = M3 at *
            generalize getV c 4 2 = M4 at *
            generalize ((byteN c 1 : Nat) : Int) = M5 at *
            generalize ((byteN c 0 : Nat) : Int) = M0 at *
            go_enter Try.func13, Try.ntmps13
            go_wp2_with (go_at_call 20; with_reducible refine ((CW _).out).mono ?_)
            rintro e w1 ⟨rfl, hb1⟩
            have hk := (((Ky.new 40 v a b f t p w).alloc (.cells #[.int .i64 v, .string a, .string b, .int .i64 f, .int .i64 t, .int .i64 p] 40)).later hb1)
            try simp only [World.size_alloc] at hk
            obtain ⟨hkc0, hkc1, hkc2, hkc3, hkc4, hkc5⟩ := hk.cells
            go_wp2_with (go_at_call 23; with_reducible refine ((CF _).out).mono ?_)
            rintro e w2 ⟨rfl, hb2⟩
            clear hk hkc0 hkc1 hkc2 hkc3 hkc4 hkc5
            have hl := (((Ky.new 40 v a b f t p (w.alloc (.cells #[.int .i64 v, .string a, .string b, .int .i64 f, .int .i64 t, .int .i64 p] 40))).later hb1).later hb2)
            try simp only [World.size_alloc] at hl
            obtain ⟨hlc0, hlc1, hlc2, hlc3, hlc4, hlc5⟩ := hl.cells
            go_wp2_with (go_at_call 23; with_reducible refine ((CG _).out).mono ?_)
            rintro e w3 ⟨rfl, hb3⟩
            clear hl hlc0 hlc1 hlc2 hlc3 hlc4 hlc5
            have hk := (((((Ky.new 40 v a b f t p w).alloc (.cells #[.int .i64 v, .string a, .string b, .int .i64 f, .int .i64 t, .int .i64 p] 40)).later hb1).later hb2).later hb3)
            try simp only [World.size_alloc] at hk
            obtain ⟨hkc0, hkc1, hkc2, hkc3, hkc4, hkc5⟩ := hk.cells
            go_wp2_with (go_at_call 28; with_reducible refine ((C1 _).out).mono ?_)
            rintro e w4 ⟨rfl, hb4⟩
            clear hk hkc0 hkc1 hkc2 hkc3 hkc4 hkc5
            have hl := (((((Ky.new 40 v a b f t p (w.alloc (.cells #[.int .i64 v, .string a, .string b, .int .i64 f, .int .i64 t, .int .i64 p] 40))).later hb1).later hb2).later hb3).later hb4)
            try simp only [World.size_alloc] at hl
            obtain ⟨hlc0, hlc1, hlc2, hlc3, hlc4, hlc5⟩ := hl.cells
            go_wp2_with (go_at_call 28; with_reducible refine ((C2 _).out).mono ?_)
            rintro e w5 ⟨rfl, hb5⟩
            clear hl hlc0 hlc1 hlc2 hlc3 hlc4 hlc5
            have hk := (((((((Ky.new 40 v a b f t p w).alloc (.cells #[.int .i64 v, .string a, .string b, .int .i64 f, .int .i64 t, .int .i64 p] 40)).later hb1).later hb2).later hb3).later hb4).later hb5)
            try simp only [World.size_alloc] at hk
            obtain ⟨hkc0, hkc1, hkc2, hkc3, hkc4, hkc5⟩ := hk.cells
            have hl := ((((((Ky.new 40 v a b f t p (w.alloc (.cells #[.int .i64 v, .string a, .string b, .int .i64 f, .int .i64 t, .int .i64 p] 40))).later hb1).later hb2).later hb3).later hb4).later hb5)
            try simp only [World.size_alloc] at hl
            obtain ⟨hlc0, hlc1, hlc2, hlc3, hlc4, hlc5⟩ := hl.cells
            go_wp2_with (go_at_call 30; with_reducible refine ((C3 _).out).mono ?_)
            rintro e w6 ⟨rfl, hb6⟩
            clear hk hkc0 hkc1 hkc2 hkc3 hkc4 hkc5
            clear hl hlc0 hlc1 hlc2 hlc3 hlc4 hlc5
            have hm := (Ky.new 40 M0 M1 M2 M3 M4 M5 w6)
            try simp only [World.size_alloc] at hm
            obtain ⟨hmc0, hmc1, hmc2, hmc3, hmc4, hmc5⟩ := hm.cells
            go_wp2_with (go_at_call 28; with_reducible refine ((C4 _).out).mono ?_)
            rintro e w7 ⟨rfl, hb7⟩
            clear hm hmc0 hmc1 hmc2 hmc3 hmc4 hmc5
            have hB := (bl (bl (bl (bl (bl (bl (bl (bl (bl ((Below.refl _ _).alloc (Nat.le_refl _) (.cells #[.int .i64 v, .string a, .string b, .int .i64 f, .int .i64 t, .int .i64 p] 40) : Below w.heap.size w (w.alloc _)) ((Below.refl _ _).alloc (Nat.le_refl _) (.cells #[.int .i64 v, .string a, .string b, .int .i64 f, .int .i64 t, .int .i64 p] 40) : Below (w.alloc (.cells #[.int .i64 v, .string a, .string b, .int .i64 f, .int .i64 t, .int .i64 p] 40)).heap.size (w.alloc (.cells #[.int .i64 v, .string a, .string b, .int .i64 f, .int .i64 t, .int .i64 p] 40)) ((w.alloc (.cells #[.int .i64 v, .string a, .string b, .int .i64 f, .int .i64 t, .int .i64 p] 40)).alloc _))) hb1) hb2) hb3) hb4) hb5) hb6) ((Below.refl _ _).alloc (Nat.le_refl _) (.cells #[.int .i64 M0, .string M1, .string M2, .int .i64 M3, .int .i64 M4, .int .i64 M5] 40) : Below w6.heap.size w6 (w6.alloc _))) hb7)
            clear hb1 hb2 hb3 hb4 hb5 hb6 hb7
            go_wp2_with fail
            go_ret
            exact ⟨rfl, hB⟩

end Go.Proofs.Ytjfijllnmjajpaa
