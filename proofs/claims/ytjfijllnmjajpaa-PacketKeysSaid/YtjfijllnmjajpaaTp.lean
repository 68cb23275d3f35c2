/- port.tcp, port.udp, port.ports: what they answer. -/
import Derived.WalkKit
import Derived.Lib.Hide
import Derived.Laws.IdiomStrings
import Derived.Test.YtjfijllnmjajpaaGt
import Derived.Test.YtjfijllnmjajpaaPt
import Derived.Test.YtjfijllnmjajpaaRp
import Derived.Test.YtjfijllnmjajpaaQr
import Derived.Test.YtjfijllnmjajpaaSp
set_option linter.unusedSimpArgs false
set_option linter.unusedVariables false
namespace Go.Proofs.Ytjfijllnmjajpaa
open Go.RowKit Go.BigFrame

set_option maxHeartbeats 1000000 in
set_option maxRecDepth 100000 in
theorem tcp_short (s : ByteArray) (w : World) (h1 : s.size < 20) :
    Calls Try.prog 97 #[.agg #[], .string s] w fun e w' => e = .returned (.tuple #[.int .i64 0, .int .i64 2]) ∧ Below w.heap.size w w' := by
  have d1 : decide ((s.size : Int) < 20) = true := by simp; omega
  go_enter Try.func97, Try.ntmps97
  go_wp2
  go_ret2
  exact ⟨rfl, (Below.refl _ _).alloc (Nat.le_refl _) _⟩

set_option maxHeartbeats 1000000 in
set_option maxRecDepth 100000 in
theorem tcp_off (s : ByteArray) (w : World) (hs : s.size ≤ 9223372036854775807) (h1 : ¬ s.size < 20) (h2 : (decide (offT s < 20) || decide (s.size < offT s)) = true) :
    Calls Try.prog 97 #[.agg #[], .string s] w fun e w' => e = .returned (.tuple #[.int .i64 0, .int .i64 8]) ∧ Below w.heap.size w w' := by
  cases d3 : decide (offT s < 20) with
  | true =>
    have f3 : decide ((offT s : Int) < 20) = true := by simp at d3 ⊢; omega
    have d1 : decide ((s.size : Int) < 20) = false := by simp; omega
    have g12 : 12 < s.size := by omega
    have e12 := byteN_get s 12 g12
    have hb := byteN_lt s 12
    obtain ⟨z, hz⟩ : ∃ z : Nat, z = offT s := ⟨_, rfl⟩
    have hzi : (byteN s 12 : Int) / 16 * 4 = (z : Int) := by rw [hz]; simp [offT]
    have hz4 : z < 64 := by rw [hz]; unfold offT; omega
    have hw4 : IntKind.i64.wrap (z : Int) = (z : Int) := IntWalk.i64_in _ (by omega)
    have hb16 : (byteN s 12 : Int) / 16 % 256 = (byteN s 12 : Int) / 16 := by omega
    have hw16 : IntKind.i64.wrap ((byteN s 12 : Int) / 16) = (byteN s 12 : Int) / 16 := IntWalk.i64_in _ (by omega)
    have hW16 : wrap64 ((byteN s 12 : Int) / 16) = (byteN s 12 : Int) / 16 := by unfold wrap64; omega
    rw [← hz] at d3 f3
    have HZ := Lib.hid hz
    clear hz h2
    go_enter Try.func97, Try.ntmps97
    go_wp2
    go_ret2
    exact ⟨rfl, (Below.refl _ _).alloc (Nat.le_refl _) _⟩
  | false =>
    have f3 : decide ((offT s : Int) < 20) = false := by simp at d3 ⊢; omega
    have d4 : decide (s.size < offT s) = true := by simpa [d3] using h2
    have f4 : decide ((s.size : Int) < (offT s : Int)) = true := by simp at d4 ⊢; omega
    have d1 : decide ((s.size : Int) < 20) = false := by simp; omega
    have g12 : 12 < s.size := by omega
    have e12 := byteN_get s 12 g12
    have hb := byteN_lt s 12
    obtain ⟨z, hz⟩ : ∃ z : Nat, z = offT s := ⟨_, rfl⟩
    have hzi : (byteN s 12 : Int) / 16 * 4 = (z : Int) := by rw [hz]; simp [offT]
    have hz4 : z < 64 := by rw [hz]; unfold offT; omega
    have hw4 : IntKind.i64.wrap (z : Int) = (z : Int) := IntWalk.i64_in _ (by omega)
    have hb16 : (byteN s 12 : Int) / 16 % 256 = (byteN s 12 : Int) / 16 := by omega
    have hw16 : IntKind.i64.wrap ((byteN s 12 : Int) / 16) = (byteN s 12 : Int) / 16 := IntWalk.i64_in _ (by omega)
    have hW16 : wrap64 ((byteN s 12 : Int) / 16) = (byteN s 12 : Int) / 16 := by unfold wrap64; omega
    rw [← hz] at d3 f3 d4 f4
    have HZ := Lib.hid hz
    clear hz h2
    go_enter Try.func97, Try.ntmps97
    go_wp2
    go_ret2
    exact ⟨rfl, (Below.refl _ _).alloc (Nat.le_refl _) _⟩

set_option maxHeartbeats 1000000 in
set_option maxRecDepth 100000 in
theorem tcp_ok (s : ByteArray) (w : World) (hs : s.size ≤ 9223372036854775807) (h1 : ¬ s.size < 20) (h2 : (decide (offT s < 20) || decide (s.size < offT s)) = false) :
    Calls Try.prog 97 #[.agg #[], .string s] w fun e w' => e = .returned (.tuple #[.int .i64 (byteN s 13 : Int), .int .i64 0]) ∧ Below w.heap.size w w' := by
  obtain ⟨d3, d4⟩ := Bool.or_eq_false_iff.1 h2
  have f3 : decide ((offT s : Int) < 20) = false := by simp at d3 ⊢; omega
  have f4 : decide ((s.size : Int) < (offT s : Int)) = false := by simp at d4 ⊢; omega
  have g13 : 13 < s.size := by omega
  have e13 := byteN_get s 13 g13
  have hb13 := byteN_lt s 13
  have hw13 : wrap64 (byteN s 13 : Int) = (byteN s 13 : Int) := by unfold wrap64; omega
  have d1 : decide ((s.size : Int) < 20) = false := by simp; omega
  have g12 : 12 < s.size := by omega
  have e12 := byteN_get s 12 g12
  have hb := byteN_lt s 12
  obtain ⟨z, hz⟩ : ∃ z : Nat, z = offT s := ⟨_, rfl⟩
  have hzi : (byteN s 12 : Int) / 16 * 4 = (z : Int) := by rw [hz]; simp [offT]
  have hz4 : z < 64 := by rw [hz]; unfold offT; omega
  have hw4 : IntKind.i64.wrap (z : Int) = (z : Int) := IntWalk.i64_in _ (by omega)
  have hb16 : (byteN s 12 : Int) / 16 % 256 = (byteN s 12 : Int) / 16 := by omega
  have hw16 : IntKind.i64.wrap ((byteN s 12 : Int) / 16) = (byteN s 12 : Int) / 16 := IntWalk.i64_in _ (by omega)
  have hW16 : wrap64 ((byteN s 12 : Int) / 16) = (byteN s 12 : Int) / 16 := by unfold wrap64; omega
  rw [← hz] at d3 f3 d4 f4
  have HZ := Lib.hid hz
  clear hz h2
  go_enter Try.func97, Try.ntmps97
  go_wp2
  go_ret2
  exact ⟨rfl, (Below.refl _ _).alloc (Nat.le_refl _) _⟩

theorem tcp_parse (s : ByteArray) (hs : s.size ≤ 9223372036854775807) (w : World) :
    Calls Try.prog 97 #[.agg #[], .string s] w fun e w' => e = .returned (.tuple #[.int .i64 (tcpF s), .int .i64 (tcpE s)]) ∧ Below w.heap.size w w' := by
  by_cases h1 : s.size < 20
  · have e : tcpE s = 2 := by unfold tcpE; rw [if_pos h1]
    have f : tcpF s = 0 := by unfold tcpF; rw [e]; rfl
    rw [e, f]; exact tcp_short s w h1
  · cases h2 : (decide (offT s < 20) || decide (s.size < offT s)) with
    | true =>
      have e : tcpE s = 8 := by unfold tcpE; rw [if_neg h1, if_pos h2]
      have f : tcpF s = 0 := by unfold tcpF; rw [e]; rfl
      rw [e, f]; exact tcp_off s w hs h1 h2
    | false =>
      have e : tcpE s = 0 := by unfold tcpE; rw [if_neg h1, if_neg (by rw [h2]; decide)]
      have f : tcpF s = (byteN s 13 : Int) := by unfold tcpF; rw [if_pos e]
      rw [e, f]; exact tcp_ok s w hs h1 h2

set_option maxHeartbeats 1000000 in
set_option maxRecDepth 100000 in
theorem udp_short (s : ByteArray) (w : World) (h1 : s.size < 8) :
    Calls Try.prog 109 #[.agg #[], .string s] w fun e w' => e = .returned (.tuple #[.int .i64 0, .int .i64 2]) ∧ Below w.heap.size w w' := by
  have d1 : decide ((s.size : Int) < 8) = true := by simp; omega
  go_enter Try.func109, Try.ntmps109
  go_wp2
  go_ret2
  exact ⟨rfl, (Below.refl _ _).alloc (Nat.le_refl _) _⟩

set_option maxHeartbeats 1000000 in
set_option maxRecDepth 100000 in
theorem udp_long (s : ByteArray) (w : World) (hs : s.size ≤ 9223372036854775807) (h1 : ¬ s.size < 8) (h2 : (decide (getV s 4 2 < 8) || decide ((s.size : Int) < getV s 4 2)) = true) :
    Calls Try.prog 109 #[.agg #[], .string s] w fun e w' => e = .returned (.tuple #[.int .i64 0, .int .i64 4]) ∧ Below w.heap.size w w' := by
  have d1 : decide ((s.size : Int) < 8) = false := by simp; omega
  have hw : IntKind.u64.wrap (s.size : Int) = (s.size : Int) := by rw [IntKind.wrap_u64]; omega
  have C0 := Get_calls s 4 2 hs
  generalize getB s 4 2 = G at *
  obtain ⟨V, hV⟩ : ∃ V : Nat, getV s 4 2 = (V : Int) := ⟨(getV s 4 2).toNat, by have := getV2_bd s 4; omega⟩
  rw [hV] at C0
  rw [hV] at h2
  have C := Lib.hid (C0 (w.alloc (.cells #[] 92)))
  clear C0 hV
  cases f3 : decide ((V : Int) < 8) with
  | true =>
    have d3 : decide (V < 8) = true := by simp at f3 ⊢; omega
    clear h2
    go_enter Try.func109, Try.ntmps109
    go_wp2_with (go_at_call 33; with_reducible refine (C.out).mono ?_)
    rintro e w1 ⟨rfl, hb1⟩
    have hB := ((Below.refl w.heap.size w).alloc (Nat.le_refl _) (.cells #[] 92)).trans (hb1.mono (by rw [World.size_alloc]; omega))
    go_wp2_with fail
    go_ret2
    exact ⟨rfl, hB⟩
  | false =>
    have d3 : decide (V < 8) = false := by simp at f3 ⊢; omega
    have f4 : decide ((s.size : Int) < (V : Int)) = true := by simpa [f3] using h2
    have d4 : decide (s.size < V) = true := by simp at f4 ⊢; omega
    clear h2
    go_enter Try.func109, Try.ntmps109
    go_wp2_with (go_at_call 33; with_reducible refine (C.out).mono ?_)
    rintro e w1 ⟨rfl, hb1⟩
    have hB := ((Below.refl w.heap.size w).alloc (Nat.le_refl _) (.cells #[] 92)).trans (hb1.mono (by rw [World.size_alloc]; omega))
    go_wp2_with fail
    go_ret2
    exact ⟨rfl, hB⟩

set_option maxHeartbeats 1000000 in
set_option maxRecDepth 100000 in
theorem udp_ok (s : ByteArray) (w : World) (hs : s.size ≤ 9223372036854775807) (h1 : ¬ s.size < 8) (h2 : (decide (getV s 4 2 < 8) || decide ((s.size : Int) < getV s 4 2)) = false) :
    Calls Try.prog 109 #[.agg #[], .string s] w fun e w' => e = .returned (.tuple #[.int .i64 0, .int .i64 0]) ∧ Below w.heap.size w w' := by
  have d1 : decide ((s.size : Int) < 8) = false := by simp; omega
  have hw : IntKind.u64.wrap (s.size : Int) = (s.size : Int) := by rw [IntKind.wrap_u64]; omega
  have C0 := Get_calls s 4 2 hs
  generalize getB s 4 2 = G at *
  obtain ⟨V, hV⟩ : ∃ V : Nat, getV s 4 2 = (V : Int) := ⟨(getV s 4 2).toNat, by have := getV2_bd s 4; omega⟩
  rw [hV] at C0
  rw [hV] at h2
  have C := Lib.hid (C0 (w.alloc (.cells #[] 92)))
  clear C0 hV
  obtain ⟨f3, f4⟩ := Bool.or_eq_false_iff.1 h2
  have d3 : decide (V < 8) = false := by simp at f3 ⊢; omega
  have d4 : decide (s.size < V) = false := by simp at f4 ⊢; omega
  clear h2
  go_enter Try.func109, Try.ntmps109
  go_wp2_with (go_at_call 33; with_reducible refine (C.out).mono ?_)
  rintro e w1 ⟨rfl, hb1⟩
  have hB := ((Below.refl w.heap.size w).alloc (Nat.le_refl _) (.cells #[] 92)).trans (hb1.mono (by rw [World.size_alloc]; omega))
  go_wp2_with fail
  go_ret2
  exact ⟨rfl, hB⟩

theorem udp_parse (s : ByteArray) (hs : s.size ≤ 9223372036854775807) (w : World) :
    Calls Try.prog 109 #[.agg #[], .string s] w fun e w' => e = .returned (.tuple #[.int .i64 0, .int .i64 (udpE s)]) ∧ Below w.heap.size w w' := by
  by_cases h1 : s.size < 8
  · have e : udpE s = 2 := by unfold udpE; rw [if_pos h1]
    rw [e]; exact udp_short s w h1
  · cases h2 : (decide (getV s 4 2 < 8) || decide ((s.size : Int) < getV s 4 2)) with
    | true =>
      have e : udpE s = 4 := by unfold udpE; rw [if_neg h1, if_pos h2]
      rw [e]; exact udp_long s w hs h1 h2
    | false =>
      have e : udpE s = 0 := by unfold udpE; rw [if_neg h1, if_neg (by rw [h2]; decide)]
      rw [e]; exact udp_ok s w hs h1 h2

set_option maxHeartbeats 1000000 in
set_option maxRecDepth 100000 in
theorem tcp_put (f : Int) (w : World) :
    Calls Try.prog 98 #[.agg #[], .int .i64 f] w fun e w' => e = .returned (.tuple #[.string (if inB f 255 = true then fS 6 f else ⟨#[]⟩), .int .i64 (if inB f 255 = true then 0 else 1)]) ∧ Below w.heap.size w w' := by
  by_cases h0 : f < 0
  · have e0 : decide (f < 0) = true := by simpa using h0
    have e : inB f 255 = false := by simp [inB]; omega
    rw [e]
    clear h0
    go_enter Try.func98, Try.ntmps98
    go_wp2
    go_ret2
    exact ⟨rfl, (Below.refl _ _).alloc (Nat.le_refl _) _⟩
  · have e0 : decide (f < 0) = false := by simpa using h0
    by_cases h1 : 255 < f
    · have e1 : decide (255 < f) = true := by simpa using h1
      have e : inB f 255 = false := by simp [inB]; omega
      rw [e]
      clear h0 h1
      go_enter Try.func98, Try.ntmps98
      go_wp2
      go_ret2
      exact ⟨rfl, (Below.refl _ _).alloc (Nat.le_refl _) _⟩
    · have e1 : decide (255 < f) = false := by simpa using h1
      have e : inB f 255 = true := by simp [inB]; omega
      rw [if_pos e, if_pos e]
      have hw : IntKind.u64.wrap f = f := by rw [IntKind.wrap_u64]; omega
      have C1 : ∀ w : World, Hid (Calls Try.prog 99 #[.string ⟨#[0]⟩, .int .i64 8] w fun e w' => e = .returned (.string ⟨#[0, 0, 0, 0, 0, 0, 0, 0]⟩) ∧ Below w.heap.size w w') := fun w => Lib.hid (repeat_calls ⟨#[0]⟩ 8 w (by decide) (by decide))
      have C3 : ∀ w : World, Hid (Calls Try.prog 99 #[.string ⟨#[0]⟩, .int .i64 6] w fun e w' => e = .returned (.string ⟨#[0, 0, 0, 0, 0, 0]⟩) ∧ Below w.heap.size w w') := fun w => Lib.hid (repeat_calls ⟨#[0]⟩ 6 w (by decide) (by decide))
      have C2 := fun w => Lib.hid (Put_calls f 1 (by omega) w)
      have s1 : (putS f 1).size = 1 := by have := putS_size f 1; simp at this; omega
      have hput : fS 6 f = (⟨#[0, 0, 0, 0, 0, 0, 0, 0]⟩ : ByteArray) ++ ⟨#[80]⟩ ++ putS f 1 ++ ⟨#[0, 0, 0, 0, 0, 0]⟩ := rfl
      rw [hput]
      have HP := Lib.hid hput
      clear hput h0 h1
      generalize putS f 1 = S1 at *
      have z1 : (⟨#[0, 0, 0, 0, 0, 0, 0, 0]⟩ : ByteArray).size = 8 := rfl
      have z2 : (⟨#[80]⟩ : ByteArray).size = 1 := rfl
      have z3 : (⟨#[0, 0, 0, 0, 0, 0]⟩ : ByteArray).size = 6 := rfl
      go_enter Try.func98, Try.ntmps98
      go_wp2_with (go_at_call 99; with_reducible refine (C1 _).out.mono ?_)
      rintro e w1 ⟨rfl, hb1⟩
      go_wp2_with (go_at_call 45; with_reducible refine (C2 _).out.mono ?_)
      rintro e w2 ⟨rfl, hb2⟩
      go_wp2_with (go_at_call 99; with_reducible refine (C3 _).out.mono ?_)
      rintro e w3 ⟨rfl, hb3⟩
      have hB := bl (bl (bl ((Below.refl w.heap.size w).alloc (Nat.le_refl _) (.cells #[] 91)) hb1) hb2) hb3
      go_wp2_with fail
      go_ret2
      exact ⟨rfl, hB⟩

set_option maxHeartbeats 1000000 in
set_option maxRecDepth 100000 in
theorem udp_put (f : Int) (w : World) :
    Calls Try.prog 110 #[.agg #[], .int .i64 f] w fun e w' => e = .returned (.tuple #[.string (if f = 0 then ⟨#[0, 8, 0, 0]⟩ else ⟨#[]⟩), .int .i64 (if f = 0 then 0 else 1)]) ∧ Below w.heap.size w w' := by
  by_cases h0 : f = 0
  · have e0 : (f != 0) = false := by simpa using h0
    rw [if_pos h0, if_pos h0]
    clear h0
    go_enter Try.func110, Try.ntmps110
    go_wp2
    go_ret2
    exact ⟨rfl, (Below.refl _ _).alloc (Nat.le_refl _) _⟩
  · have e0 : (f != 0) = true := by simpa using h0
    rw [if_neg h0, if_neg h0]
    clear h0
    go_enter Try.func110, Try.ntmps110
    go_wp2
    go_ret2
    exact ⟨rfl, (Below.refl _ _).alloc (Nat.le_refl _) _⟩

/-- What port.ports answers of its text, whatever its ports. -/
def abW (a b : Int) : ByteArray := if inB a 65535 = true then (if inB b 65535 = true then abS a b else putS a 2) else if inB b 65535 = true then (⟨#[]⟩ : ByteArray) ++ putS b 2 else ⟨#[]⟩

set_option maxHeartbeats 1000000 in
set_option maxRecDepth 100000 in
theorem ports_calls (a b f : Int) (w : World) :
    Calls Try.prog 35 #[.agg #[.int .i64 a, .int .i64 b, .int .i64 f]] w fun e w' => e = .returned (.tuple #[.string (abW a b), .bool (inB a 65535 && inB b 65535)]) ∧ Below w.heap.size w w' := by
  by_cases ha : a < 0
  · skip
    by_cases hb : b < 0
    · skip
      have a0 : decide (0 ≤ a) = false := by simp; omega
      have ae : inB a 65535 = false := by simp [inB]; omega
      have b0 : decide (0 ≤ b) = false := by simp; omega
      have be : inB b 65535 = false := by simp [inB]; omega
      unfold abW
      rw [ae, be]
      clear ha hb
      go_enter Try.func35, Try.ntmps35
      have HX := heap_alloc_new w (.cells #[.int .i64 a, .int .i64 b, .int .i64 f] 24)
      have hB := (Below.refl w.heap.size w).alloc (Nat.le_refl _) (.cells #[.int .i64 a, .int .i64 b, .int .i64 f] 24)
      go_wp2_with fail
      go_ret2
      exact ⟨rfl, hB⟩
    · by_cases hb1 : 65535 < b
      · skip
        have a0 : decide (0 ≤ a) = false := by simp; omega
        have ae : inB a 65535 = false := by simp [inB]; omega
        have b0 : decide (0 ≤ b) = true := by simp; omega
        have b1 : decide (b ≤ 65535) = false := by simp; omega
        have be : inB b 65535 = false := by simp [inB]; omega
        unfold abW
        rw [ae, be]
        clear ha hb hb1
        go_enter Try.func35, Try.ntmps35
        have HX := heap_alloc_new w (.cells #[.int .i64 a, .int .i64 b, .int .i64 f] 24)
        have hB := (Below.refl w.heap.size w).alloc (Nat.le_refl _) (.cells #[.int .i64 a, .int .i64 b, .int .i64 f] 24)
        go_wp2_with fail
        go_ret2
        exact ⟨rfl, hB⟩
      · skip
        have a0 : decide (0 ≤ a) = false := by simp; omega
        have ae : inB a 65535 = false := by simp [inB]; omega
        have b0 : decide (0 ≤ b) = true := by simp; omega
        have b1 : decide (b ≤ 65535) = true := by simp; omega
        have be : inB b 65535 = true := by simp [inB]; omega
        have bw : IntKind.u64.wrap b = b := by rw [IntKind.wrap_u64]; omega
        have Cb := fun w => Lib.hid (Put_calls b 2 (by omega) w)
        have bsz : (putS b 2).size = 2 := by have := putS_size b 2; simp at this; omega
        unfold abW
        rw [ae, be]
        clear ha hb hb1
        generalize putS b 2 = SB at *
        have z0 : (⟨#[]⟩ : ByteArray).size = 0 := rfl
        go_enter Try.func35, Try.ntmps35
        have HX := heap_alloc_new w (.cells #[.int .i64 a, .int .i64 b, .int .i64 f] 24)
        go_wp2_with (go_at_call 45; with_reducible refine (Cb _).out.mono ?_)
        rintro e w2 ⟨rfl, hb2⟩
        have hB := bl ((Below.refl w.heap.size w).alloc (Nat.le_refl _) (.cells #[.int .i64 a, .int .i64 b, .int .i64 f] 24)) hb2
        go_wp2_with fail
        go_ret2
        exact ⟨rfl, hB⟩
  · by_cases ha1 : 65535 < a
    · skip
      by_cases hb : b < 0
      · skip
        have a0 : decide (0 ≤ a) = true := by simp; omega
        have a1 : decide (a ≤ 65535) = false := by simp; omega
        have ae : inB a 65535 = false := by simp [inB]; omega
        have b0 : decide (0 ≤ b) = false := by simp; omega
        have be : inB b 65535 = false := by simp [inB]; omega
        unfold abW
        rw [ae, be]
        clear ha hb ha1
        go_enter Try.func35, Try.ntmps35
        have HX := heap_alloc_new w (.cells #[.int .i64 a, .int .i64 b, .int .i64 f] 24)
        have hB := (Below.refl w.heap.size w).alloc (Nat.le_refl _) (.cells #[.int .i64 a, .int .i64 b, .int .i64 f] 24)
        go_wp2_with fail
        go_ret2
        exact ⟨rfl, hB⟩
      · by_cases hb1 : 65535 < b
        · skip
          have a0 : decide (0 ≤ a) = true := by simp; omega
          have a1 : decide (a ≤ 65535) = false := by simp; omega
          have ae : inB a 65535 = false := by simp [inB]; omega
          have b0 : decide (0 ≤ b) = true := by simp; omega
          have b1 : decide (b ≤ 65535) = false := by simp; omega
          have be : inB b 65535 = false := by simp [inB]; omega
          unfold abW
          rw [ae, be]
          clear ha hb ha1 hb1
          go_enter Try.func35, Try.ntmps35
          have HX := heap_alloc_new w (.cells #[.int .i64 a, .int .i64 b, .int .i64 f] 24)
          have hB := (Below.refl w.heap.size w).alloc (Nat.le_refl _) (.cells #[.int .i64 a, .int .i64 b, .int .i64 f] 24)
          go_wp2_with fail
          go_ret2
          exact ⟨rfl, hB⟩
        · skip
          have a0 : decide (0 ≤ a) = true := by simp; omega
          have a1 : decide (a ≤ 65535) = false := by simp; omega
          have ae : inB a 65535 = false := by simp [inB]; omega
          have b0 : decide (0 ≤ b) = true := by simp; omega
          have b1 : decide (b ≤ 65535) = true := by simp; omega
          have be : inB b 65535 = true := by simp [inB]; omega
          have bw : IntKind.u64.wrap b = b := by rw [IntKind.wrap_u64]; omega
          have Cb := fun w => Lib.hid (Put_calls b 2 (by omega) w)
          have bsz : (putS b 2).size = 2 := by have := putS_size b 2; simp at this; omega
          unfold abW
          rw [ae, be]
          clear ha hb ha1 hb1
          generalize putS b 2 = SB at *
          have z0 : (⟨#[]⟩ : ByteArray).size = 0 := rfl
          go_enter Try.func35, Try.ntmps35
          have HX := heap_alloc_new w (.cells #[.int .i64 a, .int .i64 b, .int .i64 f] 24)
          go_wp2_with (go_at_call 45; with_reducible refine (Cb _).out.mono ?_)
          rintro e w2 ⟨rfl, hb2⟩
          have hB := bl ((Below.refl w.heap.size w).alloc (Nat.le_refl _) (.cells #[.int .i64 a, .int .i64 b, .int .i64 f] 24)) hb2
          go_wp2_with fail
          go_ret2
          exact ⟨rfl, hB⟩
    · skip
      by_cases hb : b < 0
      · skip
        have a0 : decide (0 ≤ a) = true := by simp; omega
        have a1 : decide (a ≤ 65535) = true := by simp; omega
        have ae : inB a 65535 = true := by simp [inB]; omega
        have aw : IntKind.u64.wrap a = a := by rw [IntKind.wrap_u64]; omega
        have Ca := fun w => Lib.hid (Put_calls a 2 (by omega) w)
        have asz : (putS a 2).size = 2 := by have := putS_size a 2; simp at this; omega
        have b0 : decide (0 ≤ b) = false := by simp; omega
        have be : inB b 65535 = false := by simp [inB]; omega
        unfold abW
        rw [ae, be]
        clear ha hb ha1
        generalize putS a 2 = SA at *
        go_enter Try.func35, Try.ntmps35
        have HX := heap_alloc_new w (.cells #[.int .i64 a, .int .i64 b, .int .i64 f] 24)
        go_wp2_with (go_at_call 45; with_reducible refine (Ca _).out.mono ?_)
        rintro e w1 ⟨rfl, hb1⟩
        have H1 : w1.heap[w.heap.size]? = some (.cells #[.int .i64 a, .int .i64 b, .int .i64 f] 24 (0, 0)) := (hb1.block _ (by rw [World.size_alloc]; omega)).trans HX
        have q0 : w1.cell? ⟨w.heap.size, 0, none⟩ = some (.int .i64 a) := by simp [World.cell?, H1]
        have q1 : w1.cell? ⟨w.heap.size, 1, none⟩ = some (.int .i64 b) := by simp [World.cell?, H1]
        have hB := bl ((Below.refl w.heap.size w).alloc (Nat.le_refl _) (.cells #[.int .i64 a, .int .i64 b, .int .i64 f] 24)) hb1
        go_wp2_with fail
        go_ret2
        exact ⟨rfl, hB⟩
      · by_cases hb1 : 65535 < b
        · skip
          have a0 : decide (0 ≤ a) = true := by simp; omega
          have a1 : decide (a ≤ 65535) = true := by simp; omega
          have ae : inB a 65535 = true := by simp [inB]; omega
          have aw : IntKind.u64.wrap a = a := by rw [IntKind.wrap_u64]; omega
          have Ca := fun w => Lib.hid (Put_calls a 2 (by omega) w)
          have asz : (putS a 2).size = 2 := by have := putS_size a 2; simp at this; omega
          have b0 : decide (0 ≤ b) = true := by simp; omega
          have b1 : decide (b ≤ 65535) = false := by simp; omega
          have be : inB b 65535 = false := by simp [inB]; omega
          unfold abW
          rw [ae, be]
          clear ha hb ha1 hb1
          generalize putS a 2 = SA at *
          go_enter Try.func35, Try.ntmps35
          have HX := heap_alloc_new w (.cells #[.int .i64 a, .int .i64 b, .int .i64 f] 24)
          go_wp2_with (go_at_call 45; with_reducible refine (Ca _).out.mono ?_)
          rintro e w1 ⟨rfl, hb1⟩
          have H1 : w1.heap[w.heap.size]? = some (.cells #[.int .i64 a, .int .i64 b, .int .i64 f] 24 (0, 0)) := (hb1.block _ (by rw [World.size_alloc]; omega)).trans HX
          have q0 : w1.cell? ⟨w.heap.size, 0, none⟩ = some (.int .i64 a) := by simp [World.cell?, H1]
          have q1 : w1.cell? ⟨w.heap.size, 1, none⟩ = some (.int .i64 b) := by simp [World.cell?, H1]
          have hB := bl ((Below.refl w.heap.size w).alloc (Nat.le_refl _) (.cells #[.int .i64 a, .int .i64 b, .int .i64 f] 24)) hb1
          go_wp2_with fail
          go_ret2
          exact ⟨rfl, hB⟩
        · skip
          have a0 : decide (0 ≤ a) = true := by simp; omega
          have a1 : decide (a ≤ 65535) = true := by simp; omega
          have ae : inB a 65535 = true := by simp [inB]; omega
          have aw : IntKind.u64.wrap a = a := by rw [IntKind.wrap_u64]; omega
          have Ca := fun w => Lib.hid (Put_calls a 2 (by omega) w)
          have asz : (putS a 2).size = 2 := by have := putS_size a 2; simp at this; omega
          have b0 : decide (0 ≤ b) = true := by simp; omega
          have b1 : decide (b ≤ 65535) = true := by simp; omega
          have be : inB b 65535 = true := by simp [inB]; omega
          have bw : IntKind.u64.wrap b = b := by rw [IntKind.wrap_u64]; omega
          have Cb := fun w => Lib.hid (Put_calls b 2 (by omega) w)
          have bsz : (putS b 2).size = 2 := by have := putS_size b 2; simp at this; omega
          unfold abW
          rw [ae, be]
          clear ha hb ha1 hb1
          unfold abS
          generalize putS a 2 = SA at *
          generalize putS b 2 = SB at *
          go_enter Try.func35, Try.ntmps35
          have HX := heap_alloc_new w (.cells #[.int .i64 a, .int .i64 b, .int .i64 f] 24)
          go_wp2_with (go_at_call 45; with_reducible refine (Ca _).out.mono ?_)
          rintro e w1 ⟨rfl, hb1⟩
          have H1 : w1.heap[w.heap.size]? = some (.cells #[.int .i64 a, .int .i64 b, .int .i64 f] 24 (0, 0)) := (hb1.block _ (by rw [World.size_alloc]; omega)).trans HX
          have q0 : w1.cell? ⟨w.heap.size, 0, none⟩ = some (.int .i64 a) := by simp [World.cell?, H1]
          have q1 : w1.cell? ⟨w.heap.size, 1, none⟩ = some (.int .i64 b) := by simp [World.cell?, H1]
          go_wp2_with (go_at_call 45; with_reducible refine (Cb _).out.mono ?_)
          rintro e w2 ⟨rfl, hb2⟩
          have hB := bl (bl ((Below.refl w.heap.size w).alloc (Nat.le_refl _) (.cells #[.int .i64 a, .int .i64 b, .int .i64 f] 24)) hb1) hb2
          go_wp2_with fail
          go_ret2
          exact ⟨rfl, hB⟩
end Go.Proofs.Ytjfijllnmjajpaa
