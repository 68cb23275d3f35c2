/- gangplanklaw04: works, and the laws, walked. -/
import Derived.WalkKit
import Derived.Lib.Hide
import Derived.Laws.IdiomStrings
import Derived.Test.YtoekipjnjlbjgaaJ4
import Derived.Test.YtoekipjnjlbjgaaV4
import Derived.Test.YtoekipjnjlbjgaaR4
import Derived.Test.YtoekipjnjlbjgaaT4
import Derived.Test.YtoekipjnjlbjgaaB4
set_option linter.unusedVariables false
namespace Go.Proofs.Ytoekipjnjlbjgaa
open Go.RowKit Go.BigFrame

/-- A head's variable. -/
def Hd (T n : Nat) (a b : ByteArray) (p : Int) (w : World) : Prop := w.heap[n]? = some (.cells #[.string a, .string b, .int .i64 p] T (0, 0))
theorem Hd.new (T : Nat) (a b : ByteArray) (p : Int) (w : World) : Hd T w.heap.size a b p (w.alloc (.cells #[.string a, .string b, .int .i64 p] T)) := heap_alloc_new w _
theorem Hd.later {T n : Nat} {a b : ByteArray} {p : Int} {w w' : World} (h : Hd T n a b p w) (hb : Below w.heap.size w w') : Hd T n a b p w' :=
  (hb.block n (Array.getElem?_eq_some_iff.1 h).1).trans h
theorem Hd.alloc {T n : Nat} {a b : ByteArray} {p : Int} {w : World} (h : Hd T n a b p w) (o : Obj) : Hd T n a b p (w.alloc o) :=
  h.later ((Below.refl _ _).alloc (Nat.le_refl _) _)
theorem Hd.cells {T n : Nat} {a b : ByteArray} {p : Int} {w : World} (h : Hd T n a b p w) : w.cell? ⟨n, 0, none⟩ = some (.string a) ∧ w.cell? ⟨n, 1, none⟩ = some (.string b) ∧ w.cell? ⟨n, 2, none⟩ = some (.int .i64 p) := by
  unfold Hd at h
  refine ⟨?_, ?_, ?_⟩ <;> simp [World.cell?, h]

def exA : ByteArray := ⟨#[1, 2, 3, 4]⟩
def exB : ByteArray := ⟨#[5, 6, 7, 8]⟩
def exX : ByteArray := ⟨#[]⟩

set_option maxHeartbeats 1000000 in
set_option maxRecDepth 100000 in
theorem works4 (w : World) : Calls Try.prog 18 #[] w fun e w' => e = .returned (.bool true) ∧ Below w.heap.size w w' := by
  have hE : u4E exA exB 17 exX = 0 := by rw [u4E_iff]; decide
  have hsz := u4S_size hE
  have hz : exX.size = 0 := rfl
  obtain ⟨k1, k2, k3, k4, k5, k6⟩ := back4 exA exB 17 exX ⟨#[]⟩ hE
  have c1 := ip4Put_calls exA exB 17 exX (by decide)
  rw [hE] at c1
  obtain ⟨S, hS⟩ : ∃ S, S = u4S exA exB 17 exX := ⟨_, rfl⟩
  have hSe : S ++ ⟨#[]⟩ = S := ByteArray.append_empty
  rw [← hS] at c1 hsz k1 k2 k3 k4 k5
  rw [hSe] at k1 k2 k3 k4 k5
  have c2 := ip4Parse_calls S (by omega)
  rw [k1, k2, k3, k4, k5] at c2
  have c3 := ip4Parse_calls ⟨#[]⟩ (by decide)
  rw [show p4E ⟨#[]⟩ = 2 from rfl, show p4S ⟨#[]⟩ = ⟨#[]⟩ from rfl, show p4D ⟨#[]⟩ = ⟨#[]⟩ from rfl, show p4P ⟨#[]⟩ = 0 from rfl, show p4R ⟨#[]⟩ = ⟨#[]⟩ from rfl] at c3
  have c4 := ip4Put_calls ⟨#[]⟩ ⟨#[]⟩ 0 ⟨#[]⟩ (by decide)
  rw [show u4E ⟨#[]⟩ ⟨#[]⟩ 0 ⟨#[]⟩ = 1 from rfl, show u4S ⟨#[]⟩ ⟨#[]⟩ 0 ⟨#[]⟩ = ⟨#[]⟩ from rfl] at c4
  have hq : ((S.size : Int) == 20) = true := by rw [hsz, hz]; rfl
  have C1 := fun w => Lib.hid (c1 w)
  have C2 := fun w => Lib.hid (c2 w)
  have C3 := fun w => Lib.hid (c3 w)
  have C4 := fun w => Lib.hid (c4 w)
  clear c1 c2 c3 c4 k1 k2 k3 k4 k5 k6 hE hS hSe hsz hz
  unfold exA exB exX at *
  go_enter Try.func18, Try.ntmps18
  go_wp2_with (go_at_call 21; with_reducible refine ((C1 _).out).mono ?_)
  rintro e w1 ⟨rfl, hb1⟩
  go_wp2_with (go_at_call 19; with_reducible refine ((C2 _).out).mono ?_)
  rintro e w2 ⟨rfl, hb2⟩
  go_wp2_with (go_at_call 19; with_reducible refine ((C3 _).out).mono ?_)
  rintro e w3 ⟨rfl, hb3⟩
  go_wp2_with (go_at_call 21; with_reducible refine ((C4 _).out).mono ?_)
  rintro e w4 ⟨rfl, hb4⟩
  have h0 := ((((((Hd.new 39 exA exB 17 w).later hb1).later hb2).alloc (.cells #[.string exA, .string exB, .int .i64 17] 39)).later hb3).alloc (.cells #[.string ⟨#[]⟩, .string ⟨#[]⟩, .int .i64 0] 39)).later hb4
  have h2 := ((((Hd.new 39 exA exB 17 w2)).later hb3).alloc (.cells #[.string ⟨#[]⟩, .string ⟨#[]⟩, .int .i64 0] 39)).later hb4
  obtain ⟨q0, q1, q2⟩ := h0.cells
  obtain ⟨r0, r1, r2⟩ := h2.cells
  unfold exA at q0 r0
  unfold exB at q1 r1
  have ga : ∀ w : World, Below w.heap.size w (w.alloc (.cells #[.string exA, .string exB, .int .i64 17] 39)) := fun w => (Below.refl _ _).alloc (Nat.le_refl _) _
  have gn : ∀ w : World, Below w.heap.size w (w.alloc (.cells #[.string ⟨#[]⟩, .string ⟨#[]⟩, .int .i64 0] 39)) := fun w => (Below.refl _ _).alloc (Nat.le_refl _) _
  have hB := bl (bl (bl (bl (bl (bl (ga w) hb1) hb2) (ga w2)) hb3) (gn w3)) hb4
  clear ga gn h0 h2 hb1 hb2 hb3 hb4
  go_wp2_with fail
  go_ret
  exact ⟨rfl, hB⟩

set_option maxHeartbeats 1000000 in
set_option maxRecDepth 100000 in
theorem Ip4Parses_walk (s : ByteArray) (h_s : s.size ≤ 9223372036854775807) (w : World) :
    Calls Try.prog 8 #[.string s] w fun e w' => e = .returned (.bool true) ∧ Below w.heap.size w w' := by
  have CW := fun w => Lib.hid (works4 w)
  by_cases g_s : 300 < s.size
  · have d_s : decide (300 < (s.size : Int)) = true := by simp; omega
    clear g_s
    go_enter Try.func8, Try.ntmps8
    go_wp2_with (go_at_call 18; with_reducible refine ((CW _).out).mono ?_)
    rintro e w1 ⟨rfl, hb1⟩
    go_wp2_with fail
    go_ret
    exact ⟨rfl, hb1⟩
  have d_s : decide (300 < (s.size : Int)) = false := by simp; omega
  have l_s : s.size ≤ 300 := by omega
  clear g_s
  have C1 := fun w => Lib.hid (ip4Parse_calls s (by omega) w)
  have C2 := fun w => Lib.hid (ref4Parse_calls s (by omega) w)
  generalize p4S s = A at *
  generalize p4D s = B at *
  generalize p4P s = P at *
  generalize p4R s = R at *
  generalize p4E s = E at *
  go_enter Try.func8, Try.ntmps8
  go_wp2_with (go_at_call 18; with_reducible refine ((CW _).out).mono ?_)
  rintro e w1 ⟨rfl, hb1⟩
  go_wp2_with (go_at_call 19; with_reducible refine ((C1 _).out).mono ?_)
  rintro e w2 ⟨rfl, hb2⟩
  go_wp2_with (go_at_call 20; with_reducible refine ((C2 _).out).mono ?_)
  rintro e w3 ⟨rfl, hb3⟩
  have h0 := ((Hd.new 39 A B P w2).later hb3).alloc (.cells #[.string A, .string B, .int .i64 P] 42)
  obtain ⟨q0, q1, q2⟩ := h0.cells
  have hB := bl (bl (bl (bl hb1 hb2) ((Below.refl _ _).alloc (Nat.le_refl _) (.cells #[.string A, .string B, .int .i64 P] 39) : Below w2.heap.size w2 (w2.alloc _))) hb3) ((Below.refl _ _).alloc (Nat.le_refl _) (.cells #[.string A, .string B, .int .i64 P] 42) : Below w3.heap.size w3 (w3.alloc _))
  clear h0 hb1 hb2 hb3
  go_wp2_with fail
  go_ret
  exact ⟨rfl, hB⟩

set_option maxHeartbeats 1000000 in
set_option maxRecDepth 100000 in
theorem Ip4Puts_walk (src : ByteArray) (dst : ByteArray) (proto : Int) (rest : ByteArray) (h_src : src.size ≤ 9223372036854775807) (h_dst : dst.size ≤ 9223372036854775807) (h_proto : -9223372036854775808 ≤ proto ∧ proto ≤ 9223372036854775807) (h_rest : rest.size ≤ 9223372036854775807) (w : World) :
    Calls Try.prog 9 #[.string src, .string dst, .int .i64 proto, .string rest] w fun e w' => e = .returned (.bool true) ∧ Below w.heap.size w w' := by
  have CW := fun w => Lib.hid (works4 w)
  by_cases g_src : 300 < src.size
  · have d_src : decide (300 < (src.size : Int)) = true := by simp; omega
    clear g_src
    go_enter Try.func9, Try.ntmps9
    go_wp2_with (go_at_call 18; with_reducible refine ((CW _).out).mono ?_)
    rintro e w1 ⟨rfl, hb1⟩
    go_wp2_with fail
    go_ret
    exact ⟨rfl, hb1⟩
  have d_src : decide (300 < (src.size : Int)) = false := by simp; omega
  have l_src : src.size ≤ 300 := by omega
  clear g_src
  by_cases g_dst : 300 < dst.size
  · have d_dst : decide (300 < (dst.size : Int)) = true := by simp; omega
    clear g_dst
    go_enter Try.func9, Try.ntmps9
    go_wp2_with (go_at_call 18; with_reducible refine ((CW _).out).mono ?_)
    rintro e w1 ⟨rfl, hb1⟩
    go_wp2_with fail
    go_ret
    exact ⟨rfl, hb1⟩
  have d_dst : decide (300 < (dst.size : Int)) = false := by simp; omega
  have l_dst : dst.size ≤ 300 := by omega
  clear g_dst
  by_cases g_rest : 300 < rest.size
  · have d_rest : decide (300 < (rest.size : Int)) = true := by simp; omega
    clear g_rest
    go_enter Try.func9, Try.ntmps9
    go_wp2_with (go_at_call 18; with_reducible refine ((CW _).out).mono ?_)
    rintro e w1 ⟨rfl, hb1⟩
    go_wp2_with fail
    go_ret
    exact ⟨rfl, hb1⟩
  have d_rest : decide (300 < (rest.size : Int)) = false := by simp; omega
  have l_rest : rest.size ≤ 300 := by omega
  clear g_rest
  have C1 := fun w => Lib.hid (ip4Put_calls src dst proto rest h_rest w)
  have C2 := fun w => Lib.hid (ref4Put_calls src dst proto rest h_rest w)
  generalize u4S src dst proto rest = S at *
  generalize u4E src dst proto rest = E at *
  go_enter Try.func9, Try.ntmps9
  go_wp2_with (go_at_call 18; with_reducible refine ((CW _).out).mono ?_)
  rintro e w1 ⟨rfl, hb1⟩
  go_wp2_with (go_at_call 21; with_reducible refine ((C1 _).out).mono ?_)
  rintro e w2 ⟨rfl, hb2⟩
  go_wp2_with (go_at_call 22; with_reducible refine ((C2 _).out).mono ?_)
  rintro e w3 ⟨rfl, hb3⟩
  have hB := bl (bl hb1 hb2) hb3
  go_wp2_with fail
  go_ret
  exact ⟨rfl, hB⟩

set_option maxHeartbeats 1000000 in
set_option maxRecDepth 100000 in
theorem Ip4Back_walk (src : ByteArray) (dst : ByteArray) (proto : Int) (rest : ByteArray) (behind : ByteArray) (h_src : src.size ≤ 9223372036854775807) (h_dst : dst.size ≤ 9223372036854775807) (h_proto : -9223372036854775808 ≤ proto ∧ proto ≤ 9223372036854775807) (h_rest : rest.size ≤ 9223372036854775807) (h_behind : behind.size ≤ 9223372036854775807) (w : World) :
    Calls Try.prog 10 #[.string src, .string dst, .int .i64 proto, .string rest, .string behind] w fun e w' => e = .returned (.bool true) ∧ Below w.heap.size w w' := by
  have CW := fun w => Lib.hid (works4 w)
  by_cases g_src : 300 < src.size
  · have d_src : decide (300 < (src.size : Int)) = true := by simp; omega
    clear g_src
    go_enter Try.func10, Try.ntmps10
    go_wp2_with (go_at_call 18; with_reducible refine ((CW _).out).mono ?_)
    rintro e w1 ⟨rfl, hb1⟩
    go_wp2_with fail
    go_ret
    exact ⟨rfl, hb1⟩
  have d_src : decide (300 < (src.size : Int)) = false := by simp; omega
  have l_src : src.size ≤ 300 := by omega
  clear g_src
  by_cases g_dst : 300 < dst.size
  · have d_dst : decide (300 < (dst.size : Int)) = true := by simp; omega
    clear g_dst
    go_enter Try.func10, Try.ntmps10
    go_wp2_with (go_at_call 18; with_reducible refine ((CW _).out).mono ?_)
    rintro e w1 ⟨rfl, hb1⟩
    go_wp2_with fail
    go_ret
    exact ⟨rfl, hb1⟩
  have d_dst : decide (300 < (dst.size : Int)) = false := by simp; omega
  have l_dst : dst.size ≤ 300 := by omega
  clear g_dst
  by_cases g_rest : 300 < rest.size
  · have d_rest : decide (300 < (rest.size : Int)) = true := by simp; omega
    clear g_rest
    go_enter Try.func10, Try.ntmps10
    go_wp2_with (go_at_call 18; with_reducible refine ((CW _).out).mono ?_)
    rintro e w1 ⟨rfl, hb1⟩
    go_wp2_with fail
    go_ret
    exact ⟨rfl, hb1⟩
  have d_rest : decide (300 < (rest.size : Int)) = false := by simp; omega
  have l_rest : rest.size ≤ 300 := by omega
  clear g_rest
  by_cases g_behind : 300 < behind.size
  · have d_behind : decide (300 < (behind.size : Int)) = true := by simp; omega
    clear g_behind
    go_enter Try.func10, Try.ntmps10
    go_wp2_with (go_at_call 18; with_reducible refine ((CW _).out).mono ?_)
    rintro e w1 ⟨rfl, hb1⟩
    go_wp2_with fail
    go_ret
    exact ⟨rfl, hb1⟩
  have d_behind : decide (300 < (behind.size : Int)) = false := by simp; omega
  have l_behind : behind.size ≤ 300 := by omega
  clear g_behind
  cases hb : u4Bad src dst proto with
  | true =>
    have c1 := ip4Put_calls src dst proto rest h_rest
    have hE : u4E src dst proto rest = 1 := by simp [u4E, hb]
    have hS : u4S src dst proto rest = ⟨#[]⟩ := by simp [u4S, hE]
    rw [hE, hS] at c1
    have C1 := fun w => Lib.hid (c1 w)
    clear c1 hE hS
    by_cases g1 : src.size = 4
    · have e1 : ((src.size : Int) != 4) = false := by simp; omega
      by_cases g2 : dst.size = 4
      · have e2 : ((dst.size : Int) != 4) = false := by simp; omega
        by_cases g3 : proto < 0
        · have e3 : decide (proto < 0) = true := by simpa using g3
          clear g3
          go_enter Try.func10, Try.ntmps10
          go_wp2_with (go_at_call 18; with_reducible refine ((CW _).out).mono ?_)
          rintro e w1 ⟨rfl, hb1⟩
          go_wp2_with (go_at_call 21; with_reducible refine ((C1 _).out).mono ?_)
          rintro e w2 ⟨rfl, hb2⟩
          have hB := bl (bl hb1 ((Below.refl _ _).alloc (Nat.le_refl _) (.cells #[.string src, .string dst, .int .i64 proto] 39) : Below w1.heap.size w1 (w1.alloc _))) hb2
          go_wp2_with fail
          go_ret
          exact ⟨rfl, hB⟩
        · have e3 : decide (proto < 0) = false := by simpa using g3
          have e4 : decide (255 < proto) = true := by simpa [u4Bad, g1, g2, e3] using hb
          clear g3
          go_enter Try.func10, Try.ntmps10
          go_wp2_with (go_at_call 18; with_reducible refine ((CW _).out).mono ?_)
          rintro e w1 ⟨rfl, hb1⟩
          go_wp2_with (go_at_call 21; with_reducible refine ((C1 _).out).mono ?_)
          rintro e w2 ⟨rfl, hb2⟩
          have hB := bl (bl hb1 ((Below.refl _ _).alloc (Nat.le_refl _) (.cells #[.string src, .string dst, .int .i64 proto] 39) : Below w1.heap.size w1 (w1.alloc _))) hb2
          go_wp2_with fail
          go_ret
          exact ⟨rfl, hB⟩
      · have e2 : ((dst.size : Int) != 4) = true := by simp; omega
        go_enter Try.func10, Try.ntmps10
        go_wp2_with (go_at_call 18; with_reducible refine ((CW _).out).mono ?_)
        rintro e w1 ⟨rfl, hb1⟩
        go_wp2_with (go_at_call 21; with_reducible refine ((C1 _).out).mono ?_)
        rintro e w2 ⟨rfl, hb2⟩
        have hB := bl (bl hb1 ((Below.refl _ _).alloc (Nat.le_refl _) (.cells #[.string src, .string dst, .int .i64 proto] 39) : Below w1.heap.size w1 (w1.alloc _))) hb2
        go_wp2_with fail
        go_ret
        exact ⟨rfl, hB⟩
    · have e1 : ((src.size : Int) != 4) = true := by simp; omega
      go_enter Try.func10, Try.ntmps10
      go_wp2_with (go_at_call 18; with_reducible refine ((CW _).out).mono ?_)
      rintro e w1 ⟨rfl, hb1⟩
      go_wp2_with (go_at_call 21; with_reducible refine ((C1 _).out).mono ?_)
      rintro e w2 ⟨rfl, hb2⟩
      have hB := bl (bl hb1 ((Below.refl _ _).alloc (Nat.le_refl _) (.cells #[.string src, .string dst, .int .i64 proto] 39) : Below w1.heap.size w1 (w1.alloc _))) hb2
      go_wp2_with fail
      go_ret
      exact ⟨rfl, hB⟩
  | false =>
    have hE : u4E src dst proto rest = 0 := by
      have : ¬ 65515 < rest.size := by omega
      simp [u4E, hb, this]
    have c1 := ip4Put_calls src dst proto rest h_rest
    obtain ⟨k1, k2, k3, k4, k5, k6⟩ := back4 src dst proto rest behind hE
    have hsz := u4S_size hE
    rw [hE] at c1
    generalize u4S src dst proto rest = S at *
    have hcat : (S ++ behind).size ≤ 4294967296 := by rw [ByteArray.size_append]; omega
    have c2 := ip4Parse_calls (S ++ behind) hcat
    rw [k1, k2, k3, k4, k5] at c2
    have C1 := fun w => Lib.hid (c1 w)
    have C2 := fun w => Lib.hid (c2 w)
    have n1 : ¬ (9223372036854775807 < S.size + behind.size) := by omega
    have hw : IntKind.i64.wrap (20 + (rest.size : Int)) = 20 + (rest.size : Int) := IntWalk.i64_in _ (by omega)
    have hq : ((S.size : Int) != 20 + (rest.size : Int)) = false := by simp; omega
    have x20 : (20 : Int) ≤ (S.size : Int) := by omega
    have c3 := Good_calls (S.extract 0 20) (by rw [ByteArray.size_extract]; omega)
    rw [k6] at c3
    have C3 := fun w => Lib.hid (c3 w)
    clear c1 c2 c3 k1 k2 k3 k4 k5 k6 hE hb hcat hsz
    go_enter Try.func10, Try.ntmps10
    go_wp2_with (go_at_call 18; with_reducible refine ((CW _).out).mono ?_)
    rintro e w1 ⟨rfl, hb1⟩
    go_wp2_with (go_at_call 21; with_reducible refine ((C1 _).out).mono ?_)
    rintro e w2 ⟨rfl, hb2⟩
    go_wp2_with (go_at_call 19; with_reducible refine ((C2 _).out).mono ?_)
    rintro e w3 ⟨rfl, hb3⟩
    have h0 := (((Hd.new 39 src dst proto w1).later hb2).later hb3).alloc (.cells #[.string src, .string dst, .int .i64 proto] 39)
    obtain ⟨q0, q1, q2⟩ := h0.cells
    go_wp2_with (go_at_call 23; with_reducible refine ((C3 _).out).mono ?_)
    rintro e w4 ⟨rfl, hb4⟩
    have hB := bl (bl (bl (bl (bl hb1 ((Below.refl _ _).alloc (Nat.le_refl _) (.cells #[.string src, .string dst, .int .i64 proto] 39) : Below w1.heap.size w1 (w1.alloc _))) hb2) hb3) ((Below.refl _ _).alloc (Nat.le_refl _) (.cells #[.string src, .string dst, .int .i64 proto] 39) : Below w3.heap.size w3 (w3.alloc _))) hb4
    clear h0 hb1 hb2 hb3 hb4
    go_wp2_with fail
    go_ret
    exact ⟨rfl, hB⟩

set_option maxHeartbeats 1000000 in
set_option maxRecDepth 100000 in
theorem Ip4Held_walk (s : ByteArray) (behind : ByteArray) (h_s : s.size ≤ 9223372036854775807) (h_behind : behind.size ≤ 9223372036854775807) (w : World) :
    Calls Try.prog 11 #[.string s, .string behind] w fun e w' => e = .returned (.bool true) ∧ Below w.heap.size w w' := by
  have CW := fun w => Lib.hid (works4 w)
  by_cases g_s : 300 < s.size
  · have d_s : decide (300 < (s.size : Int)) = true := by simp; omega
    clear g_s
    go_enter Try.func11, Try.ntmps11
    go_wp2_with (go_at_call 18; with_reducible refine ((CW _).out).mono ?_)
    rintro e w1 ⟨rfl, hb1⟩
    go_wp2_with fail
    go_ret
    exact ⟨rfl, hb1⟩
  have d_s : decide (300 < (s.size : Int)) = false := by simp; omega
  have l_s : s.size ≤ 300 := by omega
  clear g_s
  by_cases g_behind : 300 < behind.size
  · have d_behind : decide (300 < (behind.size : Int)) = true := by simp; omega
    clear g_behind
    go_enter Try.func11, Try.ntmps11
    go_wp2_with (go_at_call 18; with_reducible refine ((CW _).out).mono ?_)
    rintro e w1 ⟨rfl, hb1⟩
    go_wp2_with fail
    go_ret
    exact ⟨rfl, hb1⟩
  have d_behind : decide (300 < (behind.size : Int)) = false := by simp; omega
  have l_behind : behind.size ≤ 300 := by omega
  clear g_behind
  have c1 := ip4Parse_calls s (by omega)
  by_cases hE : p4E s = 0
  · obtain ⟨z1, z2, z3, z4, z5, hU⟩ := held4 s hE
    obtain ⟨k1, k2, k3, k4, k5⟩ := behind4 s behind hE
    obtain ⟨m1, m2, m3, m4, m5, _⟩ := back4 (p4S s) (p4D s) (p4P s) (p4R s) ⟨#[]⟩ hU
    have hcat : (s ++ behind).size ≤ 4294967296 := by rw [ByteArray.size_append]; omega
    have c2 := ip4Parse_calls (s ++ behind) hcat
    rw [k1, k2, k3, k4, k5] at c2
    rw [hE] at c1
    have c3 := ip4Put_calls (p4S s) (p4D s) (p4P s) (p4R s) (by omega)
    rw [hU] at c3
    have hsz := u4S_size hU
    have hSe : u4S (p4S s) (p4D s) (p4P s) (p4R s) ++ ⟨#[]⟩ = u4S (p4S s) (p4D s) (p4P s) (p4R s) := ByteArray.append_empty
    rw [hSe] at m1 m2 m3 m4 m5
    have c4 := ip4Parse_calls (u4S (p4S s) (p4D s) (p4P s) (p4R s)) (by omega)
    rw [m1, m2, m3, m4, m5] at c4
    clear m1 m2 m3 m4 m5 k1 k2 k3 k4 k5 hSe hU hE
    generalize u4S (p4S s) (p4D s) (p4P s) (p4R s) = T at *
    generalize p4S s = A at *
    generalize p4D s = B at *
    generalize p4P s = P at *
    generalize p4R s = R at *
    have C1 := fun w => Lib.hid (c1 w)
    have C2 := fun w => Lib.hid (c2 w)
    have C3 := fun w => Lib.hid (c3 w)
    have C4 := fun w => Lib.hid (c4 w)
    have n1 : ¬ (9223372036854775807 < s.size + behind.size) := by omega
    have hw : IntKind.i64.wrap ((R.size : Int) + 20) = (R.size : Int) + 20 := IntWalk.i64_in _ (by omega)
    have y1 : ((A.size : Int) == 4) = true := by simp; omega
    have y2 : ((B.size : Int) == 4) = true := by simp; omega
    have y3 : decide ((R.size : Int) + 20 ≤ (s.size : Int)) = true := by simp; omega
    have y4 : decide (0 ≤ P) = true := by simp; omega
    have y5 : decide (P ≤ 255) = true := by simp; omega
    clear c1 c2 c3 c4 hcat hsz z3 z4 z5
    go_enter Try.func11, Try.ntmps11
    go_wp2_with (go_at_call 18; with_reducible refine ((CW _).out).mono ?_)
    rintro e w1 ⟨rfl, hb1⟩
    go_wp2_with (go_at_call 19; with_reducible refine ((C1 _).out).mono ?_)
    rintro e w2 ⟨rfl, hb2⟩
    go_wp2_with (go_at_call 19; with_reducible refine ((C2 _).out).mono ?_)
    rintro e w3 ⟨rfl, hb3⟩
    have h0 := (((Hd.new 39 A B P w2).later hb3).alloc (.cells #[.string A, .string B, .int .i64 P] 39))
    obtain ⟨q0, q1, q2⟩ := h0.cells
    go_wp2_with (go_at_call 21; with_reducible refine ((C3 _).out).mono ?_)
    rintro e w4 ⟨rfl, hb4⟩
    clear q0 q1 q2 h0
    go_wp2_with (go_at_call 19; with_reducible refine ((C4 _).out).mono ?_)
    rintro e w5 ⟨rfl, hb5⟩
    have h0 := ((((((Hd.new 39 A B P w2).later hb3).alloc (.cells #[.string A, .string B, .int .i64 P] 39)).later hb4).later hb5).alloc (.cells #[.string A, .string B, .int .i64 P] 39))
    have h3 := ((((Hd.new 39 A B P w3).later hb4).later hb5).alloc (.cells #[.string A, .string B, .int .i64 P] 39))
    obtain ⟨q0, q1, q2⟩ := h0.cells
    obtain ⟨r0, r1, r2⟩ := h3.cells
    have hB := bl (bl (bl (bl (bl (bl (bl hb1 hb2) ((Below.refl _ _).alloc (Nat.le_refl _) (.cells #[.string A, .string B, .int .i64 P] 39) : Below w2.heap.size w2 (w2.alloc _))) hb3) ((Below.refl _ _).alloc (Nat.le_refl _) (.cells #[.string A, .string B, .int .i64 P] 39) : Below w3.heap.size w3 (w3.alloc _))) hb4) hb5) ((Below.refl _ _).alloc (Nat.le_refl _) (.cells #[.string A, .string B, .int .i64 P] 39) : Below w5.heap.size w5 (w5.alloc _))
    clear h0 h3 hb1 hb2 hb3 hb4 hb5
    go_wp2_with fail
    go_ret
    exact ⟨rfl, hB⟩
  · obtain ⟨k1, k2, k3, k4⟩ := p4_none hE
    rw [k1, k2, k3, k4] at c1
    have d0 : (p4E s != 0) = true := by simpa using hE
    generalize p4E s = E at *
    have C1 := fun w => Lib.hid (c1 w)
    clear c1 k1 k2 k3 k4 hE
    go_enter Try.func11, Try.ntmps11
    go_wp2_with (go_at_call 18; with_reducible refine ((CW _).out).mono ?_)
    rintro e w1 ⟨rfl, hb1⟩
    go_wp2_with (go_at_call 19; with_reducible refine ((C1 _).out).mono ?_)
    rintro e w2 ⟨rfl, hb2⟩
    have hB := bl (bl hb1 hb2) ((Below.refl _ _).alloc (Nat.le_refl _) (.cells #[.string ⟨#[]⟩, .string ⟨#[]⟩, .int .i64 0] 39) : Below w2.heap.size w2 (w2.alloc _))
    go_wp2_with fail
    go_ret
    exact ⟨rfl, hB⟩

set_option maxHeartbeats 1000000 in
set_option maxRecDepth 100000 in
theorem Ip4Cut_walk (src : ByteArray) (dst : ByteArray) (proto : Int) (rest : ByteArray) (n : Int) (h_src : src.size ≤ 9223372036854775807) (h_dst : dst.size ≤ 9223372036854775807) (h_proto : -9223372036854775808 ≤ proto ∧ proto ≤ 9223372036854775807) (h_rest : rest.size ≤ 9223372036854775807) (h_n : -9223372036854775808 ≤ n ∧ n ≤ 9223372036854775807) (w : World) :
    Calls Try.prog 12 #[.string src, .string dst, .int .i64 proto, .string rest, .int .i64 n] w fun e w' => e = .returned (.bool true) ∧ Below w.heap.size w w' := by
  have CW := fun w => Lib.hid (works4 w)
  by_cases g_src : 300 < src.size
  · have d_src : decide (300 < (src.size : Int)) = true := by simp; omega
    clear g_src
    go_enter Try.func12, Try.ntmps12
    go_wp2_with (go_at_call 18; with_reducible refine ((CW _).out).mono ?_)
    rintro e w1 ⟨rfl, hb1⟩
    go_wp2_with fail
    go_ret
    exact ⟨rfl, hb1⟩
  have d_src : decide (300 < (src.size : Int)) = false := by simp; omega
  have l_src : src.size ≤ 300 := by omega
  clear g_src
  by_cases g_dst : 300 < dst.size
  · have d_dst : decide (300 < (dst.size : Int)) = true := by simp; omega
    clear g_dst
    go_enter Try.func12, Try.ntmps12
    go_wp2_with (go_at_call 18; with_reducible refine ((CW _).out).mono ?_)
    rintro e w1 ⟨rfl, hb1⟩
    go_wp2_with fail
    go_ret
    exact ⟨rfl, hb1⟩
  have d_dst : decide (300 < (dst.size : Int)) = false := by simp; omega
  have l_dst : dst.size ≤ 300 := by omega
  clear g_dst
  by_cases g_rest : 300 < rest.size
  · have d_rest : decide (300 < (rest.size : Int)) = true := by simp; omega
    clear g_rest
    go_enter Try.func12, Try.ntmps12
    go_wp2_with (go_at_call 18; with_reducible refine ((CW _).out).mono ?_)
    rintro e w1 ⟨rfl, hb1⟩
    go_wp2_with fail
    go_ret
    exact ⟨rfl, hb1⟩
  have d_rest : decide (300 < (rest.size : Int)) = false := by simp; omega
  have l_rest : rest.size ≤ 300 := by omega
  clear g_rest
  have c1 := ip4Put_calls src dst proto rest h_rest
  by_cases hE : u4E src dst proto rest = 0
  · have hsz := u4S_size hE
    have e0 : ((0 : Int) != 0) = false := rfl
    rw [hE] at c1
    by_cases hn0 : n < 0
    · have e1 : decide (n < 0) = true := by simpa using hn0
      generalize u4S src dst proto rest = S at *
      have C1 := fun w => Lib.hid (c1 w)
      clear c1 hn0
      go_enter Try.func12, Try.ntmps12
      go_wp2_with (go_at_call 18; with_reducible refine ((CW _).out).mono ?_)
      rintro e w1 ⟨rfl, hb1⟩
      go_wp2_with (go_at_call 21; with_reducible refine ((C1 _).out).mono ?_)
      rintro e w2 ⟨rfl, hb2⟩
      have hB := bl hb1 hb2
      go_wp2_with fail
      go_ret
      exact ⟨rfl, hB⟩
    · have e1 : decide (n < 0) = false := by simpa using hn0
      by_cases hn1 : (20 : Int) + rest.size ≤ n
      · have e2 : decide (((u4S src dst proto rest).size : Int) ≤ n) = true := by simp; omega
        generalize u4S src dst proto rest = S at *
        have C1 := fun w => Lib.hid (c1 w)
        clear c1 hn0 hn1 hsz
        go_enter Try.func12, Try.ntmps12
        go_wp2_with (go_at_call 18; with_reducible refine ((CW _).out).mono ?_)
        rintro e w1 ⟨rfl, hb1⟩
        go_wp2_with (go_at_call 21; with_reducible refine ((C1 _).out).mono ?_)
        rintro e w2 ⟨rfl, hb2⟩
        have hB := bl hb1 hb2
        go_wp2_with fail
        go_ret
        exact ⟨rfl, hB⟩
      · obtain ⟨m, rfl⟩ : ∃ m : Nat, n = (m : Int) := ⟨n.toNat, by omega⟩
        have hcut := cut4 src dst proto rest hE m (by omega)
        have hpe : p4E ((u4S src dst proto rest).extract 0 m) ≠ 0 := by rw [hcut]; split <;> decide
        obtain ⟨k1, k2, k3, k4⟩ := p4_none hpe
        have c2 := ip4Parse_calls ((u4S src dst proto rest).extract 0 m) (by rw [ByteArray.size_extract]; omega)
        rw [k1, k2, k3, k4, hcut] at c2
        clear k1 k2 k3 k4 hpe hcut
        have e2 : decide (((u4S src dst proto rest).size : Int) ≤ (m : Int)) = false := by simp; omega
        have e2' : decide ((u4S src dst proto rest).size ≤ m) = false := by simp; omega
        have e3 : (m : Int) ≤ ((u4S src dst proto rest).size : Int) := by omega
        have e3' : m ≤ (u4S src dst proto rest).size := by omega
        generalize u4S src dst proto rest = S at *
        have C1 := fun w => Lib.hid (c1 w)
        by_cases hm : m < 20
        · have e4 : decide ((m : Int) < 20) = true := by simp; omega
          have e4' : decide (m < 20) = true := by simp; omega
          simp only [hm, if_true] at c2
          have C2 := fun w => Lib.hid (c2 w)
          clear c1 c2 hn0 hn1 hE hsz hm
          go_enter Try.func12, Try.ntmps12
          go_wp2_with (go_at_call 18; with_reducible refine ((CW _).out).mono ?_)
          rintro e w1 ⟨rfl, hb1⟩
          go_wp2_with (go_at_call 21; with_reducible refine ((C1 _).out).mono ?_)
          rintro e w2 ⟨rfl, hb2⟩
          go_wp2_with (go_at_call 19; with_reducible refine ((C2 _).out).mono ?_)
          rintro e w3 ⟨rfl, hb3⟩
          have hB := bl (bl (bl hb1 hb2) hb3) ((Below.refl _ _).alloc (Nat.le_refl _) (.cells #[.string ⟨#[]⟩, .string ⟨#[]⟩, .int .i64 0] 39) : Below w3.heap.size w3 (w3.alloc _))
          go_wp2_with fail
          go_ret
          exact ⟨rfl, hB⟩
        · have e4 : decide ((m : Int) < 20) = false := by simp; omega
          have e4' : decide (m < 20) = false := by simp; omega
          simp only [hm, if_false] at c2
          have C2 := fun w => Lib.hid (c2 w)
          clear c1 c2 hn0 hn1 hE hsz hm
          go_enter Try.func12, Try.ntmps12
          go_wp2_with (go_at_call 18; with_reducible refine ((CW _).out).mono ?_)
          rintro e w1 ⟨rfl, hb1⟩
          go_wp2_with (go_at_call 21; with_reducible refine ((C1 _).out).mono ?_)
          rintro e w2 ⟨rfl, hb2⟩
          go_wp2_with (go_at_call 19; with_reducible refine ((C2 _).out).mono ?_)
          rintro e w3 ⟨rfl, hb3⟩
          have hB := bl (bl (bl hb1 hb2) hb3) ((Below.refl _ _).alloc (Nat.le_refl _) (.cells #[.string ⟨#[]⟩, .string ⟨#[]⟩, .int .i64 0] 39) : Below w3.heap.size w3 (w3.alloc _))
          go_wp2_with fail
          go_ret
          exact ⟨rfl, hB⟩
  · have d0 : (u4E src dst proto rest != 0) = true := by simpa using hE
    generalize u4E src dst proto rest = E at *
    generalize u4S src dst proto rest = S at *
    have C1 := fun w => Lib.hid (c1 w)
    clear c1 hE
    go_enter Try.func12, Try.ntmps12
    go_wp2_with (go_at_call 18; with_reducible refine ((CW _).out).mono ?_)
    rintro e w1 ⟨rfl, hb1⟩
    go_wp2_with (go_at_call 21; with_reducible refine ((C1 _).out).mono ?_)
    rintro e w2 ⟨rfl, hb2⟩
    have hB := bl hb1 hb2
    go_wp2_with fail
    go_ret
    exact ⟨rfl, hB⟩

end Go.Proofs.Ytoekipjnjlbjgaa
