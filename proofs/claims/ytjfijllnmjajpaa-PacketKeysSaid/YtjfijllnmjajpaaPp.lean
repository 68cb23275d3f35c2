/- port.Parse, port.Put: what they answer. -/
import Derived.WalkKit
import Derived.Lib.Hide
import Derived.Laws.IdiomStrings
import Derived.Test.YtjfijllnmjajpaaTp
import Derived.Test.YtjfijllnmjajpaaQp
set_option linter.unusedSimpArgs false
set_option linter.unusedVariables false
namespace Go.Proofs.Ytjfijllnmjajpaa
open Go.RowKit Go.BigFrame

/-- Three numbers in one block. -/
def Tri (T n : Nat) (a b c : Int) (w : World) : Prop := w.heap[n]? = some (.cells #[.int .i64 a, .int .i64 b, .int .i64 c] T (0, 0))
theorem Tri.new (T : Nat) (a b c : Int) (w : World) : Tri T w.heap.size a b c (w.alloc (.cells #[.int .i64 a, .int .i64 b, .int .i64 c] T)) := heap_alloc_new w _
theorem Tri.later {T n : Nat} {a b c : Int} {w w' : World} (h : Tri T n a b c w) (hb : Below w.heap.size w w') : Tri T n a b c w' := (hb.block n (Array.getElem?_eq_some_iff.1 h).1).trans h
theorem Tri.lt {T n : Nat} {a b c : Int} {w : World} (h : Tri T n a b c w) : n < w.heap.size := (Array.getElem?_eq_some_iff.1 h).1
theorem Tri.cells {T n : Nat} {a b c : Int} {w : World} (h : Tri T n a b c w) : w.cell? ⟨n, 0, none⟩ = some (.int .i64 a) ∧ w.cell? ⟨n, 1, none⟩ = some (.int .i64 b) ∧ w.cell? ⟨n, 2, none⟩ = some (.int .i64 c) ∧
    w.frozen? ⟨n, 0, none⟩ = false ∧ w.frozen? ⟨n, 1, none⟩ = false ∧ w.frozen? ⟨n, 2, none⟩ = false := by
  unfold Tri at h
  refine ⟨?_, ?_, ?_, ?_, ?_, ?_⟩ <;> simp [World.cell?, World.frozen?, h]
theorem Tri.set {T n : Nat} {a b c : Int} {w : World} (h : Tri T n a b c w) (x y z : Value) :
    (((w.setCell ⟨n, 0, none⟩ x).setCell ⟨n, 1, none⟩ y).setCell ⟨n, 2, none⟩ z).cell? ⟨n, 0, none⟩ = some x ∧
    (((w.setCell ⟨n, 0, none⟩ x).setCell ⟨n, 1, none⟩ y).setCell ⟨n, 2, none⟩ z).cell? ⟨n, 1, none⟩ = some y ∧
    (((w.setCell ⟨n, 0, none⟩ x).setCell ⟨n, 1, none⟩ y).setCell ⟨n, 2, none⟩ z).cell? ⟨n, 2, none⟩ = some z := by
  unfold Tri at h
  simp [World.setCell, World.cell?, Array.getElem?_modify, h]
theorem below_set3 {w W : World} {n : Nat} (hn : w.heap.size ≤ n) (h : Below w.heap.size w W) (x y z : Value) : Below w.heap.size w (((W.setCell ⟨n, 0, none⟩ x).setCell ⟨n, 1, none⟩ y).setCell ⟨n, 2, none⟩ z) :=
  ((h.setCell (p := ⟨n, 0, none⟩) hn x).setCell (p := ⟨n, 1, none⟩) hn y).setCell (p := ⟨n, 2, none⟩) hn z

set_option maxHeartbeats 1000000 in
set_option maxRecDepth 100000 in
theorem pp_tcp_no (s : ByteArray) (hs : s.size ≤ 9223372036854775807) (w : World) (hE : tcpE s ≠ 0) :
    Calls Try.prog 16 #[.int .i64 6, .string s] w fun e w' => e = .returned (.tuple #[.agg #[.int .i64 0, .int .i64 0, .int .i64 0], .int .i64 (tcpE s)]) ∧ Below w.heap.size w w' := by
  have C1 := fun w => Lib.hid (protos_calls w)
  have C2 := fun w => Lib.hid (tcp_parse s hs w)
  have HL : ∀ n w, w.heap[n]? = some (.map protoEs 2) → Hid ((Instr.lookup 59 (.map (some n)) (.int .i64 6) false).run Try.prog w = .ok (.iface 91 (.agg #[])) w) := fun n w h => Lib.hid (look_proto 6 n w h)
  generalize tcpE s = E at *
  generalize tcpF s = F at *
  have d : (E != 0) = true := by simpa using hE
  clear hE
  go_enter Try.func16, Try.ntmps16
  go_wp2_with (go_at_call 32; with_reducible refine (C1 _).out.mono ?_)
  rintro e w1 ⟨rfl, hm, hb1⟩
  have hl := (HL _ _ hm).out
  simp only [World.size_alloc] at hl
  clear HL hm
  have HT := (Tri.new 24 0 0 0 w).later hb1
  have hB := bl ((Below.refl w.heap.size w).alloc (Nat.le_refl _) (.cells #[.int .i64 0, .int .i64 0, .int .i64 0] 24)) hb1
  clear hb1
  obtain ⟨r0, r1, r2, f0, f1, f2⟩ := HT.cells
  go_wp2_with fail
  generalize hx : Sem.run Try.prog (method _ _ _ _) w1 = X
  have hy : X = .ok (97, .agg #[]) w1 := hx.symm.trans (by kernel_rfl)
  subst hy
  clear hx
  clear r0 r1 r2 f0 f1 f2 hl
  go_wp2_with (go_at_call 97; with_reducible refine (C2 _).out.mono ?_)
  rintro e w2 ⟨rfl, hb2⟩
  replace HT := HT.later hb2
  replace hB := bl hB hb2
  clear hb2
  obtain ⟨r0, r1, r2, f0, f1, f2⟩ := HT.cells
  obtain ⟨s0, s1, s2⟩ := HT.set (.int .i64 0) (.int .i64 0) (.int .i64 0)
  go_wp2_with fail
  refine bodyPost_ret (v := .tuple #[.agg #[.int .i64 0, .int .i64 0, .int .i64 0], .int .i64 E]) (by simp [results, Try.results16, go_sem, s0, s1, s2]) rfl ⟨rfl, below_set3 (Nat.le_refl _) hB _ _ _⟩

set_option maxHeartbeats 1000000 in
set_option maxRecDepth 100000 in
theorem pp_tcp_ok (s : ByteArray) (hs : s.size ≤ 9223372036854775807) (w : World) (hE : tcpE s = 0) :
    Calls Try.prog 16 #[.int .i64 6, .string s] w fun e w' => e = .returned (.tuple #[.agg #[.int .i64 (getV s 0 2), .int .i64 (getV s 2 2), .int .i64 (tcpF s)], .int .i64 0]) ∧ Below w.heap.size w w' := by
  have C1 := fun w => Lib.hid (protos_calls w)
  have C2 := fun w => Lib.hid (tcp_parse s hs w)
  have HL : ∀ n w, w.heap[n]? = some (.map protoEs 2) → Hid ((Instr.lookup 59 (.map (some n)) (.int .i64 6) false).run Try.prog w = .ok (.iface 91 (.agg #[])) w) := fun n w h => Lib.hid (look_proto 6 n w h)
  rw [hE] at C2
  have bA := getV2_bd s 0
  have bB := getV2_bd s 2
  have C3 := fun w => Lib.hid (Get_calls s 0 2 hs w)
  have C4 := fun w => Lib.hid (Get_calls s 2 2 hs w)
  generalize getB s 0 2 = G0 at *
  generalize getB s 2 2 = G2 at *
  generalize getV s 0 2 = A at *
  generalize getV s 2 2 = B at *
  generalize tcpF s = F at *
  have hwA : IntKind.i64.wrap A = A := IntWalk.i64_in _ (by omega)
  have hwB : IntKind.i64.wrap B = B := IntWalk.i64_in _ (by omega)
  clear hE bA bB
  go_enter Try.func16, Try.ntmps16
  go_wp2_with (go_at_call 32; with_reducible refine (C1 _).out.mono ?_)
  rintro e w1 ⟨rfl, hm, hb1⟩
  have hl := (HL _ _ hm).out
  simp only [World.size_alloc] at hl
  clear HL hm
  have HT := (Tri.new 24 0 0 0 w).later hb1
  have hB := bl ((Below.refl w.heap.size w).alloc (Nat.le_refl _) (.cells #[.int .i64 0, .int .i64 0, .int .i64 0] 24)) hb1
  clear hb1
  obtain ⟨r0, r1, r2, f0, f1, f2⟩ := HT.cells
  go_wp2_with fail
  generalize hx : Sem.run Try.prog (method _ _ _ _) w1 = X
  have hy : X = .ok (97, .agg #[]) w1 := hx.symm.trans (by kernel_rfl)
  subst hy
  clear hx
  clear r0 r1 r2 f0 f1 f2 hl
  go_wp2_with (go_at_call 97; with_reducible refine (C2 _).out.mono ?_)
  rintro e w2 ⟨rfl, hb2⟩
  replace HT := HT.later hb2
  replace hB := bl hB hb2
  clear hb2
  obtain ⟨r0, r1, r2, f0, f1, f2⟩ := HT.cells
  go_wp2_with (go_at_call 33; with_reducible refine (C3 _).out.mono ?_)
  rintro e w3 ⟨rfl, hb3⟩
  replace HT := HT.later hb3
  replace hB := bl hB hb3
  clear hb3 r0 r1 r2 f0 f1 f2
  obtain ⟨r0, r1, r2, f0, f1, f2⟩ := HT.cells
  go_wp2_with (go_at_call 33; with_reducible refine (C4 _).out.mono ?_)
  rintro e w4 ⟨rfl, hb4⟩
  replace HT := HT.later hb4
  replace hB := bl hB hb4
  clear hb4 r0 r1 r2 f0 f1 f2
  obtain ⟨r0, r1, r2, f0, f1, f2⟩ := HT.cells
  obtain ⟨s0, s1, s2⟩ := HT.set (.int .i64 A) (.int .i64 B) (.int .i64 F)
  go_wp2_with fail
  refine bodyPost_ret (v := .tuple #[.agg #[.int .i64 A, .int .i64 B, .int .i64 F], .int .i64 0]) (by simp [results, Try.results16, go_sem, s0, s1, s2]) rfl ⟨rfl, below_set3 (Nat.le_refl _) hB _ _ _⟩

set_option maxHeartbeats 1000000 in
set_option maxRecDepth 100000 in
theorem pp_udp_no (s : ByteArray) (hs : s.size ≤ 9223372036854775807) (w : World) (hE : udpE s ≠ 0) :
    Calls Try.prog 16 #[.int .i64 17, .string s] w fun e w' => e = .returned (.tuple #[.agg #[.int .i64 0, .int .i64 0, .int .i64 0], .int .i64 (udpE s)]) ∧ Below w.heap.size w w' := by
  have C1 := fun w => Lib.hid (protos_calls w)
  have C2 := fun w => Lib.hid (udp_parse s hs w)
  have HL : ∀ n w, w.heap[n]? = some (.map protoEs 2) → Hid ((Instr.lookup 59 (.map (some n)) (.int .i64 17) false).run Try.prog w = .ok (.iface 92 (.agg #[])) w) := fun n w h => Lib.hid (look_proto 17 n w h)
  generalize udpE s = E at *
  have d : (E != 0) = true := by simpa using hE
  clear hE
  go_enter Try.func16, Try.ntmps16
  go_wp2_with (go_at_call 32; with_reducible refine (C1 _).out.mono ?_)
  rintro e w1 ⟨rfl, hm, hb1⟩
  have hl := (HL _ _ hm).out
  simp only [World.size_alloc] at hl
  clear HL hm
  have HT := (Tri.new 24 0 0 0 w).later hb1
  have hB := bl ((Below.refl w.heap.size w).alloc (Nat.le_refl _) (.cells #[.int .i64 0, .int .i64 0, .int .i64 0] 24)) hb1
  clear hb1
  obtain ⟨r0, r1, r2, f0, f1, f2⟩ := HT.cells
  go_wp2_with fail
  generalize hx : Sem.run Try.prog (method _ _ _ _) w1 = X
  have hy : X = .ok (109, .agg #[]) w1 := hx.symm.trans (by kernel_rfl)
  subst hy
  clear hx
  clear r0 r1 r2 f0 f1 f2 hl
  go_wp2_with (go_at_call 109; with_reducible refine (C2 _).out.mono ?_)
  rintro e w2 ⟨rfl, hb2⟩
  replace HT := HT.later hb2
  replace hB := bl hB hb2
  clear hb2
  obtain ⟨r0, r1, r2, f0, f1, f2⟩ := HT.cells
  obtain ⟨s0, s1, s2⟩ := HT.set (.int .i64 0) (.int .i64 0) (.int .i64 0)
  go_wp2_with fail
  refine bodyPost_ret (v := .tuple #[.agg #[.int .i64 0, .int .i64 0, .int .i64 0], .int .i64 E]) (by simp [results, Try.results16, go_sem, s0, s1, s2]) rfl ⟨rfl, below_set3 (Nat.le_refl _) hB _ _ _⟩

set_option maxHeartbeats 1000000 in
set_option maxRecDepth 100000 in
theorem pp_udp_ok (s : ByteArray) (hs : s.size ≤ 9223372036854775807) (w : World) (hE : udpE s = 0) :
    Calls Try.prog 16 #[.int .i64 17, .string s] w fun e w' => e = .returned (.tuple #[.agg #[.int .i64 (getV s 0 2), .int .i64 (getV s 2 2), .int .i64 (0)], .int .i64 0]) ∧ Below w.heap.size w w' := by
  have C1 := fun w => Lib.hid (protos_calls w)
  have C2 := fun w => Lib.hid (udp_parse s hs w)
  have HL : ∀ n w, w.heap[n]? = some (.map protoEs 2) → Hid ((Instr.lookup 59 (.map (some n)) (.int .i64 17) false).run Try.prog w = .ok (.iface 92 (.agg #[])) w) := fun n w h => Lib.hid (look_proto 17 n w h)
  rw [hE] at C2
  have bA := getV2_bd s 0
  have bB := getV2_bd s 2
  have C3 := fun w => Lib.hid (Get_calls s 0 2 hs w)
  have C4 := fun w => Lib.hid (Get_calls s 2 2 hs w)
  generalize getB s 0 2 = G0 at *
  generalize getB s 2 2 = G2 at *
  generalize getV s 0 2 = A at *
  generalize getV s 2 2 = B at *
  have hwA : IntKind.i64.wrap A = A := IntWalk.i64_in _ (by omega)
  have hwB : IntKind.i64.wrap B = B := IntWalk.i64_in _ (by omega)
  clear hE bA bB
  go_enter Try.func16, Try.ntmps16
  go_wp2_with (go_at_call 32; with_reducible refine (C1 _).out.mono ?_)
  rintro e w1 ⟨rfl, hm, hb1⟩
  have hl := (HL _ _ hm).out
  simp only [World.size_alloc] at hl
  clear HL hm
  have HT := (Tri.new 24 0 0 0 w).later hb1
  have hB := bl ((Below.refl w.heap.size w).alloc (Nat.le_refl _) (.cells #[.int .i64 0, .int .i64 0, .int .i64 0] 24)) hb1
  clear hb1
  obtain ⟨r0, r1, r2, f0, f1, f2⟩ := HT.cells
  go_wp2_with fail
  generalize hx : Sem.run Try.prog (method _ _ _ _) w1 = X
  have hy : X = .ok (109, .agg #[]) w1 := hx.symm.trans (by kernel_rfl)
  subst hy
  clear hx
  clear r0 r1 r2 f0 f1 f2 hl
  go_wp2_with (go_at_call 109; with_reducible refine (C2 _).out.mono ?_)
  rintro e w2 ⟨rfl, hb2⟩
  replace HT := HT.later hb2
  replace hB := bl hB hb2
  clear hb2
  obtain ⟨r0, r1, r2, f0, f1, f2⟩ := HT.cells
  go_wp2_with (go_at_call 33; with_reducible refine (C3 _).out.mono ?_)
  rintro e w3 ⟨rfl, hb3⟩
  replace HT := HT.later hb3
  replace hB := bl hB hb3
  clear hb3 r0 r1 r2 f0 f1 f2
  obtain ⟨r0, r1, r2, f0, f1, f2⟩ := HT.cells
  go_wp2_with (go_at_call 33; with_reducible refine (C4 _).out.mono ?_)
  rintro e w4 ⟨rfl, hb4⟩
  replace HT := HT.later hb4
  replace hB := bl hB hb4
  clear hb4 r0 r1 r2 f0 f1 f2
  obtain ⟨r0, r1, r2, f0, f1, f2⟩ := HT.cells
  obtain ⟨s0, s1, s2⟩ := HT.set (.int .i64 A) (.int .i64 B) (.int .i64 0)
  go_wp2_with fail
  refine bodyPost_ret (v := .tuple #[.agg #[.int .i64 A, .int .i64 B, .int .i64 0], .int .i64 0]) (by simp [results, Try.results16, go_sem, s0, s1, s2]) rfl ⟨rfl, below_set3 (Nat.le_refl _) hB _ _ _⟩

set_option maxHeartbeats 1000000 in
set_option maxRecDepth 100000 in
theorem pp_none (k : Int) (s : ByteArray) (w : World) (h6 : ¬ k = 6) (h17 : ¬ k = 17) :
    Calls Try.prog 16 #[.int .i64 k, .string s] w fun e w' => e = .returned (.tuple #[.agg #[.int .i64 0, .int .i64 0, .int .i64 0], .int .i64 7]) ∧ Below w.heap.size w w' := by
  have C1 := fun w => Lib.hid (protos_calls w)
  have HL : ∀ n w, w.heap[n]? = some (.map protoEs 2) → Hid ((Instr.lookup 59 (.map (some n)) (.int .i64 k) false).run Try.prog w = .ok .nilIface w) := fun n w h => Lib.hid (by
    have := look_proto k n w h
    unfold protoV at this
    rw [if_neg h6, if_neg h17] at this
    exact this)
  clear h6 h17
  go_enter Try.func16, Try.ntmps16
  go_wp2_with (go_at_call 32; with_reducible refine (C1 _).out.mono ?_)
  rintro e w1 ⟨rfl, hm, hb1⟩
  have hl := (HL _ _ hm).out
  simp only [World.size_alloc] at hl
  clear HL hm
  have HT := (Tri.new 24 0 0 0 w).later hb1
  have hB := bl ((Below.refl w.heap.size w).alloc (Nat.le_refl _) (.cells #[.int .i64 0, .int .i64 0, .int .i64 0] 24)) hb1
  clear hb1
  obtain ⟨r0, r1, r2, f0, f1, f2⟩ := HT.cells
  obtain ⟨s0, s1, s2⟩ := HT.set (.int .i64 0) (.int .i64 0) (.int .i64 0)
  go_wp2_with fail
  refine bodyPost_ret (v := .tuple #[.agg #[.int .i64 0, .int .i64 0, .int .i64 0], .int .i64 7]) (by simp [results, Try.results16, go_sem, s0, s1, s2]) rfl ⟨rfl, below_set3 (Nat.le_refl _) hB _ _ _⟩

theorem portParse_calls (k : Int) (s : ByteArray) (hs : s.size ≤ 9223372036854775807) (w : World) :
    Calls Try.prog 16 #[.int .i64 k, .string s] w fun e w' => e = .returned (.tuple #[.agg #[.int .i64 (ppA k s), .int .i64 (ppB k s), .int .i64 (ppF k s)], .int .i64 (ppE k s)]) ∧ Below w.heap.size w w' := by
  by_cases h6 : k = 6
  · subst h6
    have e : ppE 6 s = tcpE s := rfl
    have f : ppF 6 s = tcpF s := rfl
    unfold ppA ppB
    rw [e, f]
    by_cases hE : tcpE s = 0
    · rw [if_pos hE, if_pos hE, hE]; exact pp_tcp_ok s hs w hE
    · have f0 : tcpF s = 0 := by unfold tcpF; rw [if_neg hE]
      rw [if_neg hE, if_neg hE, f0]; exact pp_tcp_no s hs w hE
  · by_cases h17 : k = 17
    · subst h17
      have e : ppE 17 s = udpE s := rfl
      have f : ppF 17 s = 0 := rfl
      unfold ppA ppB
      rw [e, f]
      by_cases hE : udpE s = 0
      · rw [if_pos hE, if_pos hE, hE]; exact pp_udp_ok s hs w hE
      · rw [if_neg hE, if_neg hE]; exact pp_udp_no s hs w hE
    · have e : ppE k s = 7 := by unfold ppE; rw [if_neg h6, if_neg h17]
      have f : ppF k s = 0 := by unfold ppF; rw [if_neg h6]
      unfold ppA ppB
      rw [e, f]; exact pp_none k s w h6 h17

set_option maxHeartbeats 1000000 in
set_option maxRecDepth 100000 in
theorem pu_tcp (a b f : Int) (w : World) :
    Calls Try.prog 18 #[.int .i64 6, .agg #[.int .i64 a, .int .i64 b, .int .i64 f]] w fun e w' => e = .returned (.tuple #[.string (puS 6 a b f), .int .i64 (puE 6 a b f)]) ∧ Below w.heap.size w w' := by
  have C1 := fun w => Lib.hid (protos_calls w)
  have HL : ∀ n w, w.heap[n]? = some (.map protoEs 2) → Hid ((Instr.lookup 59 (.map (some n)) (.int .i64 6) false).run Try.prog w = .ok (.iface 91 (.agg #[])) w) := fun n w h => Lib.hid (look_proto 6 n w h)
  have c2 := tcp_put f
  have c3 := ports_calls a b f
  cases hk : (inB a 65535 && inB b 65535) with
  | false =>
    have e1 : puE 6 a b f = 1 := by unfold puE; rw [if_pos (by decide), hk]; rfl
    have e2 : puS 6 a b f = ⟨#[]⟩ := by unfold puS; rw [e1]; rfl
    rw [e1, e2]
    rw [hk] at c3
    generalize abW a b = S at *
    generalize hY : (if inB f 255 = true then fS 6 f else ⟨#[]⟩) = Y at *
    generalize hZ : (if inB f 255 = true then (0 : Int) else 1) = Z at *
    clear hY hZ hk e1 e2
    have C2 := fun w => Lib.hid (c2 w)
    have C3 := fun w => Lib.hid (c3 w)
    clear c2 c3
    go_enter Try.func18, Try.ntmps18
    go_wp2_with (go_at_call 32; with_reducible refine (C1 _).out.mono ?_)
    rintro e w1 ⟨rfl, hm, hb1⟩
    have hl := (HL _ _ hm).out
    simp only [World.size_alloc] at hl
    clear HL hm
    have HT := (Tri.new 24 a b f w).later hb1
    have hB := bl ((Below.refl w.heap.size w).alloc (Nat.le_refl _) (.cells #[.int .i64 a, .int .i64 b, .int .i64 f] 24)) hb1
    clear hb1
    obtain ⟨r0, r1, r2, f0, f1, f2⟩ := HT.cells
    clear f0 f1 f2
    go_wp2_with (go_at_call 35; with_reducible refine (C3 _).out.mono ?_)
    rintro e w2 ⟨rfl, hb2⟩
    replace HT := HT.later hb2
    replace hB := bl hB hb2
    clear hb2 r0 r1 r2 hl
    obtain ⟨r0, r1, r2, f0, f1, f2⟩ := HT.cells
    clear f0 f1 f2
    go_wp2_with fail
    generalize hx : Sem.run Try.prog (method _ _ _ _) w2 = X
    have hy : X = .ok (98, .agg #[]) w2 := hx.symm.trans (by kernel_rfl)
    subst hy
    clear hx
    go_wp2_with (go_at_call 98; with_reducible refine (C2 _).out.mono ?_)
    rintro e w3 ⟨rfl, hb3⟩
    replace hB := bl hB hb3
    clear hb3 r0 r1 r2 HT
    go_wp2_with fail
    go_ret2
    exact ⟨rfl, hB⟩
  | true =>
    obtain ⟨ka, kb⟩ := Bool.and_eq_true_iff.1 hk
    have hab : abW a b = abS a b := by unfold abW; rw [if_pos ka, if_pos kb]
    rw [hk, hab] at c3
    by_cases hf : inB f 255 = true
    · have e1 : puE 6 a b f = 0 := by unfold puE; rw [if_pos (by decide), hk]; simp [fB, hf]
      have e2 : puS 6 a b f = abS a b ++ fS 6 f := by unfold puS; rw [if_pos e1]
      rw [e1, e2]
      rw [if_pos hf, if_pos hf] at c2
      have z1 : (abS a b).size = 4 := by
        have h1 := putS_size a 2
        have h2 := putS_size b 2
        simp at h1 h2
        unfold abS
        rw [ByteArray.size_append]
        omega
      have z2 : (fS 6 f).size = 16 := by
        have h1 := putS_size f 1
        simp at h1
        have q1 : (⟨#[0, 0, 0, 0, 0, 0, 0, 0]⟩ : ByteArray).size = 8 := rfl
        have q2 : (⟨#[80]⟩ : ByteArray).size = 1 := rfl
        have q3 : (⟨#[0, 0, 0, 0, 0, 0]⟩ : ByteArray).size = 6 := rfl
        unfold fS
        rw [if_pos rfl, ByteArray.size_append, ByteArray.size_append, ByteArray.size_append]
        omega
      generalize fS 6 f = Y at *
      generalize abS a b = S at *
      clear e1 e2 hf hab hk ka kb
      have C2 := fun w => Lib.hid (c2 w)
      have C3 := fun w => Lib.hid (c3 w)
      clear c2 c3
      go_enter Try.func18, Try.ntmps18
      go_wp2_with (go_at_call 32; with_reducible refine (C1 _).out.mono ?_)
      rintro e w1 ⟨rfl, hm, hb1⟩
      have hl := (HL _ _ hm).out
      simp only [World.size_alloc] at hl
      clear HL hm
      have HT := (Tri.new 24 a b f w).later hb1
      have hB := bl ((Below.refl w.heap.size w).alloc (Nat.le_refl _) (.cells #[.int .i64 a, .int .i64 b, .int .i64 f] 24)) hb1
      clear hb1
      obtain ⟨r0, r1, r2, f0, f1, f2⟩ := HT.cells
      clear f0 f1 f2
      go_wp2_with (go_at_call 35; with_reducible refine (C3 _).out.mono ?_)
      rintro e w2 ⟨rfl, hb2⟩
      replace HT := HT.later hb2
      replace hB := bl hB hb2
      clear hb2 r0 r1 r2 hl
      obtain ⟨r0, r1, r2, f0, f1, f2⟩ := HT.cells
      clear f0 f1 f2
      go_wp2_with fail
      generalize hx : Sem.run Try.prog (method _ _ _ _) w2 = X
      have hy : X = .ok (98, .agg #[]) w2 := hx.symm.trans (by kernel_rfl)
      subst hy
      clear hx
      go_wp2_with (go_at_call 98; with_reducible refine (C2 _).out.mono ?_)
      rintro e w3 ⟨rfl, hb3⟩
      replace hB := bl hB hb3
      clear hb3 r0 r1 r2 HT
      go_wp2_with fail
      go_ret2
      exact ⟨rfl, hB⟩
    · have e1 : puE 6 a b f = 1 := by unfold puE; rw [if_pos (by decide), hk]; simp [fB, hf]
      have e2 : puS 6 a b f = ⟨#[]⟩ := by unfold puS; rw [e1]; rfl
      rw [e1, e2]
      rw [if_neg hf, if_neg hf] at c2
      generalize abS a b = S at *
      clear e1 e2 hf hab hk ka kb
      have C2 := fun w => Lib.hid (c2 w)
      have C3 := fun w => Lib.hid (c3 w)
      clear c2 c3
      go_enter Try.func18, Try.ntmps18
      go_wp2_with (go_at_call 32; with_reducible refine (C1 _).out.mono ?_)
      rintro e w1 ⟨rfl, hm, hb1⟩
      have hl := (HL _ _ hm).out
      simp only [World.size_alloc] at hl
      clear HL hm
      have HT := (Tri.new 24 a b f w).later hb1
      have hB := bl ((Below.refl w.heap.size w).alloc (Nat.le_refl _) (.cells #[.int .i64 a, .int .i64 b, .int .i64 f] 24)) hb1
      clear hb1
      obtain ⟨r0, r1, r2, f0, f1, f2⟩ := HT.cells
      clear f0 f1 f2
      go_wp2_with (go_at_call 35; with_reducible refine (C3 _).out.mono ?_)
      rintro e w2 ⟨rfl, hb2⟩
      replace HT := HT.later hb2
      replace hB := bl hB hb2
      clear hb2 r0 r1 r2 hl
      obtain ⟨r0, r1, r2, f0, f1, f2⟩ := HT.cells
      clear f0 f1 f2
      go_wp2_with fail
      generalize hx : Sem.run Try.prog (method _ _ _ _) w2 = X
      have hy : X = .ok (98, .agg #[]) w2 := hx.symm.trans (by kernel_rfl)
      subst hy
      clear hx
      go_wp2_with (go_at_call 98; with_reducible refine (C2 _).out.mono ?_)
      rintro e w3 ⟨rfl, hb3⟩
      replace hB := bl hB hb3
      clear hb3 r0 r1 r2 HT
      go_wp2_with fail
      go_ret2
      exact ⟨rfl, hB⟩

set_option maxHeartbeats 1000000 in
set_option maxRecDepth 100000 in
theorem pu_udp (a b f : Int) (w : World) :
    Calls Try.prog 18 #[.int .i64 17, .agg #[.int .i64 a, .int .i64 b, .int .i64 f]] w fun e w' => e = .returned (.tuple #[.string (puS 17 a b f), .int .i64 (puE 17 a b f)]) ∧ Below w.heap.size w w' := by
  have C1 := fun w => Lib.hid (protos_calls w)
  have HL : ∀ n w, w.heap[n]? = some (.map protoEs 2) → Hid ((Instr.lookup 59 (.map (some n)) (.int .i64 17) false).run Try.prog w = .ok (.iface 92 (.agg #[])) w) := fun n w h => Lib.hid (look_proto 17 n w h)
  have c2 := udp_put f
  have c3 := ports_calls a b f
  cases hk : (inB a 65535 && inB b 65535) with
  | false =>
    have e1 : puE 17 a b f = 1 := by unfold puE; rw [if_pos (by decide), hk]; rfl
    have e2 : puS 17 a b f = ⟨#[]⟩ := by unfold puS; rw [e1]; rfl
    rw [e1, e2]
    rw [hk] at c3
    generalize abW a b = S at *
    generalize hY : (if f = 0 then (⟨#[0, 8, 0, 0]⟩ : ByteArray) else ⟨#[]⟩) = Y at *
    generalize hZ : (if f = 0 then (0 : Int) else 1) = Z at *
    clear hY hZ hk e1 e2
    have C2 := fun w => Lib.hid (c2 w)
    have C3 := fun w => Lib.hid (c3 w)
    clear c2 c3
    go_enter Try.func18, Try.ntmps18
    go_wp2_with (go_at_call 32; with_reducible refine (C1 _).out.mono ?_)
    rintro e w1 ⟨rfl, hm, hb1⟩
    have hl := (HL _ _ hm).out
    simp only [World.size_alloc] at hl
    clear HL hm
    have HT := (Tri.new 24 a b f w).later hb1
    have hB := bl ((Below.refl w.heap.size w).alloc (Nat.le_refl _) (.cells #[.int .i64 a, .int .i64 b, .int .i64 f] 24)) hb1
    clear hb1
    obtain ⟨r0, r1, r2, f0, f1, f2⟩ := HT.cells
    clear f0 f1 f2
    go_wp2_with (go_at_call 35; with_reducible refine (C3 _).out.mono ?_)
    rintro e w2 ⟨rfl, hb2⟩
    replace HT := HT.later hb2
    replace hB := bl hB hb2
    clear hb2 r0 r1 r2 hl
    obtain ⟨r0, r1, r2, f0, f1, f2⟩ := HT.cells
    clear f0 f1 f2
    go_wp2_with fail
    generalize hx : Sem.run Try.prog (method _ _ _ _) w2 = X
    have hy : X = .ok (110, .agg #[]) w2 := hx.symm.trans (by kernel_rfl)
    subst hy
    clear hx
    go_wp2_with (go_at_call 110; with_reducible refine (C2 _).out.mono ?_)
    rintro e w3 ⟨rfl, hb3⟩
    replace hB := bl hB hb3
    clear hb3 r0 r1 r2 HT
    go_wp2_with fail
    go_ret2
    exact ⟨rfl, hB⟩
  | true =>
    obtain ⟨ka, kb⟩ := Bool.and_eq_true_iff.1 hk
    have hab : abW a b = abS a b := by unfold abW; rw [if_pos ka, if_pos kb]
    rw [hk, hab] at c3
    by_cases hf : f = 0
    · have e1 : puE 17 a b f = 0 := by unfold puE; rw [if_pos (by decide), hk]; simp [fB, hf]
      have e2 : puS 17 a b f = abS a b ++ fS 17 f := by unfold puS; rw [if_pos e1]
      rw [e1, e2]
      rw [if_pos hf, if_pos hf] at c2
      have z1 : (abS a b).size = 4 := by
        have h1 := putS_size a 2
        have h2 := putS_size b 2
        simp at h1 h2
        unfold abS
        rw [ByteArray.size_append]
        omega
      have z2 : (⟨#[0, 8, 0, 0]⟩ : ByteArray).size = 4 := rfl
      have e3 : fS 17 f = ⟨#[0, 8, 0, 0]⟩ := rfl
      rw [e3]
      clear e3
      generalize abS a b = S at *
      clear e1 e2 hf hab hk ka kb
      have C2 := fun w => Lib.hid (c2 w)
      have C3 := fun w => Lib.hid (c3 w)
      clear c2 c3
      go_enter Try.func18, Try.ntmps18
      go_wp2_with (go_at_call 32; with_reducible refine (C1 _).out.mono ?_)
      rintro e w1 ⟨rfl, hm, hb1⟩
      have hl := (HL _ _ hm).out
      simp only [World.size_alloc] at hl
      clear HL hm
      have HT := (Tri.new 24 a b f w).later hb1
      have hB := bl ((Below.refl w.heap.size w).alloc (Nat.le_refl _) (.cells #[.int .i64 a, .int .i64 b, .int .i64 f] 24)) hb1
      clear hb1
      obtain ⟨r0, r1, r2, f0, f1, f2⟩ := HT.cells
      clear f0 f1 f2
      go_wp2_with (go_at_call 35; with_reducible refine (C3 _).out.mono ?_)
      rintro e w2 ⟨rfl, hb2⟩
      replace HT := HT.later hb2
      replace hB := bl hB hb2
      clear hb2 r0 r1 r2 hl
      obtain ⟨r0, r1, r2, f0, f1, f2⟩ := HT.cells
      clear f0 f1 f2
      go_wp2_with fail
      generalize hx : Sem.run Try.prog (method _ _ _ _) w2 = X
      have hy : X = .ok (110, .agg #[]) w2 := hx.symm.trans (by kernel_rfl)
      subst hy
      clear hx
      go_wp2_with (go_at_call 110; with_reducible refine (C2 _).out.mono ?_)
      rintro e w3 ⟨rfl, hb3⟩
      replace hB := bl hB hb3
      clear hb3 r0 r1 r2 HT
      go_wp2_with fail
      go_ret2
      exact ⟨rfl, hB⟩
    · have e1 : puE 17 a b f = 1 := by unfold puE; rw [if_pos (by decide), hk]; simp [fB, hf]
      have e2 : puS 17 a b f = ⟨#[]⟩ := by unfold puS; rw [e1]; rfl
      rw [e1, e2]
      rw [if_neg hf, if_neg hf] at c2
      generalize abS a b = S at *
      clear e1 e2 hf hab hk ka kb
      have C2 := fun w => Lib.hid (c2 w)
      have C3 := fun w => Lib.hid (c3 w)
      clear c2 c3
      go_enter Try.func18, Try.ntmps18
      go_wp2_with (go_at_call 32; with_reducible refine (C1 _).out.mono ?_)
      rintro e w1 ⟨rfl, hm, hb1⟩
      have hl := (HL _ _ hm).out
      simp only [World.size_alloc] at hl
      clear HL hm
      have HT := (Tri.new 24 a b f w).later hb1
      have hB := bl ((Below.refl w.heap.size w).alloc (Nat.le_refl _) (.cells #[.int .i64 a, .int .i64 b, .int .i64 f] 24)) hb1
      clear hb1
      obtain ⟨r0, r1, r2, f0, f1, f2⟩ := HT.cells
      clear f0 f1 f2
      go_wp2_with (go_at_call 35; with_reducible refine (C3 _).out.mono ?_)
      rintro e w2 ⟨rfl, hb2⟩
      replace HT := HT.later hb2
      replace hB := bl hB hb2
      clear hb2 r0 r1 r2 hl
      obtain ⟨r0, r1, r2, f0, f1, f2⟩ := HT.cells
      clear f0 f1 f2
      go_wp2_with fail
      generalize hx : Sem.run Try.prog (method _ _ _ _) w2 = X
      have hy : X = .ok (110, .agg #[]) w2 := hx.symm.trans (by kernel_rfl)
      subst hy
      clear hx
      go_wp2_with (go_at_call 110; with_reducible refine (C2 _).out.mono ?_)
      rintro e w3 ⟨rfl, hb3⟩
      replace hB := bl hB hb3
      clear hb3 r0 r1 r2 HT
      go_wp2_with fail
      go_ret2
      exact ⟨rfl, hB⟩

set_option maxHeartbeats 1000000 in
set_option maxRecDepth 100000 in
theorem pu_none (k a b f : Int) (w : World) (h6 : ¬ k = 6) (h17 : ¬ k = 17) :
    Calls Try.prog 18 #[.int .i64 k, .agg #[.int .i64 a, .int .i64 b, .int .i64 f]] w fun e w' => e = .returned (.tuple #[.string ⟨#[]⟩, .int .i64 7]) ∧ Below w.heap.size w w' := by
  have C1 := fun w => Lib.hid (protos_calls w)
  have HL : ∀ n w, w.heap[n]? = some (.map protoEs 2) → Hid ((Instr.lookup 59 (.map (some n)) (.int .i64 k) false).run Try.prog w = .ok .nilIface w) := fun n w h => Lib.hid (by
    have := look_proto k n w h
    unfold protoV at this
    rw [if_neg h6, if_neg h17] at this
    exact this)
  clear h6 h17
  go_enter Try.func18, Try.ntmps18
  go_wp2_with (go_at_call 32; with_reducible refine (C1 _).out.mono ?_)
  rintro e w1 ⟨rfl, hm, hb1⟩
  have hl := (HL _ _ hm).out
  simp only [World.size_alloc] at hl
  clear HL hm
  have HT := (Tri.new 24 a b f w).later hb1
  have hB := bl ((Below.refl w.heap.size w).alloc (Nat.le_refl _) (.cells #[.int .i64 a, .int .i64 b, .int .i64 f] 24)) hb1
  clear hb1
  obtain ⟨r0, r1, r2, f0, f1, f2⟩ := HT.cells
  clear f0 f1 f2
  go_wp2_with fail
  go_ret2
  exact ⟨rfl, hB⟩

theorem portPut_calls (k a b f : Int) (w : World) :
    Calls Try.prog 18 #[.int .i64 k, .agg #[.int .i64 a, .int .i64 b, .int .i64 f]] w fun e w' => e = .returned (.tuple #[.string (puS k a b f), .int .i64 (puE k a b f)]) ∧ Below w.heap.size w w' := by
  by_cases h6 : k = 6
  · subst h6; exact pu_tcp a b f w
  · by_cases h17 : k = 17
    · subst h17; exact pu_udp a b f w
    · have e : puE k a b f = 7 := by unfold puE; rw [if_neg (by omega)]
      have e2 : puS k a b f = ⟨#[]⟩ := by unfold puS; rw [e]; rfl
      rw [e, e2]; exact pu_none k a b f w h6 h17
end Go.Proofs.Ytjfijllnmjajpaa
