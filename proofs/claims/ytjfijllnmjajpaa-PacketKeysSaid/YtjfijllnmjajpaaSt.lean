/- An argument of type api.Key or api.Packet: opened to its cells; it reads alike in every world. -/
import Derived.WalkKit
import Derived.ProofKit
import Derived.OpenShut
import Derived.ShutString
import Derived.ChangeOld
import Derived.ChangeSame
import Derived.Below
import Derived.Test.YtjfijllnmjajpaaProg
set_option linter.unusedVariables false
namespace Go.Proofs.Ytjfijllnmjajpaa
open Go.ChangeShapes Go.WideShapes Go.ChangeAt Go.RowKit

theorem cells_int : Try.prog.cellsOf 3 = 1 := by kernel_rfl
theorem cells_string : Try.prog.cellsOf 9 = 1 := by kernel_rfl
theorem cells_key : Try.prog.cellsOf 40 = 6 := by kernel_rfl
theorem cells_packet : Try.prog.cellsOf 42 = 7 := by kernel_rfl

section
variable {H : Type} {enc : TypeId × Value → H}
theorem read_int (W : World) (base : Nat) (sp : Nat → Bool) (held : Bool) (n : Nat) (x : Int) (h : (Lit.int .i64 x).wf = true) : DataW.trod enc Try.prog W base sp held (n + 1) 3 [.int .i64 x] = some (.lit (.int .i64 x), []) := by
  simp [DataW.trod, Try.underlying3, h]
theorem read_string (W : World) (base : Nat) (sp : Nat → Bool) (held : Bool) (n : Nat) (s : ByteArray) (h : s.size ≤ maxLen) : DataW.trod enc Try.prog W base sp held (n + 1) 9 [.string s] = some (.lit (.string s.data.toList), []) := by
  simp [DataW.trod, Try.underlying9, h]

set_option maxRecDepth 100000 in
theorem key_cells {W : World} {base : Nat} {sp : Nat → Bool} {held : Bool} {fuel : Nat} {cs : List Value} {y : DataW H × List MemPlace} (h : DataW.trod enc Try.prog W base sp held fuel 40 cs = some y) :
    ∃ (x : Int) (a b : ByteArray) (f t q : Int), cs = [.int .i64 x, .string a, .string b, .int .i64 f, .int .i64 t, .int .i64 q] ∧ y.2 = [] ∧ a.size ≤ maxLen ∧ b.size ≤ maxLen ∧
      ∀ (W' : World) (base' : Nat) (sp' : Nat → Bool) (held' : Bool) (n : Nat), DataW.trod enc Try.prog W' base' sp' held' (n + 2) 40 cs = some (y.1, []) := by
  obtain ⟨xs, n, _, rfl, hl, hxl, hg⟩ := DataW.trod_struct Try.underlying40 h
  rw [cells_key] at hl
  match cs, hl with
  | [c0, c1, c2, c3, c4, c5], _ =>
    match xs, hxl with
    | [y0, y1, y2, y3, y4, y5], _ =>
      have h0 : DataW.trod enc Try.prog W base sp held n 3 (([c0, c1, c2, c3, c4, c5].drop 0).take (Try.prog.cellsOf 3)) = some y0 := hg 0 _ rfl
      have h1 : DataW.trod enc Try.prog W base sp held n 9 (([c0, c1, c2, c3, c4, c5].drop 1).take (Try.prog.cellsOf 9)) = some y1 := hg 1 _ rfl
      have h2 : DataW.trod enc Try.prog W base sp held n 9 (([c0, c1, c2, c3, c4, c5].drop 2).take (Try.prog.cellsOf 9)) = some y2 := hg 2 _ rfl
      have h3 : DataW.trod enc Try.prog W base sp held n 3 (([c0, c1, c2, c3, c4, c5].drop 3).take (Try.prog.cellsOf 3)) = some y3 := hg 3 _ rfl
      have h4 : DataW.trod enc Try.prog W base sp held n 3 (([c0, c1, c2, c3, c4, c5].drop 4).take (Try.prog.cellsOf 3)) = some y4 := hg 4 _ rfl
      have h5 : DataW.trod enc Try.prog W base sp held n 3 (([c0, c1, c2, c3, c4, c5].drop 5).take (Try.prog.cellsOf 3)) = some y5 := hg 5 _ rfl
      rw [cells_int] at h0 h3 h4 h5
      rw [cells_string] at h1 h2
      obtain ⟨x, e0, rfl, w0⟩ := DataW.trod_int Try.underlying3 h0
      obtain ⟨a, e1, rfl, w1⟩ := DataW.trod_string Try.underlying9 h1
      obtain ⟨b, e2, rfl, w2⟩ := DataW.trod_string Try.underlying9 h2
      obtain ⟨f, e3, rfl, w3⟩ := DataW.trod_int Try.underlying3 h3
      obtain ⟨t, e4, rfl, w4⟩ := DataW.trod_int Try.underlying3 h4
      obtain ⟨q, e5, rfl, w5⟩ := DataW.trod_int Try.underlying3 h5
      simp at e0 e1 e2 e3 e4 e5
      subst e0 e1 e2 e3 e4 e5
      refine ⟨x, a, b, f, t, q, rfl, rfl, w1, w2, ?_⟩
      intro W' base' sp' held' n
      refine trod_struct_mk Try.underlying40 (by rw [cells_key]; rfl) (xs := [(.lit (.int .i64 x), []), (.lit (.string a.data.toList), []), (.lit (.string b.data.toList), []), (.lit (.int .i64 f), []), (.lit (.int .i64 t), []), (.lit (.int .i64 q), [])]) ?_
      simp [cells_int, cells_string, read_int, read_string, w0, w1, w2, w3, w4, w5]

set_option maxRecDepth 100000 in
theorem open_key {W : World} {base : Nat} {sp : Nat → Bool} {held : Bool} {r : Reach} {b0 : Nat} {v : Value} {d : DataW H} {p : List MemPlace} (hv : Value.okWide Try.prog W r b0 40 v) (h : DataW.Trod enc Try.prog W base sp held 40 v d p) :
    ∃ (x : Int) (a b : ByteArray) (f t q : Int), v = .agg #[.int .i64 x, .string a, .string b, .int .i64 f, .int .i64 t, .int .i64 q] ∧ p = [] ∧ a.size ≤ maxLen ∧ b.size ≤ maxLen ∧
      ∀ (W' : World) (base' : Nat) (sp' : Nat → Bool) (held' : Bool), DataW.Trod enc Try.prog W' base' sp' held' 40 v d [] := by
  obtain ⟨cs, rfl, hsz⟩ := okWide_struct Try.underlying40 hv
  obtain ⟨fuel, hf⟩ := h
  obtain ⟨x, a, b, f, t, q, e, e2, w1, w2, hr⟩ := key_cells hf
  have ec : cs = #[.int .i64 x, .string a, .string b, .int .i64 f, .int .i64 t, .int .i64 q] := by
    apply Array.toList_inj.1
    simpa [Value.cells] using e
  subst ec
  exact ⟨x, a, b, f, t, q, rfl, e2, w1, w2, fun W' base' sp' held' => ⟨2, hr W' base' sp' held' 0⟩⟩

set_option maxRecDepth 100000 in
theorem open_packet {W : World} {base : Nat} {sp : Nat → Bool} {held : Bool} {r : Reach} {b0 : Nat} {v : Value} {d : DataW H} {p : List MemPlace} (hv : Value.okWide Try.prog W r b0 42 v) (h : DataW.Trod enc Try.prog W base sp held 42 v d p) :
    ∃ (x : Int) (a b : ByteArray) (f t q g : Int), v = .agg #[.int .i64 x, .string a, .string b, .int .i64 f, .int .i64 t, .int .i64 q, .int .i64 g] ∧ p = [] ∧ a.size ≤ maxLen ∧ b.size ≤ maxLen ∧
      ∀ (W' : World) (base' : Nat) (sp' : Nat → Bool) (held' : Bool), DataW.Trod enc Try.prog W' base' sp' held' 42 v d [] := by
  obtain ⟨cs, rfl, hsz⟩ := okWide_struct Try.underlying42 hv
  obtain ⟨fuel, hf⟩ := h
  obtain ⟨xs, n, _, hx, hl, hxl, hg⟩ := DataW.trod_struct Try.underlying42 hf
  simp only [Prod.mk.injEq] at hx
  obtain ⟨rfl, rfl⟩ := hx
  match xs, hxl with
  | [y0, y1], _ =>
    have h0 : DataW.trod enc Try.prog W base sp held n 40 (((Value.agg cs).cells.toList.drop 0).take (Try.prog.cellsOf 40)) = some y0 := hg 0 _ rfl
    have h1 : DataW.trod enc Try.prog W base sp held n 3 (((Value.agg cs).cells.toList.drop 6).take (Try.prog.cellsOf 3)) = some y1 := hg 1 _ rfl
    rw [cells_key] at h0
    rw [cells_int] at h1
    obtain ⟨x, a, b, f, t, q, e, e2, w1, w2, hr⟩ := key_cells h0
    obtain ⟨g, e3, e4, w3⟩ := DataW.trod_int Try.underlying3 h1
    subst e4
    have hcl : cs.toList.length = 7 := by simpa [cells_packet] using hsz
    have ec : cs = #[.int .i64 x, .string a, .string b, .int .i64 f, .int .i64 t, .int .i64 q, .int .i64 g] := by
      obtain ⟨l⟩ := cs
      match l, hcl with
      | [c0, c1, c2, c3, c4, c5, c6], _ =>
        simp [Value.cells] at e e3
        simp [e, e3]
    subst ec
    refine ⟨x, a, b, f, t, q, g, rfl, by simp [e2], w1, w2, fun W' base' sp' held' => ⟨3, ?_⟩⟩
    have := trod_struct_mk (enc := enc) (w := W') (base := base') (spare := sp') (held := held') (n := 2) (cs := [.int .i64 x, .string a, .string b, .int .i64 f, .int .i64 t, .int .i64 q, .int .i64 g]) Try.underlying42 (by rw [cells_packet]; rfl) (xs := [(y0.1, []), (.lit (.int .i64 g), [])]) (by
      have hr' := hr W' base' sp' held' 0
      simp [Value.cells] at hr'
      simp [cells_int, cells_key, read_int, w3, hr'])
    simpa [Value.cells] using this
end
end Go.Proofs.Ytjfijllnmjajpaa
