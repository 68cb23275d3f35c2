/- number: a number's bytes are written. -/
import Derived.Deep.RegionWith
import Derived.Test.YtjfijllnmjajpaaWb
namespace Go.Proofs.Ytjfijllnmjajpaa
open Go.RowKit Go.BigFrame

theorem wr_below {B b : Nat} {l : List UInt8} {w w' : World} (h : Wr B b l w) (hb : Below w.heap.size w w') : Wr B b l w' := by
  have hh : ∀ p, Lib.BuilderAt 110 5 B b p (Lib.byteCells l) w → Lib.BuilderAt 110 5 B b p (Lib.byteCells l) w' := by
    rintro p ⟨hB, v, hbk, hown, hne⟩
    have hlt : b < w.heap.size := (Array.getElem?_eq_some_iff.1 hbk).1
    refine ⟨hB, v, (hb.block b hlt).trans hbk, ⟨hown.1, ?_⟩, hne⟩
    rcases hown.2 with hn | ⟨g, cap, cur, rfl, hbg, hg, rest⟩
    · exact .inl hn
    · exact .inr ⟨g, cap, cur, rfl, hbg, (hb.block g (Array.getElem?_eq_some_iff.1 hg).1).trans hg, rest⟩
  exact h.elim (fun x => .inl (hh _ x)) (fun x => .inr (hh _ x))

set_option maxHeartbeats 1000000 in
set_option maxRecDepth 100000 in
theorem wb_number (B b : Nat) (l : List UInt8) (v m : Int) (hv0 : 0 ≤ v) (hv : v ≤ 9223372036854775807) (w : World) (h : Wr B b l w) (hlen : l.length ≤ 140737488355000) (hBw : B ≤ w.heap.size) :
    Calls Try.prog 58 #[.pointer (some ⟨b, 0, none⟩), .int .i64 v, .int .i64 m] w fun e w' => e = .returned (.tuple #[]) ∧ Wr B b (l ++ (putS v m).data.toList) w' ∧ Below B w w' := by
  have mixed : Try.prog.follows .mixedOrders = true := by kernel_rfl
  have hs := putS_le v m
  have hwr : IntKind.u64.wrap v = v := by rw [IntKind.wrap_u64]; omega
  have C1 := fun w => Lib.hid (Put_calls v m hv0 w)
  generalize putS v m = S at hs C1 ⊢
  have C2 := fun w hw hw2 => Lib.hid (wb_write B b l S w hw (by omega) hw2)
  have hD : Wr B b l w.drew := h
  go_enter Try.func58, Try.ntmps58
  go_region_with (first
    | (go_at_call 45; with_reducible refine ((C1 _).out).mono ?_; rintro e w1 ⟨rfl, hb1⟩; have h1 : Wr B b l w1 := wr_below hD hb1; have hz1 := hb1.size)
    | (go_at_call 59; with_reducible refine ((C2 _ h1 (by simp at hz1; omega)).out).mono ?_; rintro e w2 ⟨rfl, h2, hb2, _⟩))
  all_goals (go_wp2; go_end0; exact ⟨rfl, h2, (((Below.refl B w).drew).trans (hb1.mono hBw)).trans hb2⟩)

end Go.Proofs.Ytjfijllnmjajpaa
