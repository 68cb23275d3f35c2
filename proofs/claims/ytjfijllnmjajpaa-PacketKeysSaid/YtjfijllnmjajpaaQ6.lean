/- ip6.Parse: what it answers. -/
import Derived.WalkKit
import Derived.Deep.Cut
import Derived.Lib.Hide
import Derived.Laws.IdiomStrings
import Derived.Test.YtjfijllnmjajpaaP6
namespace Go.Proofs.Ytjfijllnmjajpaa
open Go.RowKit Go.BigFrame

set_option maxHeartbeats 1000000 in
set_option maxRecDepth 100000 in
theorem i6_short (s : ByteArray) (hs : s.size ≤ 9223372036854775807) (w : World) (h1 : s.size < 40) :
    Calls Try.prog 54 #[.string s] w fun e w' => e = .returned (.tuple #[.agg #[.string ⟨#[]⟩, .string ⟨#[]⟩, .int .i64 0], .string ⟨#[]⟩, .int .i64 2]) ∧ Below w.heap.size w w' := by
  have d1 : decide ((s.size : Int) < 40) = true := by simp; omega
  go_enter Try.func54, Try.ntmps54
  go_wp2
  refine bodyPost_ret (v := .tuple #[.agg #[.string ⟨#[]⟩, .string ⟨#[]⟩, .int .i64 0], .string ⟨#[]⟩, .int .i64 2]) (by simp [results, Try.results54, go_sem]) rfl ⟨rfl, (Below.refl _ _).alloc (Nat.le_refl _) _⟩

set_option maxHeartbeats 1000000 in
set_option maxRecDepth 100000 in
theorem i6_vers (s : ByteArray) (hs : s.size ≤ 9223372036854775807) (w : World) (h1 : ¬ s.size < 40) (h2 : byteN s 0 / 16 ≠ 6) :
    Calls Try.prog 54 #[.string s] w fun e w' => e = .returned (.tuple #[.agg #[.string ⟨#[]⟩, .string ⟨#[]⟩, .int .i64 0], .string ⟨#[]⟩, .int .i64 3]) ∧ Below w.heap.size w w' := by
  have d1 : decide ((s.size : Int) < 40) = false := by simp; omega
  have g0 : 0 < s.size := by omega
  have e0 := byteN_get s 0 g0
  have hb0 := byteN_lt s 0
  have d2 : ((byteN s 0 : Int) / 2 ^ 4 % 256 != 6) = true := by simp; omega
  have d2' : ((byteN s 0 : Int) / 16 != 6) = true := by simp; omega
  go_enter Try.func54, Try.ntmps54
  go_wp2
  refine bodyPost_ret (v := .tuple #[.agg #[.string ⟨#[]⟩, .string ⟨#[]⟩, .int .i64 0], .string ⟨#[]⟩, .int .i64 3]) (by simp [results, Try.results54, go_sem]) rfl ⟨rfl, (Below.refl _ _).alloc (Nat.le_refl _) _⟩


def n6 (k : Nat) : Nat := [4, 2, 1, 1, 16, 16].getD k 0
def q6 (k : Nat) : Nat := [0, 4, 6, 7, 8, 24, 40].getD k 0

/-- What ip6.Parse's cut leaves: the parts that are read, in cells that nothing has frozen. -/
theorem i6_cut (s : ByteArray) (hs : s.size ≤ 9223372036854775807) (h1 : ¬ s.size < 40) (w : World) (b : Nat) (hN : ∀ k, k < 6 → w.cell? ⟨b, k, none⟩ = some (.int .i64 (n6 k))) :
    Calls Try.prog 73 #[.string s, .slice (some ⟨b, 0, none⟩) 6 6] w fun e w' => ∃ g cap, e = .returned (.slice (some ⟨g, 0, none⟩) 7 cap) ∧ 7 ≤ cap ∧
      w'.cell? ⟨g, 1, none⟩ = some (.string (s.extract 4 6)) ∧ w'.cell? ⟨g, 2, none⟩ = some (.string (s.extract 6 7)) ∧ w'.cell? ⟨g, 4, none⟩ = some (.string (s.extract 8 24)) ∧
      w'.cell? ⟨g, 5, none⟩ = some (.string (s.extract 24 40)) ∧ w'.cell? ⟨g, 6, none⟩ = some (.string (s.extract 40 s.size)) ∧ Below w.heap.size w w' := by
  refine (cut_calls s b 6 6 n6 q6 w hN rfl (by intro k hk; rcases (show k = 0 ∨ k = 1 ∨ k = 2 ∨ k = 3 ∨ k = 4 ∨ k = 5 by omega) with rfl | rfl | rfl | rfl | rfl | rfl <;> rfl)
    (by intro k hk; rcases (show k = 0 ∨ k = 1 ∨ k = 2 ∨ k = 3 ∨ k = 4 ∨ k = 5 ∨ k = 6 by omega) with rfl | rfl | rfl | rfl | rfl | rfl | rfl <;> simp [q6] <;> omega) hs (by decide)).mono ?_
  rintro e w' ⟨v, rfl, hown, hb⟩
  obtain ⟨g, cap, cur, rfl, hbg, hg, hnc, _⟩ : ∃ g cap cur, v = .slice (some ⟨g, 0, none⟩) 7 cap ∧ w.heap.size ≤ g ∧ w'.heap[g]? = some (.cells cur 9 (0, 0)) ∧ 7 ≤ cap ∧ True := by
    rcases hown.2 with ⟨_, hz⟩ | ⟨g, cap, cur, hv, h1, h2, h3, _⟩
    · cases hz
    · exact ⟨g, cap, cur, hv, h1, h2, h3, trivial⟩
  refine ⟨g, cap, rfl, hnc, ?_, ?_, ?_, ?_, ?_, hb⟩
  all_goals (rw [hown.cellAt _ (by decide)]; rfl)

/-- The cells that ip6.Parse goes on with: the parts (block g), its result (block n). -/
structure Parts (s : ByteArray) (n g : Nat) (w : World) : Prop where
  c1 : w.cell? ⟨g, 1, none⟩ = some (.string (s.extract 4 6))
  c2 : w.cell? ⟨g, 2, none⟩ = some (.string (s.extract 6 7))
  c4 : w.cell? ⟨g, 4, none⟩ = some (.string (s.extract 8 24))
  c5 : w.cell? ⟨g, 5, none⟩ = some (.string (s.extract 24 40))
  c6 : w.cell? ⟨g, 6, none⟩ = some (.string (s.extract 40 s.size))
  r : w.heap[n]? = some (.cells #[.string ⟨#[]⟩, .string ⟨#[]⟩, .int .i64 0] 78 (0, 0))

theorem Parts.later {s : ByteArray} {n g : Nat} {w w' : World} (h : Parts s n g w) (hb : Below w.heap.size w w') : Parts s n g w' := by
  have hk : ∀ {p : Addr} {v : Value}, w.cell? p = some v → w'.cell? p = some v := fun {p v} hc => (hb.cell (World.block_lt_of_cell? w _ hc)).trans hc
  exact ⟨hk h.c1, hk h.c2, hk h.c4, hk h.c5, hk h.c6, (hb.block n (Array.getElem?_eq_some_iff.1 h.r).1).trans h.r⟩

theorem i6_parts (s : ByteArray) (hs : s.size ≤ 9223372036854775807) (h1 : ¬ s.size < 40) (w : World) :
    Calls Try.prog 73 #[.string s, .slice (some ⟨w.heap.size + 1, 0, none⟩) 6 6]
      ((w.alloc (.cells #[.string ⟨#[]⟩, .string ⟨#[]⟩, .int .i64 0] 78)).alloc (.cells #[.int .i64 4, .int .i64 2, .int .i64 1, .int .i64 1, .int .i64 16, .int .i64 16] 3))
      fun e w' => ∃ g cap, e = .returned (.slice (some ⟨g, 0, none⟩) 7 cap) ∧ Parts s w.heap.size g w' ∧ Below w.heap.size w w' := by
  obtain ⟨W, hW⟩ : ∃ W : World, W = w.alloc (.cells #[.string ⟨#[]⟩, .string ⟨#[]⟩, .int .i64 0] 78) := ⟨_, rfl⟩
  have hr : W.heap[w.heap.size]? = some (.cells #[.string ⟨#[]⟩, .string ⟨#[]⟩, .int .i64 0] 78 (0, 0)) := by rw [hW]; exact heap_alloc_new w _
  have hsz : W.heap.size = w.heap.size + 1 := by rw [hW, World.size_alloc]
  have hbW : Below w.heap.size w W := by rw [hW]; exact (Below.refl _ _).alloc (Nat.le_refl _) _
  rw [← hW, ← hsz]
  refine (i6_cut s hs h1 _ W.heap.size ?_).mono ?_
  · intro k hk
    have := World.cell?_alloc_mark W #[.int .i64 4, .int .i64 2, .int .i64 1, .int .i64 1, .int .i64 16, .int .i64 16] 3 (0, 0) k
    rw [this]
    rcases (show k = 0 ∨ k = 1 ∨ k = 2 ∨ k = 3 ∨ k = 4 ∨ k = 5 by omega) with rfl | rfl | rfl | rfl | rfl | rfl <;> rfl
  · rintro e w' ⟨g, cap, rfl, _, c1, c2, c4, c5, c6, hb⟩
    have hb2 : Below w.heap.size w w' := hbW.trans (((Below.refl _ W).alloc (Nat.le_refl _) (.cells #[.int .i64 4, .int .i64 2, .int .i64 1, .int .i64 1, .int .i64 16, .int .i64 16] 3)).mono hbW.size |>.trans (hb.mono (by rw [World.size_alloc]; have := hbW.size; omega)))
    refine ⟨g, cap, rfl, ⟨c1, c2, c4, c5, c6, ?_⟩, hb2⟩
    have hlt : w.heap.size < W.heap.size := by omega
    rw [hb.block _ (by rw [World.size_alloc]; omega), Below.heap_alloc _ _ _ hlt]
    exact hr

theorem getV_part (s : ByteArray) (h : 40 ≤ s.size) : getV (s.extract 4 6) 0 2 = getV s 4 2 := by
  have h1 : getB (s.extract 4 6) 0 2 = true := by rw [getB_iff]; simp; omega
  have h2 : getB s 4 2 = true := by rw [getB_iff]; omega
  rw [getV_yes h1, getV_yes h2]
  simp [ByteArray.data_extract, List.take_take]

theorem byte_part (s : ByteArray) (h : 40 ≤ s.size) (T : ByteArray) (hT : T = s.extract 6 7) (h0 : 0 < T.size) : T[0].toNat = byteN s 6 := by
  subst hT
  rw [← byteN_get s 6 (by omega)]
  rw [ByteArray.getElem_extract]

theorem set3 {w : World} {n T : Nat} {x y z : Value} (h : w.heap[n]? = some (.cells #[x, y, z] T (0, 0))) (a b c : Value) :
    (((w.setCell ⟨n, 0, none⟩ a).setCell ⟨n, 1, none⟩ b).setCell ⟨n, 2, none⟩ c).cell? ⟨n, 0, none⟩ = some a ∧
    (((w.setCell ⟨n, 0, none⟩ a).setCell ⟨n, 1, none⟩ b).setCell ⟨n, 2, none⟩ c).cell? ⟨n, 1, none⟩ = some b ∧
    (((w.setCell ⟨n, 0, none⟩ a).setCell ⟨n, 1, none⟩ b).setCell ⟨n, 2, none⟩ c).cell? ⟨n, 2, none⟩ = some c := by
  simp [World.setCell, World.cell?, Array.getElem?_modify, h]

theorem Parts.res {s : ByteArray} {n g : Nat} {w : World} (h : Parts s n g w) : (w.cell? ⟨n, 0, none⟩ = some (.string ⟨#[]⟩) ∧ w.cell? ⟨n, 1, none⟩ = some (.string ⟨#[]⟩) ∧ w.cell? ⟨n, 2, none⟩ = some (.int .i64 0)) ∧ ∀ j, w.frozen? ⟨n, j, none⟩ = false := by
  refine ⟨⟨?_, ?_, ?_⟩, fun j => ?_⟩
  · simp [World.cell?, h.r]
  · simp [World.cell?, h.r]
  · simp [World.cell?, h.r]
  · simp [World.frozen?, h.r]

set_option maxHeartbeats 1000000 in
set_option maxRecDepth 100000 in
theorem i6_long (s : ByteArray) (hs : s.size ≤ 9223372036854775807) (w : World) (h1 : ¬ s.size < 40) (h2 : byteN s 0 / 16 = 6) (h3 : (s.size : Int) - 40 < getV s 4 2) :
    Calls Try.prog 54 #[.string s] w fun e w' => e = .returned (.tuple #[.agg #[.string ⟨#[]⟩, .string ⟨#[]⟩, .int .i64 0], .string ⟨#[]⟩, .int .i64 4]) ∧ Below w.heap.size w w' := by
  have d1 : decide ((s.size : Int) < 40) = false := by simp; omega
  have g0 : 0 < s.size := by omega
  have e0 := byteN_get s 0 g0
  have hb0 := byteN_lt s 0
  have hb6 := byteN_lt s 6
  have d2 : ((byteN s 0 : Int) / 2 ^ 4 % 256 != 6) = false := by simp; omega
  have d2' : ((byteN s 0 : Int) / 16 != 6) = false := by simp; omega
  have C1 := Lib.hid (i6_parts s hs h1 w)
  have hgv := getV_part s (by omega)
  have C2 := fun w => Lib.hid (Get_calls (s.extract 4 6) 0 2 (by simp; omega) w)
  rw [hgv] at C2
  have hvb := getV2_bd s 4
  generalize getV s 4 2 = V at *
  go_enter Try.func54, Try.ntmps54
  go_wp2_with (go_at_call 73; with_reducible refine (C1.out).mono ?_)
  rintro e w1 ⟨g, cap, rfl, hP, hb1⟩
  have c1 := hP.c1
  go_wp2_with (go_at_call 33; with_reducible refine ((C2 _).out).mono ?_)
  rintro e w2 ⟨rfl, hb2⟩
  replace hP := hP.later hb2
  have hb := hb1.trans (hb2.mono hb1.size)
  clear c1 hb1 hb2
  obtain ⟨R, hR⟩ : ∃ R, R = s.extract 40 s.size := ⟨_, rfl⟩
  have hRs : R.size = s.size - 40 := by rw [hR]; simp
  have c6 : w2.cell? ⟨g, 6, none⟩ = some (.string R) := by rw [hR]; exact hP.c6
  have HR := Lib.hid hR
  clear hR
  have hw : IntKind.u64.wrap (R.size : Int) = (R.size : Int) := by rw [IntKind.wrap_u64]; omega
  have d3 : decide ((R.size : Int) < V) = true := by simp; omega
  obtain ⟨⟨r0, r1, r2⟩, fz⟩ := hP.res
  have f0 := fz 0
  have f1 := fz 1
  have f2 := fz 2
  clear fz
  obtain ⟨s0, s1, s2⟩ := set3 hP.r (.string ⟨#[]⟩) (.string ⟨#[]⟩) (.int .i64 0)
  go_wp2_with fail
  refine bodyPost_ret (v := .tuple #[.agg #[.string ⟨#[]⟩, .string ⟨#[]⟩, .int .i64 0], .string ⟨#[]⟩, .int .i64 4]) (by simp [results, Try.results54, go_sem, s0, s1, s2]) rfl ⟨rfl, ((hb.setCell (p := ⟨w.heap.size, 0, none⟩) (Nat.le_refl _) _).setCell (p := ⟨w.heap.size, 1, none⟩) (Nat.le_refl _) _).setCell (p := ⟨w.heap.size, 2, none⟩) (Nat.le_refl _) _⟩

set_option maxHeartbeats 1000000 in
set_option maxRecDepth 100000 in
theorem i6_ok (s : ByteArray) (hs : s.size ≤ 9223372036854775807) (w : World) (h1 : ¬ s.size < 40) (h2 : byteN s 0 / 16 = 6) (h3 : ¬ (s.size : Int) - 40 < getV s 4 2) :
    Calls Try.prog 54 #[.string s] w fun e w' => e = .returned (.tuple #[.agg #[.string (s.extract 8 24), .string (s.extract 24 40), .int .i64 (byteN s 6 : Int)], .string (s.extract 40 (40 + (getV s 4 2).toNat)), .int .i64 0]) ∧ Below w.heap.size w w' := by
  have d1 : decide ((s.size : Int) < 40) = false := by simp; omega
  have g0 : 0 < s.size := by omega
  have e0 := byteN_get s 0 g0
  have hb0 := byteN_lt s 0
  have hb6 := byteN_lt s 6
  have d2 : ((byteN s 0 : Int) / 2 ^ 4 % 256 != 6) = false := by simp; omega
  have d2' : ((byteN s 0 : Int) / 16 != 6) = false := by simp; omega
  have C1 := Lib.hid (i6_parts s hs h1 w)
  have hgv := getV_part s (by omega)
  have C2 := fun w => Lib.hid (Get_calls (s.extract 4 6) 0 2 (by simp; omega) w)
  rw [hgv] at C2
  have hvb := getV2_bd s 4
  obtain ⟨V, hV⟩ : ∃ V : Nat, getV s 4 2 = (V : Int) := ⟨(getV s 4 2).toNat, by omega⟩
  simp only [hV] at C2
  rw [hV] at h3 hvb
  rw [hV, Int.toNat_natCast]
  have h3' : (V : Int) ≤ (s.size : Int) - 40 := by omega
  clear hV hgv h3
  have hw6 : wrap64 (byteN s 6 : Int) = (byteN s 6 : Int) := by unfold wrap64; omega
  go_enter Try.func54, Try.ntmps54
  go_wp2_with (go_at_call 73; with_reducible refine (C1.out).mono ?_)
  rintro e w1 ⟨g, cap, rfl, hP, hb1⟩
  have c1 := hP.c1
  go_wp2_with (go_at_call 33; with_reducible refine ((C2 _).out).mono ?_)
  rintro e w2 ⟨rfl, hb2⟩
  replace hP := hP.later hb2
  have hb := hb1.trans (hb2.mono hb1.size)
  clear c1 hb1 hb2
  obtain ⟨R, hR⟩ : ∃ R, R = s.extract 40 s.size := ⟨_, rfl⟩
  have hRs : R.size = s.size - 40 := by rw [hR]; simp
  have c6 : w2.cell? ⟨g, 6, none⟩ = some (.string R) := by rw [hR]; exact hP.c6
  have HR := Lib.hid hR
  clear hR
  obtain ⟨T, hT⟩ : ∃ T, T = s.extract 6 7 := ⟨_, rfl⟩
  have hT0 : 0 < T.size := by rw [hT]; simp; omega
  have eT := byte_part s (by omega) T hT hT0
  have c2 : w2.drew.cell? ⟨g, 2, none⟩ = some (.string T) := by rw [hT]; exact hP.c2
  have c4 : w2.drew.cell? ⟨g, 4, none⟩ = some (.string (s.extract 8 24)) := hP.c4
  have c5 : w2.drew.cell? ⟨g, 5, none⟩ = some (.string (s.extract 24 40)) := hP.c5
  have hTT := Lib.hid hT
  clear hT
  have hw : IntKind.u64.wrap (R.size : Int) = (R.size : Int) := by rw [IntKind.wrap_u64]; omega
  have d3 : decide ((R.size : Int) < (V : Int)) = false := by simp; omega
  have d4 : (V : Int) ≤ (R.size : Int) := by omega
  have hRV : R.extract 0 V = s.extract 40 (40 + V) := by rw [HR.out]; exact bx_head s 40 V (by omega)
  obtain ⟨⟨r0, r1, r2⟩, fz⟩ := hP.res
  have f0 := fz 0
  have f1 := fz 1
  have f2 := fz 2
  have r0' : w2.drew.cell? ⟨w.heap.size, 0, none⟩ = some (.string ⟨#[]⟩) := r0
  have r1' : w2.drew.cell? ⟨w.heap.size, 1, none⟩ = some (.string ⟨#[]⟩) := r1
  have r2' : w2.drew.cell? ⟨w.heap.size, 2, none⟩ = some (.int .i64 0) := r2
  have f0' : w2.drew.frozen? ⟨w.heap.size, 0, none⟩ = false := fz 0
  have f1' : w2.drew.frozen? ⟨w.heap.size, 1, none⟩ = false := fz 1
  have f2' : w2.drew.frozen? ⟨w.heap.size, 2, none⟩ = false := fz 2
  clear fz hRs h3'
  go_wp2_with fail
  go_region
  all_goals
    obtain ⟨s0, s1, s2⟩ := set3 hP.r (.string (s.extract 8 24)) (.string (s.extract 24 40)) (.int .i64 (byteN s 6 : Int))
    go_wp2_with fail
    refine bodyPost_ret (v := .tuple #[.agg #[.string (s.extract 8 24), .string (s.extract 24 40), .int .i64 (byteN s 6 : Int)], .string (s.extract 40 (40 + V)), .int .i64 0]) (by simp [results, Try.results54, go_sem, s0, s1, s2]) rfl ⟨rfl, (((hb.setCell (p := ⟨w.heap.size, 0, none⟩) (Nat.le_refl _) _).setCell (p := ⟨w.heap.size, 1, none⟩) (Nat.le_refl _) _).setCell (p := ⟨w.heap.size, 2, none⟩) (Nat.le_refl _) _).drew⟩

theorem ip6Parse_calls (s : ByteArray) (hs : s.size ≤ 9223372036854775807) (w : World) :
    Calls Try.prog 54 #[.string s] w fun e w' => e = .returned (.tuple #[.agg #[.string (p6S s), .string (p6D s), .int .i64 (p6P s)], .string (p6R s), .int .i64 (p6E s)]) ∧ Below w.heap.size w w' := by
  by_cases h1 : s.size < 40
  · simpa [p6S, p6D, p6P, p6R, p6E, h1] using i6_short s hs w h1
  · by_cases h2 : byteN s 0 / 16 = 6
    · by_cases h3 : (s.size : Int) - 40 < getV s 4 2
      · simpa [p6S, p6D, p6P, p6R, p6E, h1, h2, h3] using i6_long s hs w h1 h2 h3
      · simpa [p6S, p6D, p6P, p6R, p6E, h1, h2, h3] using i6_ok s hs w h1 h2 h3
    · simpa [p6S, p6D, p6P, p6R, p6E, h1, h2] using i6_vers s hs w h1 h2
end Go.Proofs.Ytjfijllnmjajpaa
