/- ip4.Parse: what it answers. -/
import Derived.WalkKit
import Derived.Deep.CutRange
import Derived.Deep.RegionHeld3
import Derived.Lib.Hide
import Derived.Laws.IdiomStrings
import Derived.Test.YtjfijllnmjajpaaX4
namespace Go.Proofs.Ytjfijllnmjajpaa
open Go.RowKit Go.BigFrame

theorem st_field (W : World) (n : Nat) : (store ⟨W.heap.size, 0, none⟩ (.func (.func 65) #[] #[.pointer (some ⟨n, 0, none⟩)])).run Try.prog (W.alloc (.cells #[.nilFunc] 122)) = .ok () (W.alloc (.cells #[.func (.func 65) #[] #[.pointer (some ⟨n, 0, none⟩)]] 122)) := by
  rw [run_store Try.prog _ _ _ _ rfl]
  simp [go_sem]

theorem below_alloc' {W w : World} (h : Below W.heap.size W w) (o : Obj) : Below W.heap.size W (w.alloc o) := h.alloc h.size o
theorem below_set' {W w : World} (h : Below W.heap.size W w) {n : Nat} (hn : W.heap.size ≤ n) (v : Value) : Below W.heap.size W (w.setCell ⟨n, 0, none⟩ v) := h.setCell (p := ⟨n, 0, none⟩) hn v

theorem cell_set' {w : World} {n m : Nat} {v u : Value} (h : w.cell? ⟨n, 0, none⟩ = some u) (hn : n ≠ m) : (w.setCell ⟨m, 0, none⟩ v).cell? ⟨n, 0, none⟩ = some u := by
  rw [← h]
  exact World.cell?_of_block (Below.heap_setCell _ _ _ _ hn)

theorem cell_store {w : World} {n m i : Nat} {v u : Value} (hn : n ≠ m) (h : w.cell? ⟨n, 0, none⟩ = some u) : (w.setCell ⟨m, i, none⟩ v).cell? ⟨n, 0, none⟩ = some u := by
  rw [← h]
  exact World.cell?_of_block (Below.heap_setCell _ _ _ _ hn)
theorem ne_of_int {w : World} {n m T : Nat} {x : Int} {c : ByteArray} {a b : Value} (h : w.cell? ⟨n, 0, none⟩ = some (.int .i64 x)) (hr : w.heap[m]? = some (.cells #[.string c, a, b] T (0, 0))) : n ≠ m := by
  rintro rfl
  simp [World.cell?, hr] at h
theorem f4_ok {s : ByteArray} {z : Nat} {L : Int} (h : f4 s z L = 0) : 20 ≤ s.size ∧ 20 ≤ z ∧ z ≤ s.size ∧ (z : Int) ≤ L ∧ L ≤ (s.size : Int) := by
  unfold f4 at h
  split at h
  · cases h
  · rename_i h1
    split at h
    · cases h
    · split at h
      · cases h
      · rename_i h3
        simp at h1 h3
        omega
theorem set3' {w : World} {n T : Nat} {x y z : Value} (h : w.heap[n]? = some (.cells #[x, y, z] T (0, 0))) (a b c : Value) :
    (((w.setCell ⟨n, 0, none⟩ a).setCell ⟨n, 1, none⟩ b).setCell ⟨n, 2, none⟩ c).cell? ⟨n, 0, none⟩ = some a ∧
    (((w.setCell ⟨n, 0, none⟩ a).setCell ⟨n, 1, none⟩ b).setCell ⟨n, 2, none⟩ c).cell? ⟨n, 1, none⟩ = some b ∧
    (((w.setCell ⟨n, 0, none⟩ a).setCell ⟨n, 1, none⟩ b).setCell ⟨n, 2, none⟩ c).cell? ⟨n, 2, none⟩ = some c := by
  simp [World.setCell, World.cell?, Array.getElem?_modify, h]
theorem with_ {p q : Prop} (h : p) (k : p → q) : q := k h
theorem drew_c {w : World} {a : Addr} {u : Value} (h : w.cell? a = some u) : w.drew.cell? a = some u := h
theorem keep_c {w : World} {a : Addr} {u : Value} {o : Obj} (h : w.cell? a = some u) : (w.alloc o).cell? a = some u := (World.cell?_alloc_some w a o (by rw [h]; rfl)).trans h
theorem keep_f {w : World} {a : Addr} {u : Value} {o : Obj} (h : w.cell? a = some u) (hf : w.frozen? a = false) : (w.alloc o).frozen? a = false :=
  (World.frozen?_of_block (Below.heap_alloc _ _ _ (World.block_lt_of_cell? w a h))).trans hf

/-- What holds in the statement that takes the two lengths. -/
theorem field_in (s : ByteArray) (p m : Int) (b f : Nat) (W : World) (hs : s.size ≤ 4294967296) (hv : getV s p m ≤ 9223372036854775807) (w : World) (hS : Below W.heap.size W w ∧ w.cell? ⟨b, 0, none⟩ = some (.string s) ∧ w.cell? ⟨f, 0, none⟩ = some (.func (.func 65) #[] #[.pointer (some ⟨b, 0, none⟩)])) :
    Calls Try.prog 65 #[.int .i64 p, .int .i64 m, .pointer (some ⟨b, 0, none⟩)] w fun e w' => e = .returned (.int .i64 (getV s p m)) ∧ Below W.heap.size W w' ∧ w'.cell? ⟨b, 0, none⟩ = some (.string s) ∧ w'.cell? ⟨f, 0, none⟩ = some (.func (.func 65) #[] #[.pointer (some ⟨b, 0, none⟩)]) ∧ W.heap.size ≤ w'.heap.size ∧ (∀ n u, w.cell? ⟨n, 0, none⟩ = some u → w.frozen? ⟨n, 0, none⟩ = false → w'.cell? ⟨n, 0, none⟩ = some u ∧ w'.frozen? ⟨n, 0, none⟩ = false ∧ n < w'.heap.size) :=
  have ⟨hB, hc, hf⟩ := hS
  (field_calls s p m b (by omega) hv w hc).mono fun _ _ ⟨he, hb⟩ => ⟨he, hB.trans (hb.mono hB.size), (hb.cell (World.block_lt_of_cell? w _ hc)).trans hc, (hb.cell (World.block_lt_of_cell? w _ hf)).trans hf, Nat.le_trans hB.size hb.size, fun n u h hf => ⟨(hb.cell (World.block_lt_of_cell? w _ h)).trans h, (hb.frozen (World.block_lt_of_cell? w _ h)).trans hf, Nat.lt_of_lt_of_le (World.block_lt_of_cell? w _ h) hb.size⟩⟩

set_option maxHeartbeats 4000000 in
set_option maxRecDepth 100000 in
theorem i4_parse (s : ByteArray) (hs : s.size ≤ 4294967296) (F : Int) (hF : F = f4 s (getV s 0 1 % 16 * 4).toNat (getV s 2 2)) (w : World) :
    Calls Try.prog 51 #[.string s] w fun e w' => e = .returned (.tuple #[if F = 0 then .agg #[.string (s.extract 12 16), .string (s.extract 16 20), .int .i64 (getV s 9 1)] else .agg #[.string ⟨#[]⟩, .string ⟨#[]⟩, .int .i64 0],
      .string (if F = 0 then s.extract (getV s 0 1 % 16 * 4).toNat (getV s 2 2).toNat else ⟨#[]⟩), .int .i64 F]) ∧ Below w.heap.size w w' := by
  have hmf : ∀ (fn : Fn) (first cap : Array Value) (w : World), (Instr.makeFunc fn first cap).run Try.prog w = .ok (.func fn first cap) w := fun _ _ _ _ => rfl
  have hst1 := st_field ((w.alloc (.cells #[.string s] 9)).alloc (.cells #[.string ⟨#[]⟩, .string ⟨#[]⟩, .int .i64 0] 80)) w.heap.size
  simp only [World.size_alloc] at hst1
  have b1 := getV1_bd s 0
  have b2 := getV2_bd s 2
  have C1 := fun W wq hS => Lib.hid (field_in s 0 1 w.heap.size (w.heap.size + 1 + 1) W hs (by omega) wq hS)
  have C2 := fun W wq hS => Lib.hid (field_in s 2 2 w.heap.size (w.heap.size + 1 + 1) W hs (by omega) wq hS)
  have ha := i64_and15 (getV s 0 1) (by omega) (by omega)
  have hm : IntKind.i64.wrap (getV s 0 1 % 16 * 4) = getV s 0 1 % 16 * 4 := IntWalk.i64_in _ (by omega)
  have hF' := Lib.hid hF
  clear hF
  generalize getV s 0 1 = A at *
  generalize getV s 2 2 = L at *
  go_enter Try.func51, Try.ntmps51
  go_upto_region 2 with fail
  obtain ⟨W, hW⟩ : ∃ W : World, W = (((w.alloc (.cells #[.string s] 9)).alloc (.cells #[.string ⟨#[]⟩, .string ⟨#[]⟩, .int .i64 0] 80)).alloc (.cells #[.func (.func 65) #[] #[.pointer (some ⟨w.heap.size, 0, none⟩)]] 122)) := ⟨_, rfl⟩
  have hsz : W.heap.size = w.heap.size + 1 + 1 + 1 := by rw [hW]; simp only [World.size_alloc]
  have hs0 : W.cell? ⟨w.heap.size, 0, none⟩ = some (.string s) := by rw [hW]; simp [go_sem]
  have hf0 : W.cell? ⟨w.heap.size + 1 + 1, 0, none⟩ = some (.func (.func 65) #[] #[.pointer (some ⟨w.heap.size, 0, none⟩)]) := by rw [hW]; simp [go_sem]
  rw [← hW]
  have HW := Lib.hid hW
  have HZ := Lib.hid hsz
  have hlt2 : w.heap.size + 1 + 1 < W.heap.size := by omega
  have hlt0 : w.heap.size < W.heap.size := by omega
  clear hW hst1 hmf hsz
  go_cut [6, 7] from 10 to 15 (fun u6 u7 wx => ∃ n m : Nat, u6 = .pointer (some ⟨n, 0, none⟩) ∧ u7 = .pointer (some ⟨m, 0, none⟩) ∧ wx.cell? ⟨n, 0, none⟩ = some (.int .i64 (A % 16 * 4)) ∧ wx.cell? ⟨m, 0, none⟩ = some (.int .i64 L) ∧ Below W.heap.size W wx)
  case first =>
    go_region_held3 (fun w' => Below W.heap.size W w' ∧ w'.cell? ⟨w.heap.size, 0, none⟩ = some (.string s) ∧ w'.cell? ⟨w.heap.size + 1 + 1, 0, none⟩ = some (.func (.func 65) #[] #[.pointer (some ⟨w.heap.size, 0, none⟩)]))
      (first
        | (refine And.intro ?_ ?_; (try (repeat' (first | assumption | exact Below.refl _ _ | refine Below.drew ?_ | refine below_alloc' ?_ _ | refine below_set' ?_ ?_ _ | refine Nat.le_succ_of_le ?_ | refine Below.size (B := W.heap.size) ?_ | refine And.intro ?_ ?_ | refine drew_c ?_ | refine keep_c ?_ | refine cell_set' ?_ ?_ | omega | (go_keep; done))))))
      (first
        | (go_at_call 65; (with_reducible refine ((C1 W _ ?_).out).mono ?_); (focus (repeat' (first | assumption | exact Below.refl _ _ | refine Below.drew ?_ | refine below_alloc' ?_ _ | refine below_set' ?_ ?_ _ | refine Nat.le_succ_of_le ?_ | refine Below.size (B := W.heap.size) ?_ | refine And.intro ?_ ?_ | refine drew_c ?_ | refine keep_c ?_ | refine cell_set' ?_ ?_ | omega | (go_keep; done)))); rintro e w1 ⟨rfl, hb1, hc1, hf1, hz1, hk1⟩; (try (refine with_ (hk1 (W.heap.size) (.int .i64 0) ?_ ?_) ?_; (first | assumption | (refine keep_c ?_; assumption) | (refine keep_c (keep_c ?_); assumption) | simp [go_sem]); (first | assumption | (refine keep_f (u := .int .i64 0) ?_ ?_ <;> assumption) | (refine keep_f (u := .int .i64 0) (keep_c ?_) (keep_f (u := .int .i64 0) ?_ ?_) <;> assumption) | simp [go_sem]); rintro ⟨khk10, fhk10, zhk10⟩)); (try (refine with_ (hk1 (W.heap.size + 1) (.int .i64 0) ?_ ?_) ?_; (first | assumption | (refine keep_c ?_; assumption) | (refine keep_c (keep_c ?_); assumption) | simp [go_sem]); (first | assumption | (refine keep_f (u := .int .i64 0) ?_ ?_ <;> assumption) | (refine keep_f (u := .int .i64 0) (keep_c ?_) (keep_f (u := .int .i64 0) ?_ ?_) <;> assumption) | simp [go_sem]); rintro ⟨khk11, fhk11, zhk11⟩)); clear hk1)
        | (go_at_call 65; (with_reducible refine ((C2 W _ ?_).out).mono ?_); (focus (repeat' (first | assumption | exact Below.refl _ _ | refine Below.drew ?_ | refine below_alloc' ?_ _ | refine below_set' ?_ ?_ _ | refine Nat.le_succ_of_le ?_ | refine Below.size (B := W.heap.size) ?_ | refine And.intro ?_ ?_ | refine drew_c ?_ | refine keep_c ?_ | refine cell_set' ?_ ?_ | omega | (go_keep; done)))); rintro e w2 ⟨rfl, hb2, hc2, hf2, hz2, hk2⟩; (try (refine with_ (hk2 (W.heap.size) (.int .i64 0) ?_ ?_) ?_; (first | assumption | (refine keep_c ?_; assumption) | (refine keep_c (keep_c ?_); assumption) | simp [go_sem]); (first | assumption | (refine keep_f (u := .int .i64 0) ?_ ?_ <;> assumption) | (refine keep_f (u := .int .i64 0) (keep_c ?_) (keep_f (u := .int .i64 0) ?_ ?_) <;> assumption) | simp [go_sem]); rintro ⟨khk20, fhk20, zhk20⟩)); (try (refine with_ (hk2 (W.heap.size + 1) (.int .i64 0) ?_ ?_) ?_; (first | assumption | (refine keep_c ?_; assumption) | (refine keep_c (keep_c ?_); assumption) | simp [go_sem]); (first | assumption | (refine keep_f (u := .int .i64 0) ?_ ?_ <;> assumption) | (refine keep_f (u := .int .i64 0) (keep_c ?_) (keep_f (u := .int .i64 0) ?_ ?_) <;> assumption) | simp [go_sem]); rintro ⟨khk21, fhk21, zhk21⟩)); (try (refine with_ (hk2 (w1.heap.size) (.int .i64 0) ?_ ?_) ?_; (first | assumption | (refine keep_c ?_; assumption) | (refine keep_c (keep_c ?_); assumption) | simp [go_sem]); (first | assumption | (refine keep_f (u := .int .i64 0) ?_ ?_ <;> assumption) | (refine keep_f (u := .int .i64 0) (keep_c ?_) (keep_f (u := .int .i64 0) ?_ ?_) <;> assumption) | simp [go_sem]); rintro ⟨khk22, fhk22, zhk22⟩)); (try (refine with_ (hk2 (w1.heap.size + 1) (.int .i64 0) ?_ ?_) ?_; (first | assumption | (refine keep_c ?_; assumption) | (refine keep_c (keep_c ?_); assumption) | simp [go_sem]); (first | assumption | (refine keep_f (u := .int .i64 0) ?_ ?_ <;> assumption) | (refine keep_f (u := .int .i64 0) (keep_c ?_) (keep_f (u := .int .i64 0) ?_ ?_) <;> assumption) | simp [go_sem]); rintro ⟨khk23, fhk23, zhk23⟩)); clear hk2))
    all_goals
      go_wp2_with fail
      go_meet
      refine ⟨_, _, rfl, rfl, ?_, ?_, ?_⟩
      · first | (simp [go_sem, *]; done) | skip
      · first | (simp [go_sem, *]; done) | skip
      · (repeat' (first | assumption | exact Below.refl _ _ | refine Below.drew ?_ | refine below_alloc' ?_ _ | refine below_set' ?_ ?_ _ | refine Nat.le_succ_of_le ?_ | refine Below.size (B := W.heap.size) ?_))
  case rest =>
    obtain ⟨n, m, rfl, rfl, hn, hm', hbw⟩ := hcut
    have hmf : ∀ (fn : Fn) (first cap : Array Value) (w : World), (Instr.makeFunc fn first cap).run Try.prog w = .ok (.func fn first cap) w := fun _ _ _ _ => rfl
    have hsc : wc.cell? ⟨w.heap.size, 0, none⟩ = some (.string s) := (hbw.cell hlt0).trans hs0
    have hfc : wc.cell? ⟨w.heap.size + 1 + 1, 0, none⟩ = some (.func (.func 65) #[] #[.pointer (some ⟨w.heap.size, 0, none⟩)]) := (hbw.cell hlt2).trans hf0
    obtain ⟨z, hz⟩ : ∃ z : Nat, A % 16 * 4 = (z : Int) := ⟨(A % 16 * 4).toNat, by omega⟩
    rw [hz] at hn
    have hL : Looks s z L w.heap.size (w.heap.size + 1 + 1) n m wc.heap.size (wc.alloc (.cells #[.func (.func 67) #[] #[.pointer (some ⟨w.heap.size, 0, none⟩)], .int .i64 2, .func (.func 68) #[] #[.pointer (some ⟨w.heap.size + 1 + 1, 0, none⟩)], .int .i64 3, .func (.func 69) #[] #[.pointer (some ⟨n, 0, none⟩), .pointer (some ⟨w.heap.size, 0, none⟩), .pointer (some ⟨m, 0, none⟩)], .int .i64 4, .func (.func 70) #[] #[.pointer (some ⟨w.heap.size, 0, none⟩), .pointer (some ⟨n, 0, none⟩)], .int .i64 5, .func (.func 72) #[] #[.pointer (some ⟨w.heap.size + 1 + 1, 0, none⟩)], .int .i64 6] 125)) :=
      ⟨keep_c hsc, keep_c hfc, keep_c hn, keep_c hm', (World.cell?_alloc_mark wc _ _ (0, 0) 0).trans rfl, (World.cell?_alloc_mark wc _ _ (0, 0) 1).trans rfl, (World.cell?_alloc_mark wc _ _ (0, 0) 2).trans rfl, (World.cell?_alloc_mark wc _ _ (0, 0) 3).trans rfl, (World.cell?_alloc_mark wc _ _ (0, 0) 4).trans rfl, (World.cell?_alloc_mark wc _ _ (0, 0) 5).trans rfl, (World.cell?_alloc_mark wc _ _ (0, 0) 6).trans rfl, (World.cell?_alloc_mark wc _ _ (0, 0) 7).trans rfl, (World.cell?_alloc_mark wc _ _ (0, 0) 8).trans rfl, (World.cell?_alloc_mark wc _ _ (0, 0) 9).trans rfl⟩
    have C3 := Lib.hid (first4_calls s z L _ _ _ _ _ 5 hs _ hL)
    have hzt : (A % 16 * 4).toNat = z := by omega
    have hFz : f4 s z L = F := by rw [hF'.out, hzt]
    rw [hFz] at C3
    go_wp2_with (go_at_call 66; with_reducible refine (C3.out).mono ?_)
    rintro e w3 ⟨rfl, hb3⟩
    have hWr : W.heap[w.heap.size + 1]? = some (.cells #[.string ⟨#[]⟩, .string ⟨#[]⟩, .int .i64 0] 80 (0, 0)) := by
      rw [HW.out, Below.heap_alloc _ _ _ (by simp only [World.size_alloc]; omega)]
      have := heap_alloc_new (w.alloc (.cells #[.string s] 9)) (.cells #[.string ⟨#[]⟩, .string ⟨#[]⟩, .int .i64 0] 80)
      rw [World.size_alloc] at this
      exact this
    have hbW : Below W.heap.size W w3 := hbw.trans (((Below.refl _ _).alloc (Nat.le_refl _) _).mono hbw.size |>.trans (hb3.mono (by rw [World.size_alloc]; have := hbw.size; omega)))
    have hr3 := (hbW.block (w.heap.size + 1) (by have := HZ.out; omega)).trans hWr
    have hb0 : Below w.heap.size w W := by
      rw [HW.out]
      exact ((((Below.refl _ _).alloc (Nat.le_refl _) _).alloc (by simp only [World.size_alloc]; omega) _).alloc (by simp only [World.size_alloc]; omega) _)
    have hbF := hb0.trans (hbW.mono (by omega))
    have hL3 := hL.later hb3
    clear hL hbw hsc hfc hn hm' hb3 C3 hs0 hf0 hWr
    by_cases hF0 : F = 0
    · subst hF0
      obtain ⟨y1, y2, y3, y4, y5⟩ := f4_ok hFz
      obtain ⟨l, rfl⟩ : ∃ l : Nat, L = (l : Int) := ⟨L.toNat, by omega⟩
      have hb9 := getV1_bd s 9
      have C9 : Hid (Calls Try.prog 65 #[.int .i64 9, .int .i64 1, .pointer (some ⟨w.heap.size, 0, none⟩)] w3.drew fun e w' => e = .returned (.int .i64 (getV s 9 1)) ∧
          w'.cell? ⟨w.heap.size, 0, none⟩ = some (.string s) ∧ w'.cell? ⟨w.heap.size + 1 + 1, 0, none⟩ = some (.func (.func 65) #[] #[.pointer (some ⟨w.heap.size, 0, none⟩)]) ∧ w'.cell? ⟨n, 0, none⟩ = some (.int .i64 z) ∧ w'.cell? ⟨m, 0, none⟩ = some (.int .i64 l) ∧
          w'.heap[w.heap.size + 1]? = some (.cells #[.string ⟨#[]⟩, .string ⟨#[]⟩, .int .i64 0] 80 (0, 0)) ∧ Below w.heap.size w w' ∧
          w'.cell? ⟨w.heap.size + 1, 0, none⟩ = some (.string ⟨#[]⟩) ∧ w'.cell? ⟨w.heap.size + 1, 1, none⟩ = some (.string ⟨#[]⟩) ∧ w'.cell? ⟨w.heap.size + 1, 2, none⟩ = some (.int .i64 0) ∧
          w'.frozen? ⟨w.heap.size + 1, 0, none⟩ = false ∧ w'.frozen? ⟨w.heap.size + 1, 1, none⟩ = false ∧ w'.frozen? ⟨w.heap.size + 1, 2, none⟩ = false) := by
        refine Lib.hid ((field_calls s 9 1 w.heap.size (by omega) (by omega) w3.drew hL3.vs).mono ?_)
        rintro e w' ⟨he, hb⟩
        have hk : ∀ {p : Addr} {v : Value}, w3.cell? p = some v → w'.cell? p = some v := fun {p v} hc => (hb.cell (World.block_lt_of_cell? w3.drew _ hc)).trans hc
        have hr4 : w'.heap[w.heap.size + 1]? = some (.cells #[.string ⟨#[]⟩, .string ⟨#[]⟩, .int .i64 0] 80 (0, 0)) := (hb.block _ (Array.getElem?_eq_some_iff.1 hr3).1).trans hr3
        refine ⟨he, hk hL3.vs, hk hL3.vf, hk hL3.vn, hk hL3.vm, hr4, (hbF.drew).trans (hb.mono hbF.size), ?_, ?_, ?_, ?_, ?_, ?_⟩ <;> simp [World.cell?, World.frozen?, hr4]
      have x16 : (16 : Int) ≤ (s.size : Int) := by omega
      have x20 : (20 : Int) ≤ (s.size : Int) := by omega
      have xl : (l : Int) ≤ (s.size : Int) := by omega
      have xz : (z : Int) ≤ (l : Int) := by omega
      have xz' : z ≤ l := by omega
      have vs := hL3.vs
      have vf := hL3.vf
      have vn := hL3.vn
      have vm := hL3.vm
      have nn := ne_of_int vn hr3
      have nm := ne_of_int vm hr3
      have nb : w.heap.size ≠ w.heap.size + 1 := by omega
      have nf : w.heap.size + 1 + 1 ≠ w.heap.size + 1 := by omega
      obtain ⟨P9, hP9⟩ : ∃ P9, P9 = getV s 9 1 := ⟨_, rfl⟩
      rw [← hP9] at C9
      have HP := Lib.hid hP9
      clear hP9 hb9
      have HT := Lib.hid hzt
      clear y1 y2 y3 y4 y5 hFz hF' b1 b2 ha hm hz hzt C1 C2
      go_wp2_with fail
      go_region_held3 (fun w' => w'.cell? ⟨w.heap.size, 0, none⟩ = some (.string s) ∧ w'.cell? ⟨w.heap.size + 1 + 1, 0, none⟩ = some (.func (.func 65) #[] #[.pointer (some ⟨w.heap.size, 0, none⟩)]) ∧ w'.cell? ⟨n, 0, none⟩ = some (.int .i64 z) ∧ w'.cell? ⟨m, 0, none⟩ = some (.int .i64 l))
        (first
          | (refine ⟨?_, ?_, ?_, ?_⟩ <;> first | assumption | (refine drew_c ?_; assumption) | (refine cell_store ?_ (cell_store ?_ (cell_store ?_ ?_)) <;> assumption))
          | trace_state)
        (first
          | (go_at_call 65; (with_reducible refine (C9.out).mono ?_); rintro e w4 ⟨rfl, us, uf, un, um, hr4, hb4, r0, r1, r2, f0, f1, f2⟩))
      all_goals
        obtain ⟨s0, s1, s2⟩ := set3' hr4 (.string (s.extract 12 16)) (.string (s.extract 16 20)) (.int .i64 P9)
        go_wp2_with fail
        refine bodyPost_ret (v := .tuple #[.agg #[.string (s.extract 12 16), .string (s.extract 16 20), .int .i64 P9], .string (s.extract z l), .int .i64 0]) (by simp [results, Try.results51, go_sem, s0, s1, s2]) rfl ⟨by rw [HT.out, ← HP.out], ((hb4.setCell (p := ⟨w.heap.size + 1, 0, none⟩) (by show w.heap.size ≤ w.heap.size + 1; omega) _).setCell (p := ⟨w.heap.size + 1, 1, none⟩) (by show w.heap.size ≤ w.heap.size + 1; omega) _).setCell (p := ⟨w.heap.size + 1, 2, none⟩) (by show w.heap.size ≤ w.heap.size + 1; omega) _⟩
    · have d0 : (F != 0) = true := by simpa using hF0
      obtain ⟨s0, s1, s2⟩ := set3' hr3 (.string ⟨#[]⟩) (.string ⟨#[]⟩) (.int .i64 0)
      have r0 : w3.cell? ⟨w.heap.size + 1, 0, none⟩ = some (.string ⟨#[]⟩) := by simp [World.cell?, hr3]
      have r1 : w3.cell? ⟨w.heap.size + 1, 1, none⟩ = some (.string ⟨#[]⟩) := by simp [World.cell?, hr3]
      have r2 : w3.cell? ⟨w.heap.size + 1, 2, none⟩ = some (.int .i64 0) := by simp [World.cell?, hr3]
      have f0 : w3.frozen? ⟨w.heap.size + 1, 0, none⟩ = false := by simp [World.frozen?, hr3]
      have f1 : w3.frozen? ⟨w.heap.size + 1, 1, none⟩ = false := by simp [World.frozen?, hr3]
      have f2 : w3.frozen? ⟨w.heap.size + 1, 2, none⟩ = false := by simp [World.frozen?, hr3]
      clear hFz hF'
      go_wp2_with fail
      refine bodyPost_ret (v := .tuple #[.agg #[.string ⟨#[]⟩, .string ⟨#[]⟩, .int .i64 0], .string ⟨#[]⟩, .int .i64 F]) (by simp [results, Try.results51, go_sem, s0, s1, s2]) rfl ⟨rfl, ((hbF.setCell (p := ⟨w.heap.size + 1, 0, none⟩) (by show w.heap.size ≤ w.heap.size + 1; omega) _).setCell (p := ⟨w.heap.size + 1, 1, none⟩) (by show w.heap.size ≤ w.heap.size + 1; omega) _).setCell (p := ⟨w.heap.size + 1, 2, none⟩) (by show w.heap.size ≤ w.heap.size + 1; omega) _⟩
end Go.Proofs.Ytjfijllnmjajpaa
