/- A region that draws its order, inside a round of a range over a function: where no operation of it is a call, what the plain calculus shows of every order serves the round too; and where all operations but a last few leave the world alone, one walk in the order of the text serves every order. -/
import Derived.Shelf.RegionOpen
import Derived.WalkKit
import Derived.StillTailTactics
namespace Go.Proofs.Ytjfijllnmjajpaa
/-- An operation that calls nothing, defers nothing, sends and receives nothing. -/
def plainB : Op → Bool
  | .move _ | .assign _ | .pick .. | .load .. | .store .. | .binOp .. | .unOp .. | .convert .. | .index .. | .indexAddr .. | .slice .. | .field .. | .fieldAddr .. | .extract .. => true
  | _ => false

/-- What such an operation comes to: a value, nothing, or an end. -/
def flatR : Result Next → Prop
  | .ok (.value _) _ | .ok .skip _ => True
  | .ok _ _ => False
  | .halt _ _ => True

theorem flat_value {P : Program} {w : World} (s : Sem Value) : flatR ((do pure (.value (← s)) : Sem Next).run P w) := by
  simp only [Sem.run_bind]
  cases s.run P w <;> simp [flatR, Result.andThen]
theorem flat_skip {P : Program} {w : World} (s : Sem Unit) : flatR ((do s; pure .skip : Sem Next).run P w) := by
  simp only [Sem.run_bind]
  cases s.run P w <;> simp [flatR, Result.andThen]
theorem flat_of_plain {P : Program} {w : World} {ρ : Operand → Value} {o : Oper} (h : plainB o.op = true) : flatR ((execOp ρ o).run P w) := by
  unfold execOp
  cases ho : o.op <;> rw [ho] at h <;> first | cases h; done | skip
  case move => simp [flatR]
  case assign => simp [flatR]
  case pick c a b =>
    simp only [Sem.run_bind]
    cases (asBool (ρ c)).run P w <;> simp [flatR, Result.andThen]
  case store => exact flat_skip _
  all_goals exact flat_value _

section
variable {F : Fence} {n : Nat} {P : Program} {ops : Array Oper} {Q : Exit → Act → World → Prop} {md : Region.Mode}

theorem wpIn_of_plain {o : Oper} {a : Act} {w : World} {K : Act → World → Prop} (h : plainB o.op = true) (hh : o.wp P a w K Q) : o.wpIn F n P a w K Q := by
  have hd : ∀ c, o.op ≠ .defer c := fun c e => by rw [e] at h; cases h
  refine ⟨fun f hf => ?_, ?_⟩
  · unfold Oper.about at hf
    cases ho : o.op <;> simp only [ho] at hf <;> first | cases hf; done | (rw [ho] at h; cases h)
  · rw [Oper.semAt_eq _ _ _ hd]
    have hfl := flat_of_plain (P := P) (w := w) (ρ := a.eval) h
    unfold Oper.wp at hh
    generalize (execOp a.eval o).run P w = r at *
    cases r with
    | ok x w' => cases x <;> first | exact hh | exact hfl.elim
    | halt x w' => cases x <;> exact hh

theorem wpOpIn_of_plain (hops : ∀ o ∈ ops, plainB o.op = true) (hQ : ¬ LetsOut Q) {i : Nat} {a : Act} {w : World} {K K' : Act → World → Prop} (h : ∀ a w, K a w → K' a w) (hh : wpOp P ops Q i K a w) : wpOpIn F n P ops Q i K' a w := by
  unfold wpOp at hh
  unfold wpOpIn
  cases ho : ops[i]? with
  | none => simp only [ho] at hh; exact h _ _ hh
  | some o =>
    simp only [ho] at hh
    have hp : plainB o.op = true := hops o (Array.mem_of_getElem? ho)
    by_cases hw : Region.wanted o (yielded ops a.tmps) = true
    · simp only [hw, if_true] at hh ⊢
      rcases hh with hh | ⟨_, hl⟩
      · exact Oper.wpIn_mono h (wpIn_of_plain hp hh)
      · exact absurd hl hQ
    · simp only [hw, if_false, Bool.false_eq_true] at hh ⊢
      refine ⟨fun f hf => ?_, h _ _ hh⟩
      unfold Oper.about at hf
      cases ho : o.op <;> simp only [ho] at hf <;> first | cases hf; done | (rw [ho] at hp; cases hp)

theorem wpAnyIn_of_plain (hops : ∀ o ∈ ops, plainB o.op = true) (hQ : ¬ LetsOut Q) : ∀ (fuel : Nat) (listed : Array Bool) (a : Act) (w : World), wpAny P md ops Q fuel listed a w → wpAnyIn F n P md ops Q fuel listed a w
  | 0, _, _, _, h => h
  | fuel + 1, _, _, _, h => ⟨h.1, fun i hi => wpOpIn_of_plain hops hQ (fun a' w' => wpAnyIn_of_plain hops hQ fuel _ a' w') (h.2 i hi)⟩

/-- All operations but the last few leave the world alone: one walk, in the order of the text. -/
theorem wpIn_region_round_tail {id : Nat} {a : Act} {w : World} {l : List Oper} (m : Nat) (hm : P.follows .mixedOrders = true) (hQ : ¬ LetsOut Q) (hops : l.all (fun o => plainB o.op) = true) (hB : Region.lexTailB .any l.toArray m = true)
    (h : wpStill P l.toArray { w with drawn := w.drawn + 1 } (fun a' => wpList P l.toArray Q (l.drop m) a' { w with drawn := w.drawn + 1 }) (l.take m) a) : (Code.region id l.toArray true).wpIn F n P Q a w := by
  simp only [Region.lexTailB, Bool.and_eq_true, decide_eq_true_eq] at hB
  obtain ⟨⟨⟨⟨hsel, hn⟩, hs⟩, hc⟩, hlex⟩ := hB
  have hn' : m < l.length := by simpa using hn
  have htl : (l.take m).length = m := by simp; omega
  have hdl : (l.drop m).length = l.toArray.size - m := by simp
  have inv0 : HeadInv .any l.toArray m (Array.replicate l.toArray.size false) :=
    ⟨by simp, fun j oj _ hl => (by rw [getD_replicate_false] at hl; cases hl), fun t _ ht => getD_in (by simpa using ht) (getD_replicate_false _ _)⟩
  have H := wpAnyL_lex (md := .any) (g := l.toArray.size - m) hsel hs hc hn (l.take m) 0 _ a (fun j hj => by
    have hj' : j < m := by rw [htl] at hj; exact hj
    simp [hj']) (by simpa using htl) inv0 (by rw [htl]; exact hlex) h
  refine wpIn_region_any hm (wpAnyIn_of_plain (fun o ho => by simpa using List.all_eq_true.1 hops o (by simpa using ho)) hQ _ _ _ _ ?_)
  have := wpAny_of_head (Q' := Q) (g := l.toArray.size - m) (fun listed a' hL => by
    have := wpAny_of_seq (md := .any) (Q' := Q) (l.drop m) m listed a' { w with drawn := w.drawn + 1 } (fun j => by simp [List.getElem?_drop]) (by rw [hdl]; exact hL.1) hL.2
    rwa [hdl] at this) _ _ _ H
  rw [htl, show m + (l.toArray.size - m) = l.toArray.size by omega] at this
  exact this
end
end Go.Proofs.Ytjfijllnmjajpaa
