/- Regions that draw their order, within a round of a loop over a function: they go as everywhere. -/
import Derived.Test.YtfigooilhnahfaaRange
import Derived.Deep.QuietTactic
import Derived.BigQuiet
import Derived.StillTailTactics
namespace Go.Proofs.Ytfigooilhnahfaa
open Go.RowKit

/-- no operation is a defer statement -/
def noDefer (ops : Array Oper) : Bool := ops.all fun o => match o.op with | .defer _ => false | _ => true

section
variable {P : Program} {ops : Array Oper} {Q : Exit → Act → World → Prop} {md : Region.Mode} {l n : Nat}

theorem oper_round {o : Oper} {a : Act} {w : World} {K K' : Act → World → Prop} (hd : ∀ c, o.op ≠ .defer c) (hQ : ¬ LetsOut Q) (hK : ∀ a w, K a w → K' a w) (h : o.wp P a w K Q) :
    o.wpIn (Fence.wide.inRound l) n P a w K' Q := by
  unfold Oper.wpIn
  refine ⟨fun _ _ => trivial, ?_⟩
  rw [Oper.semAt_plain (Fence.wide.inRound l) a.eval o hd]
  unfold Oper.wp at h
  generalize (execOp a.eval o).run P w = r at h ⊢
  cases r with
  | ok x w' =>
    cases x with
    | value v => exact hK _ _ h
    | skip => exact hK _ _ h
    | defer d => exact hK _ _ h
    | enter f args =>
      refine ⟨fun e => (by cases e), CallsIn.inRound l (callsIn_wide.2 (Calls.mono h fun e w'' he => ?_))⟩
      cases e with
      | returned v => exact hK _ _ he
      | panicked c => exact he
      | outgrown => exact he
    | row row args =>
      refine ⟨fun e => (by cases e), ?_⟩
      intro c cs _
      obtain ⟨v, w'', hv, hs⟩ := h c cs
      exact ⟨v, w'', hK _ _ hv, stepsIn_wide.2 hs⟩
    | _ => exact h.elim
  | halt x w' =>
    cases x with
    | panic v => exact h
    | _ => exact h.elim

theorem any_round (hd : noDefer ops = true) (hQ : ¬ LetsOut Q) : ∀ (fuel : Nat) (listed : Array Bool) (a : Act) (w : World), wpAny P md ops Q fuel listed a w → wpAnyIn (Fence.wide.inRound l) n P md ops Q fuel listed a w
  | 0, _, _, _, h => h
  | fuel + 1, listed, a, w, h => by
    refine ⟨h.1, fun i hi => ?_⟩
    have hi' := h.2 i hi
    unfold wpOp at hi'
    unfold wpOpIn
    cases ho : ops[i]? with
    | none => rw [ho] at hi'; exact any_round hd hQ fuel _ a w hi'
    | some o =>
      rw [ho] at hi'
      have hdo : ∀ c, o.op ≠ .defer c := fun c e => by
        have hm := Array.all_eq_true'.1 hd o (Array.mem_of_getElem? ho)
        rw [e] at hm
        cases hm
      dsimp only at hi' ⊢
      split
      · rename_i hw
        rw [if_pos hw] at hi'
        rcases hi' with hi' | ⟨_, hi'⟩
        · exact oper_round hdo hQ (fun a w => any_round hd hQ fuel _ a w) hi'
        · exact absurd hi' hQ
      · rename_i hw
        rw [if_neg hw] at hi'
        exact ⟨fun _ _ => trivial, any_round hd hQ fuel _ _ w hi'⟩

/-- only reads: one walk in the text's order -/
theorem round_quiet {id : Nat} {a : Act} {w : World} {ol : List Oper} (hm : P.follows .mixedOrders = true) (hB : Region.lexB .any ol.toArray = true) (hd : noDefer ol.toArray = true) (hQ : ¬ LetsOut Q)
    (h : wpQuiet P ol.toArray (fun w' => ∃ n, w' = w.drewN n) (fun a' => ∀ w', (∃ n, w' = w.drewN n) → Q .normal a' w') ol a) : (Code.region id ol.toArray true).wpIn (Fence.wide.inRound l) n P Q a w := by
  simp only [Region.lexB, Bool.and_eq_true] at hB
  refine wpIn_region_any hm (any_round hd hQ _ _ _ _ ?_)
  refine wpAny_of_quiet (C := fun w' => ∃ n, w' = w.drewN n) (Q := fun a' => ∀ w', (∃ n, w' = w.drewN n) → Q .normal a' w') (fun _ w' hw' h => h w' hw') _ _ _ _ ⟨1, rfl⟩ ?_
  have := wpAnyQ_lex (C := fun w' => ∃ n, w' = w.drewN n) (md := .any) hB.1 ol 0 (Array.replicate ol.toArray.size false) a (fun j => by simp) (by simpa using hB.2) h
  simpa using this

/-- reads, and then a store or the like -/
theorem round_tail {id : Nat} {a : Act} {w : World} {ol : List Oper} (k : Nat) (hm : P.follows .mixedOrders = true) (hB : Region.lexTailB .any ol.toArray k = true) (hd : noDefer ol.toArray = true) (hQ : ¬ LetsOut Q)
    (h : wpStill P ol.toArray w.drew (fun a' => wpList P ol.toArray Q (ol.drop k) a' w.drew) (ol.take k) a) : (Code.region id ol.toArray true).wpIn (Fence.wide.inRound l) n P Q a w := by
  refine wpIn_region_any hm (any_round hd hQ _ _ _ _ ?_)
  simp only [Region.lexTailB, Bool.and_eq_true, decide_eq_true_eq] at hB
  obtain ⟨⟨⟨⟨b1, b2⟩, b3⟩, b4⟩, b5⟩ := hB
  have hlen : ol.toArray.size = ol.length := by simp
  have e1 : (ol.take k).length = k := by rw [List.length_take]; omega
  have e2 : (ol.drop k).length = ol.toArray.size - k := by rw [List.length_drop, hlen]
  have inv : HeadInv .any ol.toArray k (Array.replicate ol.toArray.size false) := by
    refine ⟨by simp, ?_, ?_⟩
    · intro j oj _ hl
      rw [getD_replicate_false] at hl
      cases hl
    · intro t _ ht
      exact getD_in (by simpa using ht) (getD_replicate_false _ _)
  have key := wpAnyL_lex (md := .any) (g := ol.toArray.size - k) b1 b3 b4 b2 (ol.take k) 0 _ a (fun j hj => by
    have : j < k := by omega
    simp [this]) (by omega) inv (by rw [e1]; exact b5) h
  have fin := wpAny_of_head (Q' := Q) (g := ol.toArray.size - k) (fun listed a' hL => by
    have hs := wpAny_of_seq (md := .any) (Q' := Q) (ol.drop k) k listed a' w.drew (fun j => by simp [List.getElem?_drop]) (by rw [e2]; exact hL.1) hL.2
    rwa [e2] at hs) _ _ _ key
  rw [e1, show k + (ol.toArray.size - k) = ol.toArray.size by omega] at fin
  exact fin
end
end Go.Proofs.Ytfigooilhnahfaa
