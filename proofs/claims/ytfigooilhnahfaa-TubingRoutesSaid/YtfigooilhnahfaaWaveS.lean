/- The waves, in plain Lean: what the walk of the iterator needs. -/
import Derived.Test.YtfigooilhnahfaaSpec
namespace Go.Proofs.Ytfigooilhnahfaa

theorem addN_snoc (seen next qs : List Pt) (q : Pt) : addN seen next (qs ++ [q]) =
    if q ∈ (addN seen next qs).1 then addN seen next qs else (q :: (addN seen next qs).1, (addN seen next qs).2 ++ [q]) := by
  induction qs generalizing seen next with
  | nil => by_cases h : q ∈ seen <;> simp [addN, h]
  | cons a qs ih =>
    simp only [List.cons_append, addN]
    split
    · exact ih _ _
    · exact ih _ _
theorem expand_snoc (g : Gr) (seen next ps : List Pt) (p : Pt) : expand g seen next (ps ++ [p]) = addN (expand g seen next ps).1 (expand g seen next ps).2 (near g p) := by
  induction ps generalizing seen next with
  | nil => simp [expand]
  | cons a ps ih => simp only [List.cons_append, expand]; exact ih _ _
theorem near_inside {g : Gr} {p q : Pt} (h : q ∈ near g p) : inside g q = true := by
  unfold near at h
  have := (List.mem_filter.1 h).2
  unfold opn at this
  simp only [Bool.and_eq_true] at this
  exact this.1
theorem near_opn {g : Gr} {p q : Pt} (h : q ∈ near g p) : opn g q = true := (List.mem_filter.1 h).2

/-- what holds of the cells seen and those of the next wave -/
structure WI (g : Gr) (seen next : List Pt) : Prop where
  nd : seen.Nodup
  ins : ∀ q ∈ seen, inside g q = true
  sub : ∀ q ∈ next, q ∈ seen
theorem addN_inv {g : Gr} : ∀ (qs seen next : List Pt), WI g seen next → (∀ q ∈ qs, inside g q = true) →
    WI g (addN seen next qs).1 (addN seen next qs).2 ∧ (addN seen next qs).1.length + next.length = seen.length + (addN seen next qs).2.length := by
  intro qs
  induction qs with
  | nil => intro seen next h _; exact ⟨h, rfl⟩
  | cons a qs ih =>
    intro seen next h hq
    unfold addN
    split
    · exact ih _ _ h (fun q hq' => hq q (List.mem_cons_of_mem _ hq'))
    · rename_i hn
      have := ih (a :: seen) (next ++ [a]) ⟨List.nodup_cons.2 ⟨hn, h.nd⟩, fun q hq' => by
        rcases List.mem_cons.1 hq' with rfl | hq'
        · exact hq _ (List.mem_cons_self ..)
        · exact h.ins _ hq', fun q hq' => by
        rcases List.mem_append.1 hq' with hq' | hq'
        · exact List.mem_cons_of_mem _ (h.sub _ hq')
        · simp at hq'; subst hq'; exact List.mem_cons_self ..⟩ (fun q hq' => hq q (List.mem_cons_of_mem _ hq'))
      refine ⟨this.1, ?_⟩
      have := this.2
      simp at this
      omega
theorem expand_inv {g : Gr} : ∀ (ps seen next : List Pt), WI g seen next →
    WI g (expand g seen next ps).1 (expand g seen next ps).2 ∧ (expand g seen next ps).1.length + next.length = seen.length + (expand g seen next ps).2.length := by
  intro ps
  induction ps with
  | nil => intro seen next h; exact ⟨h, rfl⟩
  | cons a ps ih =>
    intro seen next h
    unfold expand
    have h1 := addN_inv (near g a) seen next h (fun q hq => near_inside hq)
    have h2 := ih _ _ h1.1
    refine ⟨h2.1, ?_⟩
    have := h1.2; have := h2.2
    omega

theorem nodup_lt : ∀ (n : Nat) (l : List Nat), l.Nodup → (∀ x ∈ l, x < n) → l.length ≤ n := by
  intro n
  induction n with
  | zero =>
    intro l _ h
    cases l with
    | nil => simp
    | cons a l => exact absurd (h a (List.mem_cons_self ..)) (Nat.not_lt_zero _)
  | succ n ih =>
    intro l hn h
    have h1 := ih (l.erase n) (hn.erase n) (fun x hx => by
      have hm := (List.Nodup.mem_erase_iff hn).1 hx
      have := h x hm.2
      have := hm.1
      omega)
    have h2 : l.length ≤ (l.erase n).length + 1 := by
      rw [List.length_erase]
      split <;> omega
    omega
def idx (p : Pt) : Nat := p.1.toNat * 64 + p.2.toNat
def InG (p : Pt) : Prop := 0 ≤ p.1 ∧ p.1 < 64 ∧ 0 ≤ p.2 ∧ p.2 < 64
theorem idx_inj {p q : Pt} (hp : InG p) (hq : InG q) (h : idx p = idx q) : p = q := by
  obtain ⟨a, b⟩ := p
  obtain ⟨c, d⟩ := q
  unfold InG idx at *
  dsimp only at *
  have h1 : a = c := by omega
  have h2 : b = d := by omega
  rw [h1, h2]
theorem idx_lt {p : Pt} (hp : InG p) : idx p < 4096 := by unfold InG idx at *; omega
theorem inG_of {g : Gr} {p : Pt} (hr : Right g) (h : inside g p = true) : InG p := by
  unfold inside at h
  simp only [Bool.and_eq_true, decide_eq_true_eq] at h
  have := hr.r2; have := hr.c2
  unfold InG
  omega
theorem nodup_pts {l : List Pt} (hn : l.Nodup) (h : ∀ p ∈ l, InG p) : l.length ≤ 4096 := by
  rw [← List.length_map (f := idx)]
  refine nodup_lt 4096 _ ?_ ?_
  · unfold List.Nodup at *
    rw [List.pairwise_map]
    refine List.Pairwise.imp_of_mem ?_ hn
    intro a b ha hb hab e
    exact hab (idx_inj (h a ha) (h b hb) e)
  · intro x hx
    obtain ⟨p, hp, rfl⟩ := List.mem_map.1 hx
    exact idx_lt (h p hp)
theorem WI.len {g : Gr} {seen next : List Pt} (h : WI g seen next) (hr : Right g) : seen.length ≤ 4096 := nodup_pts h.nd (fun p hp => inG_of hr (h.ins p hp))

/-- the waves from a state on, unfolded once -/
theorem waves_step (g : Gr) (f : Nat) (seen now : List Pt) (far : Nat) (h : now ≠ []) :
    waves g (f + 1) seen now far = now.map (fun p => (p, far)) ++ waves g f (expand g seen [] now).1 (expand g seen [] now).2 (far + 1) := by
  rw [waves, if_neg h]
theorem waves_nil (g : Gr) (f : Nat) (seen : List Pt) (far : Nat) : waves g f seen [] far = [] := by
  cases f with
  | zero => rfl
  | succ f => rw [waves, if_pos rfl]
end Go.Proofs.Ytfigooilhnahfaa
