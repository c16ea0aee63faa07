/- The parts of a grid, in plain Lean. -/
import Derived.Test.YtfigooilhnahfaaMeet
namespace Go.Proofs.Ytfigooilhnahfaa

def ins (S : List Pt) (a : Pt) : List Pt := if a ∈ S then S else a :: S
def insAll (S l : List Pt) : List Pt := l.foldl ins S
theorem ins_mem (S : List Pt) (a x : Pt) : x ∈ ins S a ↔ x ∈ S ∨ x = a := by
  unfold ins
  split
  · rename_i h
    constructor
    · exact .inl
    · rintro (h1 | rfl)
      · exact h1
      · exact h
  · rw [List.mem_cons]
    constructor
    · rintro (h | h)
      · exact .inr h
      · exact .inl h
    · rintro (h | h)
      · exact .inr h
      · exact .inl h
theorem insAll_mem (l : List Pt) : ∀ (S : List Pt) (x : Pt), x ∈ insAll S l ↔ x ∈ S ∨ x ∈ l := by
  induction l with
  | nil => intro S x; simp [insAll]
  | cons a l ih =>
    intro S x
    show x ∈ insAll (ins S a) l ↔ _
    rw [ih, ins_mem, List.mem_cons]
    constructor
    · rintro ((h | h) | h)
      · exact .inl h
      · exact .inr (.inl h)
      · exact .inr (.inr h)
    · rintro (h | h | h)
      · exact .inl (.inl h)
      · exact .inl (.inr h)
      · exact .inr h
theorem insAll_snoc (S l : List Pt) (a : Pt) : insAll S (l ++ [a]) = ins (insAll S l) a := by
  unfold insAll
  rw [List.foldl_append]
  rfl

def partStep (g : Gr) (s : List Pt × List Int) (p : Pt) : List Pt × List Int :=
  if p ∈ s.1 then s else if blk g p = true then s else (insAll s.1 ((wave g p).map (·.1)), s.2 ++ [((wave g p).length : Int)])
/-- the cells seen and the sizes of the parts, behind the first k cells -/
def partK (g : Gr) : Nat → List Pt × List Int
  | 0 => ([], [])
  | k + 1 => partStep g (partK g k) (cellAt g k)
def partsU (g : Gr) : List Int := (partK g (g.rows.toNat * g.cols.toNat)).2
def partsL (g : Gr) : List Int := if chk g ≠ 0 then [] else (partsU g).mergeSort fun x y => decide (y ≤ x)

theorem wave_len {g : Gr} (hr : Right g) {p : Pt} (hp : inside g p = true) : (wave g p).length ≤ 4096 := by
  rw [← List.length_map (f := (·.1))]
  refine nodup_pts (wave_nodup g p) (fun q hq => ?_)
  obtain ⟨x, hx, rfl⟩ := List.mem_map.1 hq
  exact inG_of hr (wave_inside hp x hx)
theorem cellAt_inside {g : Gr} (hr : Right g) {k : Nat} (h : k < g.rows.toNat * g.cols.toNat) : inside g (cellAt g k) = true := by
  have h1 := hr.r1
  have h2 := hr.c1
  have h3 : 0 < g.cols.toNat := by omega
  have h4 : k / g.cols.toNat < g.rows.toNat := (Nat.div_lt_iff_lt_mul h3).2 h
  have h5 : k % g.cols.toNat < g.cols.toNat := Nat.mod_lt _ h3
  unfold inside cellAt
  generalize k / g.cols.toNat = a at h4 ⊢
  generalize k % g.cols.toNat = b at h5 ⊢
  simp only [Bool.and_eq_true, decide_eq_true_eq]
  omega
theorem partK_len (g : Gr) : ∀ k, (partK g k).2.length ≤ k := by
  intro k
  induction k with
  | zero => simp [partK]
  | succ k ih =>
    unfold partK partStep
    split
    · omega
    · split
      · omega
      · simp; omega
theorem partK_bd {g : Gr} (hr : Right g) : ∀ k, k ≤ g.rows.toNat * g.cols.toNat → ∀ x ∈ (partK g k).2, 0 ≤ x ∧ x ≤ 4096 := by
  intro k
  induction k with
  | zero => intro _ x hx; simp [partK] at hx
  | succ k ih =>
    intro hk x hx
    unfold partK partStep at hx
    split at hx
    · exact ih (by omega) x hx
    · split at hx
      · exact ih (by omega) x hx
      · rcases List.mem_append.1 hx with hx | hx
        · exact ih (by omega) x hx
        · simp at hx
          subst hx
          have := wave_len hr (cellAt_inside hr (show k < _ by omega))
          omega
end Go.Proofs.Ytfigooilhnahfaa
