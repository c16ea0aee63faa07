/- Ways, in plain Lean. -/
import Derived.Test.YtfigooilhnahfaaLaw
namespace Go.Proofs.Ytfigooilhnahfaa

def stepTo (g : Gr) (D : Pt → Int) (a : Pt) : Pt := ((near g a).find? (fun x => decide (D x = D a - 1))).getD a
def wayGo (g : Gr) (D : Pt → Int) : Nat → Pt → List Pt
  | 0, _ => []
  | n + 1, a => stepTo g D a :: wayGo g D n (stepTo g D a)
/-- the first route -/
def way (g : Gr) (p q : Pt) : List Pt := p :: wayGo g (dst g q) (dst g q p).toNat p
theorem wayGo_len (g : Gr) (D : Pt → Int) : ∀ n a, (wayGo g D n a).length = n := by
  intro n
  induction n with
  | zero => intro a; rfl
  | succ n ih => intro a; simp [wayGo, ih]
theorem stepTo_of {g : Gr} {D : Pt → Int} {a x : Pt} {pre : List Pt} (h : pre ++ [x] <+: near g a) (hn : ∀ y ∈ pre, D y ≠ D a - 1) (hx : D x = D a - 1) : stepTo g D a = x := by
  obtain ⟨post, hp⟩ := h
  unfold stepTo
  rw [← hp, List.append_assoc, List.find?_append, List.find?_eq_none.2 (fun y hy => by simpa using hn y hy)]
  simp [hx]
theorem stepTo_ex {g : Gr} (hr : Right g) {q a : Pt} {k : Nat} (hq : opn g q = true) (ha : opn g a = true) (h : IsD g q a (k + 1)) : ∃ x ∈ near g a, dst g q x = k := by
  obtain ⟨r, h1, h2⟩ := h.pred
  refine ⟨r, near_symm (h1.w.opn hq) h2, dst_of hr ?_ h1⟩
  unfold opn at hq; simp only [Bool.and_eq_true] at hq; exact hq.1
theorem IsD.lt {g : Gr} (hr : Right g) {p q : Pt} (hp : inside g p = true) {k : Nat} (h : IsD g p q k) : k < 4097 := by
  have key : ∀ (f : Nat) (seen now : List Pt) (n : Nat), ∀ x ∈ waves g f seen now n, x.2 < n + f := by
    intro f
    induction f with
    | zero => intro seen now n x hx; cases hx
    | succ f ih =>
      intro seen now n x hx
      unfold waves at hx
      split at hx
      · cases hx
      · rcases List.mem_append.1 hx with hx | hx
        · obtain ⟨q, _, rfl⟩ := List.mem_map.1 hx
          simp
        · have := ih _ _ _ x hx
          omega
  have := wave_all hr hp h
  unfold wave at this
  have := key _ _ _ _ _ this
  simpa using this
theorem stepTo_isD {g : Gr} (hr : Right g) {q a : Pt} {k : Nat} (hq : opn g q = true) (h : IsD g q a (k + 1)) {x : Pt} (hx : x ∈ near g a) (hd : dst g q x = k) : IsD g q x k := by
  have iq : inside g q = true := by unfold opn at hq; simp only [Bool.and_eq_true] at hq; exact hq.1
  rcases dst_cases hr iq x with ⟨m, h1, e⟩ | ⟨_, e⟩
  · rw [hd] at e
    have : k = m := by omega
    subst this; exact h1
  · rw [hd] at e; omega
end Go.Proofs.Ytfigooilhnahfaa
