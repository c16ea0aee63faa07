/- What the grid functions compute, in plain Lean. -/
namespace Go.Proofs.Ytfigooilhnahfaa

abbrev Pt := Int × Int
structure Gr where
  rows : Int
  cols : Int
  bl : List Pt

def cmpI (a b : Int) : Int := if a < b then -1 else if b < a then 1 else 0
def or2 (a b : Int) : Int := if a = 0 then b else a
def ordP (a b : Pt) : Int := or2 (cmpI a.1 b.1) (cmpI a.2 b.2)
/-- a comes before b -/
def bef (a b : Pt) : Bool := decide (a.1 < b.1) || (decide (a.1 = b.1) && decide (a.2 < b.2))
def pt (l : List Pt) (i : Nat) : Pt := l.getD i (0, 0)

theorem ordP_lt (a b : Pt) : ordP a b < 0 ↔ bef a b = true := by
  unfold ordP or2 cmpI bef
  simp only [Bool.or_eq_true, Bool.and_eq_true, decide_eq_true_eq]
  repeat' split <;> first | omega | (simp; omega)
theorem ordP_eq (a b : Pt) : ordP a b = 0 ↔ a = b := by
  unfold ordP or2 cmpI
  rw [Prod.ext_iff]
  repeat' split <;> first | omega | (simp; omega)
theorem ordP_bd (a b : Pt) : -1 ≤ ordP a b ∧ ordP a b ≤ 1 := by
  unfold ordP or2 cmpI
  repeat' split <;> first | omega | (simp; omega)
theorem bef_trans {a b c : Pt} (h : bef a b = true) (k : bef b c = true) : bef a c = true := by
  unfold bef at *
  simp only [Bool.or_eq_true, Bool.and_eq_true, decide_eq_true_eq] at *
  omega
theorem bef_irrefl (a : Pt) : bef a a = false := by unfold bef; simp

def inside (g : Gr) (p : Pt) : Bool := decide (0 ≤ p.1) && decide (p.1 < g.rows) && decide (0 ≤ p.2) && decide (p.2 < g.cols)
def blk (g : Gr) (p : Pt) : Bool := decide (p ∈ g.bl)
def opn (g : Gr) (p : Pt) : Bool := inside g p && !blk g p

/-- strictly ascending -/
def Asc (l : List Pt) : Prop := ∀ i, i + 1 < l.length → bef (pt l i) (pt l (i + 1)) = true
theorem Asc.lt {l : List Pt} (h : Asc l) : ∀ {i j : Nat}, i < j → j < l.length → bef (pt l i) (pt l j) = true := by
  intro i j hij hj
  induction j with
  | zero => omega
  | succ j ih =>
    by_cases e : i = j
    · subst e; exact h _ hj
    · exact bef_trans (ih (by omega) (by omega)) (h _ hj)

/-- the error of the blocked cells from the k-th on -/
def chkFrom (g : Gr) : Nat → Nat → Int
  | 0, _ => 0
  | n + 1, k => if inside g (pt g.bl k) = false then 2 else if k ≠ 0 ∧ bef (pt g.bl (k - 1)) (pt g.bl k) = false then 9 else chkFrom g n (k + 1)
def chk (g : Gr) : Int :=
  if g.rows < 1 ∨ 64 < g.rows then 2 else if g.cols < 1 ∨ 64 < g.cols then 2 else if 256 < g.bl.length then 5 else chkFrom g g.bl.length 0

theorem chkFrom_zero (g : Gr) : ∀ (n k : Nat), chkFrom g n k = 0 → ∀ i, k ≤ i → i < k + n → inside g (pt g.bl i) = true ∧ (i ≠ 0 → bef (pt g.bl (i - 1)) (pt g.bl i) = true) := by
  intro n
  induction n with
  | zero => intro k _ i h1 h2; omega
  | succ n ih =>
    intro k h i h1 h2
    unfold chkFrom at h
    split at h
    · omega
    · rename_i hin
      split at h
      · omega
      · rename_i hb
        by_cases e : i = k
        · subst e
          refine ⟨by simpa using hin, fun h0 => ?_⟩
          cases hc : bef (pt g.bl (i - 1)) (pt g.bl i)
          · exact absurd ⟨h0, hc⟩ hb
          · rfl
        · exact ih _ h i (by omega) (by omega)

structure Right (g : Gr) : Prop where
  r1 : 1 ≤ g.rows
  r2 : g.rows ≤ 64
  c1 : 1 ≤ g.cols
  c2 : g.cols ≤ 64
  few : g.bl.length ≤ 256
  ins : ∀ i, i < g.bl.length → inside g (pt g.bl i) = true
  asc : Asc g.bl
theorem right_of_chk {g : Gr} (h : chk g = 0) : Right g := by
  unfold chk at h
  split at h
  · omega
  · split at h
    · omega
    · split at h
      · omega
      · have hz := chkFrom_zero g _ _ h
        refine ⟨by omega, by omega, by omega, by omega, by omega, fun i hi => (hz i (by omega) (by omega)).1, fun i hi => ?_⟩
        have := (hz (i + 1) (by omega) (by omega)).2 (by omega)
        simpa using this

def cellsErr (g : Gr) : List Pt → Int
  | [] => 0
  | p :: l => if inside g p = false then 2 else if blk g p = true then 14 else cellsErr g l
def givenErr (g : Gr) (l : List Pt) : Int := if chk g ≠ 0 then chk g else cellsErr g l
def listedErr (g : Gr) (l : List Pt) : Int := if chk g ≠ 0 then chk g else if l = [] then 13 else if 4096 < l.length then 5 else cellsErr g l

def nbs (p : Pt) : List Pt := [(p.1 - 1, p.2), (p.1, p.2 - 1), (p.1, p.2 + 1), (p.1 + 1, p.2)]
def near (g : Gr) (p : Pt) : List Pt := (nbs p).filter (opn g)

/-! ### Waves -/
def addN (seen next : List Pt) : List Pt → List Pt × List Pt
  | [] => (seen, next)
  | q :: qs => if q ∈ seen then addN seen next qs else addN (q :: seen) (next ++ [q]) qs
def expand (g : Gr) (seen next : List Pt) : List Pt → List Pt × List Pt
  | [] => (seen, next)
  | p :: ps => expand g (addN seen next (near g p)).1 (addN seen next (near g p)).2 ps
def waves (g : Gr) : Nat → List Pt → List Pt → Nat → List (Pt × Nat)
  | 0, _, _, _ => []
  | f + 1, seen, now, far => if now = [] then [] else now.map (fun p => (p, far)) ++ waves g f (expand g seen [] now).1 (expand g seen [] now).2 (far + 1)
def wave (g : Gr) (p : Pt) : List (Pt × Nat) := waves g 4097 [p] [p] 0
/-- the distance from a cell, -1 where there is no route -/
def dist (g : Gr) (p q : Pt) : Int := match (wave g p).find? (fun x => x.1 == q) with
  | some x => x.2
  | none => -1
end Go.Proofs.Ytfigooilhnahfaa
