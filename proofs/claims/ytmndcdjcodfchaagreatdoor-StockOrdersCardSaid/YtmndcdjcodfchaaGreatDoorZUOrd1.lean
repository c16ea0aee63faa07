/- Steps of the proof: USpec, UOpen, ULaw, UNext, UStk, USpec2, UOrd, URf2, UGiv2, UNxt, UBest. No conditions. -/
import Derived.Lib.Hide
import Derived.ProofKit
import Derived.OpenShut
import Derived.Lib.SmallJoins
import Derived.Deep.Slices
import Derived.Deep.Strs
import Derived.Test.YtmndcdjcodfchaaGreatDoorCards
import Derived.Test.YtmndcdjcodfchaaGreatDoorTie
import Derived.WalkKit
import Derived.Deep.DeepHandedRow
import Derived.Lib.LaidTab
import Derived.LaidSub
import Derived.Stop.LaidErr
import Derived.MakeChecks
import Derived.Test.YtmndcdjcodfchaaGreatDoorZUB1
import Derived.Test.YtmndcdjcodfchaaGreatDoorZUB2
import Derived.Test.YtmndcdjcodfchaaGreatDoorZUB3
import Derived.Test.YtmndcdjcodfchaaGreatDoorZUB4
import Derived.Test.YtmndcdjcodfchaaGreatDoorZUB5
import Derived.Test.YtmndcdjcodfchaaGreatDoorZUB6
import Derived.Test.YtmndcdjcodfchaaGreatDoorZUB7
import Derived.Test.YtmndcdjcodfchaaGreatDoorZUB8
namespace Go.Proofs.YtmndcdjcodfchaaGreatDoor
theorem leftS_len (need parts : List Int) (n : Int) : (leftS need parts n).length = need.length := leftJ_len _ _ _ _
theorem leftS_get (need parts : List Int) (n : Int) {k : Nat} (h : k < need.length) : (leftS need parts n).getD k 0 = need.getD k 0 - n * parts.getD k 0 := by
  unfold leftS
  rw [leftJ_get _ _ _ _ h, if_pos h]
theorem dotS_nilr (f : Pk → Int) (ps : List Pk) : dotS f ps [] = 0 := by cases ps <;> (unfold dotS; rfl)
theorem costS_cons (p : Pk) (ps : List Pk) (n : Int) (o : List Int) : costS (p :: ps) (n :: o) = n * p.price + costS ps o := rfl
theorem amtS_cons (p : Pk) (ps : List Pk) (n : Int) (o : List Int) (k : Nat) : amtS (p :: ps) (n :: o) k = n * p.parts.getD k 0 + amtS ps o k := rfl
theorem costS_nil (o : List Int) : costS [] o = 0 := dotS_nil _ _
theorem amtS_nil (o : List Int) (k : Nat) : amtS [] o k = 0 := dotS_nil _ _
def trySt (need : List Int) (ps : List Pk) (pre : List Int) (price size : Int) (b : Bst) (o : List Int) : Bst :=
  if meetS need ps o && betterS b.found b.price b.size (price + costS ps o) (size + totS o) then ⟨pre ++ o, price + costS ps o, size + totS o, true⟩ else b
def foldS (M : Int) (need : List Int) (ps : List Pk) (pre : List Int) (price size : Int) (b : Bst) : Bst :=
  (ordsS (capsS M ps)).foldl (trySt need ps pre price size) b
theorem PksOk.get {p : Pk} {ps : List Pk} {K : Nat} (h : PksOk ps K) (hp : p ∈ ps) (k : Nat) : 0 ≤ p.parts.getD k 0 := by
  by_cases hk : k < p.parts.length
  · exact h.num p hp _ (by rw [List.getD_eq_getElem?_getD, List.getElem?_eq_getElem hk]; simp)
  · rw [List.getD_eq_getElem?_getD, List.getElem?_eq_none (by omega)]; simp
theorem totS_nonneg : ∀ {o : List Int}, NonNeg o → 0 ≤ totS o := by
  intro o
  induction o with
  | nil => intro _; exact Int.le_refl _
  | cons n o ih =>
    intro h
    have h1 := h n (List.mem_cons_self ..)
    have h2 := ih h.tail
    unfold totS
    omega
theorem dotS_nonneg {f : Pk → Int} : ∀ {ps : List Pk} {o : List Int}, (∀ p ∈ ps, 0 ≤ f p) → NonNeg o → 0 ≤ dotS f ps o := by
  intro ps
  induction ps with
  | nil => intro o _ _; rw [dotS_nil]; exact Int.le_refl _
  | cons p ps ih =>
    intro o hp h
    cases o with
    | nil => rw [dotS_nilr]; exact Int.le_refl _
    | cons n o =>
      have h1 := h n (List.mem_cons_self ..)
      have h2 := ih (fun q hq => hp q (List.mem_cons_of_mem _ hq)) h.tail
      have h3 := Int.mul_nonneg h1 (hp p (List.mem_cons_self ..))
      unfold dotS
      omega
theorem costS_nonneg {K : Nat} {ps : List Pk} {o : List Int} (h : PksOk ps K) (ho : NonNeg o) : 0 ≤ costS ps o := dotS_nonneg h.price ho
theorem amtS_nonneg {K : Nat} {ps : List Pk} {o : List Int} (k : Nat) (h : PksOk ps K) (ho : NonNeg o) : 0 ≤ amtS ps o k := dotS_nonneg (fun _ hp => h.get hp k) ho
theorem meetS_cons {need : List Int} {p : Pk} {ps : List Pk} {n : Int} {o : List Int} : meetS need (p :: ps) (n :: o) = meetS (leftS need p.parts n) ps o := by
  apply Bool.eq_iff_iff.2
  rw [meetS_iff, meetS_iff, leftS_len]
  constructor
  · intro h k hk
    have := h k hk
    rw [amtS_cons] at this
    rw [leftS_get _ _ _ hk]
    omega
  · intro h k hk
    have := h k hk
    rw [leftS_get _ _ _ hk] at this
    rw [amtS_cons]
    omega
theorem mem_ords : ∀ {cs o : List Int}, o ∈ ordsS cs ↔ o.length = cs.length ∧ ∀ i, i < cs.length → 0 ≤ o.getD i 0 ∧ o.getD i 0 ≤ cs.getD i 0 := by
  intro cs
  induction cs with
  | nil =>
    intro o
    simp only [ordsS, List.mem_singleton, List.length_nil]
    constructor
    · rintro rfl; exact ⟨rfl, fun i hi => absurd hi (Nat.not_lt_zero i)⟩
    · rintro ⟨h, _⟩; exact List.eq_nil_of_length_eq_zero h
  | cons c cs ih =>
    intro o
    simp only [ordsS, List.mem_flatMap, List.mem_range, List.mem_map, List.length_cons]
    constructor
    · rintro ⟨n, hn, o', ho, rfl⟩
      obtain ⟨h1, h2⟩ := ih.1 ho
      refine ⟨by simp [h1], fun i hi => ?_⟩
      cases i with
      | zero => simp; omega
      | succ i => simpa using h2 i (by omega)
    · rintro ⟨h1, h2⟩
      cases o with
      | nil => simp at h1
      | cons n o =>
        have h0 := h2 0 (by omega)
        simp at h0
        refine ⟨n.toNat, by omega, o, ih.2 ⟨by simpa using h1, fun i hi => by simpa using h2 (i + 1) (by omega)⟩, ?_⟩
        rw [Int.toNat_of_nonneg h0.1]
theorem ords_nonneg {cs o : List Int} (h : o ∈ ordsS cs) : NonNeg o := by
  obtain ⟨h1, h2⟩ := mem_ords.1 h
  intro x hx
  obtain ⟨i, hi, e⟩ := List.mem_iff_getElem.1 hx
  have := (h2 i (by omega)).1
  rw [List.getD_eq_getElem?_getD, List.getElem?_eq_getElem hi] at this
  simpa [e] using this
theorem bt_mono {b : Bst} {p s p' s' : Int} (h : betterS b.found b.price b.size p s = false) (hp : p ≤ p') (hs : s ≤ s') : betterS b.found b.price b.size p' s' = false := by
  unfold betterS at h ⊢
  cases hf : b.found
  · rw [hf] at h; simp at h
  · rw [hf] at h
    simp at h ⊢
    omega
theorem try_keep {need : List Int} {ps : List Pk} {pre : List Int} {price size : Int} {b : Bst} {o : List Int} {p s : Int} (h : betterS b.found b.price b.size p s = false) :
    betterS (trySt need ps pre price size b o).found (trySt need ps pre price size b o).price (trySt need ps pre price size b o).size p s = false := by
  unfold trySt
  split
  · rename_i hc
    rw [Bool.and_eq_true] at hc
    have h2 := hc.2
    unfold betterS at h h2 ⊢
    cases hf : b.found
    · rw [hf] at h; simp at h
    · rw [hf] at h h2
      simp at h h2 ⊢
      omega
  · exact h
theorem fold_keep {need : List Int} {ps : List Pk} {pre : List Int} {price size : Int} {p s : Int} : ∀ (L : List (List Int)) {b : Bst}, betterS b.found b.price b.size p s = false →
    betterS (L.foldl (trySt need ps pre price size) b).found (L.foldl (trySt need ps pre price size) b).price (L.foldl (trySt need ps pre price size) b).size p s = false := by
  intro L
  induction L with
  | nil => intro b h; exact h
  | cons o L ih => intro b h; exact ih (try_keep h)
theorem try_done {need : List Int} {ps : List Pk} {pre : List Int} {price size : Int} (b : Bst) {o : List Int} (h : meetS need ps o = true) :
    betterS (trySt need ps pre price size b o).found (trySt need ps pre price size b o).price (trySt need ps pre price size b o).size (price + costS ps o) (size + totS o) = false := by
  unfold trySt
  split
  · unfold betterS; simp
  · rename_i hc
    rw [h, Bool.true_and] at hc
    simpa using hc
theorem fold_done {need : List Int} {ps : List Pk} {pre : List Int} {price size : Int} : ∀ (L : List (List Int)) (b : Bst) {o : List Int}, o ∈ L → meetS need ps o = true →
    betterS (L.foldl (trySt need ps pre price size) b).found (L.foldl (trySt need ps pre price size) b).price (L.foldl (trySt need ps pre price size) b).size (price + costS ps o) (size + totS o) = false := by
  intro L
  induction L with
  | nil => intro b o h; cases h
  | cons a L ih =>
    intro b o h hm
    rcases List.mem_cons.1 h with rfl | h
    · exact fold_keep L (try_done b hm)
    · exact ih _ h hm
theorem fold_same {need : List Int} {ps : List Pk} {pre : List Int} {price size : Int} : ∀ (L : List (List Int)) (b : Bst), (∀ o ∈ L, meetS need ps o = true → betterS b.found b.price b.size (price + costS ps o) (size + totS o) = false) → L.foldl (trySt need ps pre price size) b = b := by
  intro L
  induction L with
  | nil => intro b _; rfl
  | cons a L ih =>
    intro b h
    have h1 : trySt need ps pre price size b a = b := by
      unfold trySt
      split
      · rename_i hc
        rw [Bool.and_eq_true] at hc
        rw [h a (List.mem_cons_self ..) hc.1] at hc
        simp at hc
      · rfl
    rw [List.foldl_cons, h1]
    exact ih b fun o ho => h o (List.mem_cons_of_mem _ ho)
theorem fold_cons {need : List Int} {p : Pk} {ps : List Pk} {pre : List Int} {price size n : Int} : ∀ (L : List (List Int)) (b : Bst),
    (L.map fun o => n :: o).foldl (trySt need (p :: ps) pre price size) b = L.foldl (trySt (leftS need p.parts n) ps (pre ++ [n]) (price + n * p.price) (size + n)) b := by
  intro L
  induction L with
  | nil => intro b; rfl
  | cons a L ih =>
    intro b
    rw [List.map_cons, List.foldl_cons, List.foldl_cons, ih]
    congr 1
    unfold trySt
    rw [meetS_cons]
    have h1 : price + costS (p :: ps) (n :: a) = price + n * p.price + costS ps a := by rw [costS_cons]; omega
    have h2 : size + totS (n :: a) = size + n + totS a := by show size + (n + totS a) = _; omega
    rw [h1, h2, List.append_assoc, List.singleton_append]
theorem iter_fold {σ : Type} (step : Nat → σ → σ) (s : σ) : ∀ n, iterS step s n = (List.range n).foldl (fun t i => step i t) s := by
  intro n
  induction n with
  | zero => rfl
  | succ n ih => rw [List.range_succ, List.foldl_append, ← ih]; rfl
theorem foldS_cons {M : Int} {need : List Int} {p : Pk} {ps : List Pk} {pre : List Int} {price size : Int} {b : Bst} :
    foldS M need (p :: ps) pre price size b = iterS (fun n t => foldS M (leftS need p.parts n) ps (pre ++ [(n : Int)]) (price + n * p.price) (size + n) t) b (min p.most M + 1).toNat := by
  rw [iter_fold]
  unfold foldS
  show ((List.range (min p.most M + 1).toNat).flatMap _).foldl _ _ = _
  rw [List.foldl_flatMap]
  congr 1
  funext t n
  exact fold_cons _ _
end Go.Proofs.YtmndcdjcodfchaaGreatDoor
namespace Go.Proofs.YtmndcdjcodfchaaGreatDoor
open Go.RowKit Go.ChangeShapes Go.WideShapes Go.Joins Go.Deep
theorem laidOut : laidOutB Tryz.prog = true := by kernel_rfl
theorem cellsOfInt : Tryz.prog.cellsOf 3 = 1 := by kernel_rfl
theorem cellsOfSli : Tryz.prog.cellsOf 23 = 1 := by kernel_rfl
theorem cellsOfPk : Tryz.prog.cellsOf 62 = 3 := by kernel_rfl
theorem list3 {α : Type} {l : List α} (h : l.length = 3) : ∃ a b c, l = [a, b, c] := by
  match l, h with
  | [a, b, c], _ => exact ⟨a, b, c, rfl⟩
section
variable {H : Type} {enc : TypeId × Value → H} {w : World} {base : Nat} {spare : Nat → Bool} {held : Bool}
theorem open_cellsI {a : Addr} {len : Nat} (h : ∀ i, i < len → ∃ cs' n x, w.cells? base (a.add (i * 1)) 1 = some cs' ∧ DataW.trod enc Tryz.prog w base spare held n 3 cs' = some x) : ∃ l : List Int, l.length = len ∧ CellsI w (some a) l := by
  have key : ∀ i, i < len → ∃ y : Int, w.cell? (a.add (i * 1)) = some (.int .i64 y) := fun i hi => by
    obtain ⟨cs', n, x, h1, h2⟩ := h i hi
    obtain ⟨y, rfl, _, _⟩ := DataW.trod_int Tryz.underlying3 h2
    obtain ⟨_, _, hc⟩ := World.cells?_some h1
    have c0 := hc 0 (by omega)
    refine ⟨y, ?_⟩
    have e : (a.add (i * 1)).add 0 = a.add (i * 1) := by simp [Addr.add]
    rw [e] at c0
    exact c0
  obtain ⟨f, hf⟩ := choose_lt (α := Int) key
  refine ⟨(List.range len).map f, by simp, fun i hi => ?_⟩
  have hi' : i < len := by simpa using hi
  have h1 := hf i hi'
  have hp : ((List.range len).map f).getD i 0 = f i := by simp [List.getD, hi']
  rw [hp]
  obtain ⟨b, off, spot⟩ := a
  have hs : spot = none := by
    have h0 := World.cell?_spot (hf 0 (by omega))
    simpa [Addr.add] using h0
  subst hs
  rw [Addr.add_lit, Nat.mul_one] at h1
  exact ⟨b, off, rfl, h1⟩
theorem open_sli {fuel : Nat} {v : Value} {x : DataW H × List MemPlace} (hf : DataW.trod enc Tryz.prog w base spare held fuel 23 [v] = some x) : ∃ l : List Int, SliceI w v l := by
  rcases open_slice Tryz.underlying23 hf with ⟨h1, _⟩ | ⟨a, len, cap, m, n, D, Pl, h1, hb, hl, hm, hmm, _, hx⟩
  · simp at h1
    exact ⟨[], none, 0, h1, fun i hi => by simp at hi, by simp, by simp⟩
  · simp at h1
    rw [cellsOfInt] at hx
    have hlm : len ≤ m := by rw [hmm]; split <;> omega
    obtain ⟨l, hll, hc⟩ := open_cellsI (enc := enc) (spare := spare) (held := held) (w := w) (base := base) (a := a) (len := len) (fun i hi => by
      obtain ⟨cs', h2, h3⟩ := hx i (by omega)
      exact ⟨cs', n, _, h2, h3⟩)
    exact ⟨l, some a, cap, by rw [h1, hll], hc, by rw [hll]; exact hl, hm⟩
theorem open_pkg {fuel : Nat} {cs : List Value} {x : DataW H × List MemPlace} (h : DataW.trod enc Tryz.prog w base spare held fuel 62 cs = some x) : ∃ (v : Value) (p : Pk), cs = [v, .int .i64 p.price, .int .i64 p.most] ∧ SliceI w v p.parts := by
  obtain ⟨y0, y1, y2, n, _, hl, h0, h1, h2⟩ := trod_struct3 Tryz.underlying62 h
  rw [cellsOfPk] at hl
  obtain ⟨a, b, c, rfl⟩ := list3 hl
  rw [cellsOfSli] at h0
  rw [cellsOfInt] at h1
  rw [cellsOfInt] at h2
  obtain ⟨i, e1, _, _⟩ := DataW.trod_int Tryz.underlying3 h1
  obtain ⟨j, e2, _, _⟩ := DataW.trod_int Tryz.underlying3 h2
  obtain ⟨l, hv⟩ := open_sli (v := a) (by simpa using h0)
  simp at e1 e2
  subst e1; subst e2
  exact ⟨a, ⟨l, i, j⟩, rfl, hv⟩
theorem open_pkgs {a : Addr} {len : Nat} (h : ∀ i, i < len → ∃ cs' n x, w.cells? base (a.add (i * 3)) 3 = some cs' ∧ DataW.trod enc Tryz.prog w base spare held n 62 cs' = some x) : ∃ l : List Pk, l.length = len ∧ PkG w (some a) l := by
  have key : ∀ i, i < len → ∃ y : Value × Pk, w.cell? (a.add (i * 3)) = some y.1 ∧ SliceI w y.1 y.2.parts ∧ w.cell? ((a.add (i * 3)).add 1) = some (.int .i64 y.2.price) ∧ w.cell? ((a.add (i * 3)).add 2) = some (.int .i64 y.2.most) := fun i hi => by
    obtain ⟨cs', n, x, h1, h2⟩ := h i hi
    obtain ⟨v, y, rfl, hv⟩ := open_pkg h2
    obtain ⟨_, _, hc⟩ := World.cells?_some h1
    have c0 := hc 0 (by omega)
    have c1 := hc 1 (by omega)
    have c2 := hc 2 (by omega)
    refine ⟨(v, y), ?_, hv, c1, c2⟩
    have e : (a.add (i * 3)).add 0 = a.add (i * 3) := by simp [Addr.add]
    rw [e] at c0
    exact c0
  haveI : Inhabited (Value × Pk) := ⟨(undef, pk0)⟩
  obtain ⟨f, hf⟩ := choose_lt (α := Value × Pk) key
  have hs : 0 < len → a.spot = none := fun h0 => by
    have h0 := World.cell?_spot (hf 0 h0).1
    simpa [Addr.add] using h0
  refine ⟨(List.range len).map fun i => (f i).2, by simp, fun i hi => ?_⟩
  have hi' : i < len := by simpa using hi
  obtain ⟨h1, h2, h3, h4⟩ := hf i hi'
  have hp : ((List.range len).map fun i => (f i).2).getD i pk0 = (f i).2 := by simp [List.getD, hi']
  rw [hp]
  obtain ⟨b, off, spot⟩ := a
  have hs := hs (by omega)
  dsimp only at hs
  subst hs
  rw [Addr.add_lit] at h1 h3 h4
  rw [Addr.add_lit] at h3 h4
  exact ⟨b, off, _, rfl, h1, h2, h3, h4⟩
set_option maxRecDepth 100000 in
theorem open_task {r : Reach} {b0 : Nat} {v : Value} {d : DataW H} {p : List MemPlace} (hv : Value.okWide Tryz.prog w r b0 25 v) (h : DataW.Trod enc Tryz.prog w base spare held 25 v d p) :
    ∃ pks need pa pc na nc, v = taskV pks need pa pc na nc ∧ TaskG w pks need pa pc na nc := by
  obtain ⟨c0, c1, y0, y1, n, rfl, _, _, h0, h1⟩ := open_agg2 Tryz.underlying25 (by kernel_rfl) (by kernel_rfl) hv h
  obtain ⟨need, na, nc, rfl, e2, e3, e4⟩ := open_sli h1
  rcases open_slice Tryz.underlying22 h0 with ⟨h1, _⟩ | ⟨a, len, cap, m, n, D, Pl, h1, hb, hl, hm, hmm, _, hx⟩
  · simp at h1
    subst h1
    exact ⟨[], need, none, 0, na, nc, rfl, fun i hi => by simp at hi, e2, by simp, by simp, e3, e4⟩
  · simp at h1
    rw [cellsOfPk] at hx
    have hlm : len ≤ m := by rw [hmm]; split <;> omega
    obtain ⟨l, hll, hc⟩ := open_pkgs (enc := enc) (spare := spare) (held := held) (w := w) (base := base) (a := a) (len := len) (fun i hi => by
      obtain ⟨cs', h2, h3⟩ := hx i (by omega)
      exact ⟨cs', n, _, h2, h3⟩)
    subst h1
    exact ⟨l, need, some a, cap, na, nc, by unfold taskV; rw [hll], hc, e2, by rw [hll]; exact hl, hm, e3, e4⟩
end
end Go.Proofs.YtmndcdjcodfchaaGreatDoor
namespace Go.Proofs.YtmndcdjcodfchaaGreatDoor
theorem useK_bd2 {p : Pk} {need : List Int} {M : Int} (hM : 0 ≤ M) (hp : ∀ k, 0 ≤ p.parts.getD k 0) (hn : ∀ k, k < p.parts.length → need.getD k 0 ≤ M) : ∀ k, k ≤ p.parts.length → 0 ≤ useK p need k ∧ useK p need k ≤ M := by
  intro k
  induction k with
  | zero => intro _; unfold useK; omega
  | succ k ih =>
    intro h1
    have hi := ih (by omega)
    have h3 := hn k (by omega)
    have h4 := hp k
    unfold useK
    generalize need.getD k 0 = x at h3 ⊢
    generalize p.parts.getD k 0 = y at h4 ⊢
    split
    · rename_i h
      obtain ⟨hy, hx⟩ := h
      have hd : 0 ≤ (x + y - 1).tdiv y ∧ (x + y - 1).tdiv y ≤ M := by
        rw [Int.tdiv_eq_ediv_of_nonneg (by omega)]
        refine ⟨Int.ediv_nonneg (by omega) (by omega), ?_⟩
        have h9 : (x + y - 1) / y ≤ x := by
          have : x + y - 1 < (x + 1) * y := by
            have h10 : 0 ≤ x * (y - 1) := Int.mul_nonneg (by omega) (by omega)
            have h11 : (x + 1) * y = x * (y - 1) + x + y := by rw [Int.add_mul, Int.mul_sub]; omega
            omega
          have := Int.ediv_lt_of_lt_mul (by omega) this
          omega
        omega
      omega
    · exact hi
theorem useK_enough {p : Pk} {need : List Int} (hp : ∀ k, 0 ≤ p.parts.getD k 0) : ∀ j, 0 ≤ useK p need j ∧ ∀ k, k < j → 0 < p.parts.getD k 0 → need.getD k 0 ≤ useK p need j * p.parts.getD k 0 := by
  intro j
  induction j with
  | zero => exact ⟨by unfold useK; omega, fun k hk => absurd hk (Nat.not_lt_zero k)⟩
  | succ j ih =>
    obtain ⟨i1, i2⟩ := ih
    by_cases hc : 0 < p.parts.getD j 0 ∧ 0 < need.getD j 0
    · have e : useK p need (j + 1) = max (useK p need j) ((need.getD j 0 + p.parts.getD j 0 - 1).tdiv (p.parts.getD j 0)) := by
        show (if _ then _ else _) = _
        rw [if_pos hc]
      rw [e]
      refine ⟨by omega, fun k hk hy => ?_⟩
      rcases Nat.lt_or_eq_of_le (Nat.le_of_lt_succ hk) with h | rfl
      · have h1 := i2 k h hy
        have h2 := Int.mul_le_mul_of_nonneg_right (show useK p need j ≤ max (useK p need j) ((need.getD j 0 + p.parts.getD j 0 - 1).tdiv (p.parts.getD j 0)) by omega) (hp k)
        omega
      · generalize need.getD k 0 = x at hc ⊢
        generalize p.parts.getD k 0 = y at hc hy ⊢
        rw [Int.tdiv_eq_ediv_of_nonneg (by omega)]
        have h1 := Int.mul_ediv_add_emod (x + y - 1) y
        have h2 := Int.emod_lt_of_pos (x + y - 1) hy
        have h3 := Int.mul_le_mul_of_nonneg_right (show (x + y - 1) / y ≤ max (useK p need k) ((x + y - 1) / y) by omega) (show 0 ≤ y by omega)
        rw [Int.mul_comm] at h1
        omega
    · have e : useK p need (j + 1) = useK p need j := by
        show (if _ then _ else _) = _
        rw [if_neg hc]
      rw [e]
      refine ⟨i1, fun k hk hy => ?_⟩
      rcases Nat.lt_or_eq_of_le (Nat.le_of_lt_succ hk) with h | rfl
      · exact i2 k h hy
      · have h0 : need.getD k 0 ≤ 0 := by omega
        have := Int.mul_nonneg i1 (hp k)
        omega
theorem useful_meet {p : Pk} {ps : List Pk} {need o : List Int} {K : Nat} {n : Int} (hk : PksOk (p :: ps) K) (hl : need.length = K) (ho : NonNeg o) (h1 : usefulS p need < n) (h2 : n ≤ p.most) (hm : meetS (leftS need p.parts n) ps o = true) :
    meetS (leftS need p.parts (usefulS p need)) ps o = true := by
  rw [meetS_iff, leftS_len] at hm ⊢
  intro k hkl
  have hm1 := hm k hkl
  rw [leftS_get _ _ _ hkl] at hm1 ⊢
  have hg := fun k => hk.get (List.mem_cons_self ..) k
  have hpl := hk.parts p (List.mem_cons_self ..)
  have hu : usefulS p need = useK p need p.parts.length := by unfold usefulS at h1 ⊢; omega
  rw [hu]
  obtain ⟨e1, e2⟩ := useK_enough (need := need) hg p.parts.length
  have ha := amtS_nonneg k hk.tail ho
  by_cases hy : 0 < p.parts.getD k 0
  · have := e2 k (by omega) hy
    omega
  · have hz : p.parts.getD k 0 = 0 := by have := hg k; omega
    rw [hz] at hm1 ⊢
    omega
theorem ords_head : ∀ {cs : List Int}, (∀ c ∈ cs, 0 ≤ c) → ∃ tl, ordsS cs = List.replicate cs.length 0 :: tl := by
  intro cs
  induction cs with
  | nil => intro _; exact ⟨[], rfl⟩
  | cons c cs ih =>
    intro h
    have hc := h c (List.mem_cons_self ..)
    obtain ⟨tl, e⟩ := ih fun x hx => h x (List.mem_cons_of_mem _ hx)
    obtain ⟨m, hm⟩ : ∃ m, (c + 1).toNat = m + 1 := ⟨c.toNat, by omega⟩
    unfold ordsS
    rw [hm, List.range_succ_eq_map, List.flatMap_cons, e, List.map_cons]
    exact ⟨_, rfl⟩
theorem zeros_meet {need : List Int} {K : Nat} (h : ∀ k, k < need.length → need.getD k 0 ≤ 0) {ps : List Pk} {o : List Int} (hp : PksOk ps K) (ho : NonNeg o) : meetS need ps o = true := by
  rw [meetS_iff]
  intro k hk
  have := h k hk
  have := amtS_nonneg k hp ho
  omega
theorem zeros_sum : ∀ (ps : List Pk) (n : Nat), costS ps (List.replicate n 0) = 0 ∧ totS (List.replicate n 0) = 0 := by
  intro ps n
  constructor
  · induction ps generalizing n with
    | nil => exact costS_nil _
    | cons p ps ih =>
      cases n with
      | zero => rfl
      | succ n => rw [List.replicate_succ, costS_cons, ih]; omega
  · induction n with
    | zero => rfl
    | succ n ih => rw [List.replicate_succ]; unfold totS; omega
theorem any_pos {l : List Int} : l.any isPos = false ↔ ∀ k, k < l.length → l.getD k 0 ≤ 0 := by
  rw [List.any_eq_false]
  constructor
  · intro h k hk
    have := h (l.getD k 0) (by rw [List.getD_eq_getElem?_getD, List.getElem?_eq_getElem hk]; simp)
    unfold isPos at this
    simpa using this
  · intro h x hx
    obtain ⟨i, hi, e⟩ := List.mem_iff_getElem.1 hx
    have := h i hi
    rw [List.getD_eq_getElem?_getD, List.getElem?_eq_getElem hi] at this
    unfold isPos
    simpa [e] using this
theorem caps_nonneg {M : Int} {ps : List Pk} {K : Nat} (hM : 0 ≤ M) (hp : PksOk ps K) : ∀ c ∈ capsS M ps, 0 ≤ c := by
  intro c hc
  obtain ⟨p, h1, rfl⟩ := List.mem_map.1 hc
  have := hp.most p h1
  omega
theorem stop_fold {M : Int} {need now : List Int} {ps : List Pk} {K i f : Nat} {price size : Int} {b : Bst} {r : List Int × Bst} (hM : 0 ≤ M) (hp : PksOk ps K) (hif : ps.length = f) (hnow : now.length = i + f)
    (h : stopS need price size f (now, b) = some r) : r.2 = foldS M need ps (now.take i) price size b ∧ r.1 = now := by
  unfold stopS at h
  dsimp only at h
  split at h
  · rename_i hb
    cases h
    refine ⟨?_, rfl⟩
    unfold foldS
    rw [fold_same]
    intro o ho _
    have h1 := ords_nonneg ho
    have h2 := costS_nonneg hp h1
    have h3 := totS_nonneg h1
    exact bt_mono hb (by omega) (by omega)
  · rename_i hb
    split at h
    · rename_i hz
      cases h
      refine ⟨?_, rfl⟩
      obtain ⟨tl, e⟩ := ords_head (caps_nonneg hM hp)
      have hl : (capsS M ps).length = f := by unfold capsS; rw [List.length_map]; exact hif
      have hz2 := any_pos.1 hz
      have ht : trySt need ps (now.take i) price size b (List.replicate f 0) = ⟨now.take i ++ List.replicate f 0, price, size, true⟩ := by
        unfold trySt
        rw [zeros_meet hz2 hp (fun x hx => by rw [List.mem_replicate] at hx; omega), (zeros_sum ps f).1, (zeros_sum ps f).2]
        rw [Int.add_zero, Int.add_zero]
        rw [if_pos (by simpa using hb)]
      unfold foldS
      rw [e, List.foldl_cons, hl, ht, fold_same]
      · dsimp only
        rw [show now.length - f = i by omega]
      · intro o ho _
        have h1 := ords_nonneg (cs := capsS M ps) (o := o) (by rw [e]; exact List.mem_cons_of_mem _ ho)
        have h2 := costS_nonneg hp h1
        have h3 := totS_nonneg h1
        refine bt_mono (b := ⟨now.take i ++ List.replicate f 0, price, size, true⟩) (p := price) (s := size) ?_ (by omega) (by omega)
        unfold betterS
        simp
    · cases h
theorem iter_stay {σ : Type} (step : Nat → σ → σ) (s : σ) (m : Nat) : ∀ d, (∀ n, m ≤ n → n < m + d → step n (iterS step s m) = iterS step s m) → iterS step s (m + d) = iterS step s m := by
  intro d
  induction d with
  | zero => intro _; rfl
  | succ d ih =>
    intro h
    show step (m + d) (iterS step s (m + d)) = _
    rw [ih fun n h1 h2 => h n h1 (by omega)]
    exact h (m + d) (by omega) (by omega)
theorem fold_useful {M : Int} {need : List Int} {p : Pk} {ps : List Pk} {pre : List Int} {price size : Int} {b : Bst} {K : Nat} (hM : 0 ≤ M) (hp : PksOk (p :: ps) K) (hl : need.length = K) (hn : ∀ k, k < need.length → need.getD k 0 ≤ M) :
    foldS M need (p :: ps) pre price size b = iterS (fun n t => foldS M (leftS need p.parts n) ps (pre ++ [(n : Int)]) (price + n * p.price) (size + n) t) b (usefulS p need + 1).toNat := by
  rw [foldS_cons]
  have hpl := hp.parts p (List.mem_cons_self ..)
  have hbd := useK_bd2 (p := p) (need := need) hM (fun k => hp.get (List.mem_cons_self ..) k) (fun k hk => hn k (by omega)) p.parts.length (Nat.le_refl _)
  have hmost := hp.most p (List.mem_cons_self ..)
  have hpr := hp.price p (List.mem_cons_self ..)
  have hu0 : 0 ≤ usefulS p need := by unfold usefulS; omega
  have hu1 : usefulS p need ≤ min p.most M := by unfold usefulS; omega
  obtain ⟨u, hu⟩ : ∃ u : Nat, usefulS p need = u := ⟨(usefulS p need).toNat, by omega⟩
  obtain ⟨d, hd⟩ : ∃ d, (min p.most M + 1).toNat = (usefulS p need + 1).toNat + d := ⟨(min p.most M + 1).toNat - (usefulS p need + 1).toNat, by omega⟩
  rw [hd]
  have hu2 : (usefulS p need + 1).toNat = u + 1 := by omega
  rw [hu2] at hd ⊢
  refine iter_stay _ _ _ d fun n h1 h2 => ?_
  unfold foldS
  refine fold_same _ _ fun o ho hm => ?_
  have hnn := ords_nonneg ho
  have hm2 := useful_meet (p := p) (ps := ps) (n := (n : Int)) hp hl hnn (by omega) (by omega) hm
  rw [hu] at hm2
  have h9 := fold_done (need := leftS need p.parts u) (ps := ps) (pre := pre ++ [(u : Int)]) (price := price + u * p.price) (size := size + u) (ordsS (capsS M ps)) (iterS (fun n t => foldS M (leftS need p.parts n) ps (pre ++ [(n : Int)]) (price + n * p.price) (size + n) t) b u) ho hm2
  have h3 : (u : Int) * p.price ≤ (n : Int) * p.price := Int.mul_le_mul_of_nonneg_right (by omega) hpr
  exact bt_mono h9 (by omega) (by omega)
theorem drop_get {pks : List Pk} {i : Nat} (h : i < pks.length) : pks.drop i = pks.getD i pk0 :: pks.drop (i + 1) := by
  rw [List.drop_eq_getElem_cons h, List.getD_eq_getElem?_getD, List.getElem?_eq_getElem h]
  rfl
theorem ok_drop {pks : List Pk} {K : Nat} (h : PksOk pks K) (i : Nat) : PksOk (pks.drop i) K :=
  ⟨fun p hp => h.parts p (List.mem_of_mem_drop hp), fun p hp => h.num p (List.mem_of_mem_drop hp), fun p hp => h.price p (List.mem_of_mem_drop hp), fun p hp => h.most p (List.mem_of_mem_drop hp)⟩
theorem set_take (l : List Int) {i : Nat} (h : i < l.length) (x : Int) : (l.set i x).take (i + 1) = l.take i ++ [x] := by
  rw [List.take_set, List.take_succ_eq_append_getElem h, List.set_append_right _ _ (by simp; omega)]
  congr 1
  rw [List.length_take, Nat.min_eq_left (by omega), Nat.sub_self]
  rfl
theorem buy_fold {pks : List Pk} {K : Nat} {M : Int} (hM : 0 ≤ M) (hp : PksOk pks K) : ∀ (f i : Nat), i + f = pks.length → ∀ (need : List Int) (price size : Int) (now : List Int) (b : Bst), need.length = K → (∀ k, k < need.length → need.getD k 0 ≤ M) → now.length = pks.length →
    (buyS pks f need price size (now, b)).2 = foldS M need (pks.drop i) (now.take i) price size b ∧ (buyS pks f need price size (now, b)).1.take i = now.take i := by
  intro f
  induction f with
  | zero =>
    intro i hif need price size now b hl hn hnow
    unfold buyS
    have hd : pks.drop i = [] := List.drop_eq_nil_of_le (by omega)
    cases hs : stopS need price size 0 (now, b) with
    | some r =>
      obtain ⟨h1, h2⟩ := stop_fold (M := M) (i := i) hM (ok_drop hp i) (by rw [hd]; rfl) (by omega) hs
      exact ⟨h1, by show r.1.take i = _; rw [h2]⟩
    | none =>
      refine ⟨?_, rfl⟩
      unfold stopS at hs
      dsimp only at hs
      split at hs
      · cases hs
      · split at hs
        · cases hs
        · rename_i hz
          rw [hd]
          unfold foldS
          show b = trySt need [] (now.take i) price size b []
          unfold trySt
          have hm : meetS need [] [] = false := by
            cases hmm : meetS need [] []
            · rfl
            · exfalso
              apply hz
              rw [any_pos]
              intro k hk
              have := meetS_iff.1 hmm k hk
              rw [amtS_nil] at this
              exact this
          rw [hm]
          rfl
  | succ f ih =>
    intro i hif need price size now b hl hn hnow
    have hi : i < pks.length := by omega
    unfold buyS
    rw [show pks.length - (f + 1) = i by omega]
    have hd := drop_get hi
    cases hs : stopS need price size (f + 1) (now, b) with
    | some r =>
      obtain ⟨h1, h2⟩ := stop_fold (M := M) (i := i) hM (ok_drop hp i) (by rw [List.length_drop]; omega) (by omega) hs
      exact ⟨h1, by show r.1.take i = _; rw [h2]⟩
    | none =>
      rw [Option.getD_none]
      have hpd := ok_drop hp i
      rw [hd] at hpd ⊢
      rw [fold_useful hM hpd hl hn]
      generalize pks.getD i pk0 = p at hpd
      generalize (usefulS p need + 1).toNat = u
      have key : ∀ n, (iterS (fun n t => buyS pks f (leftS need p.parts n) (price + n * p.price) (size + n) (t.1.set i n, t.2)) (now, b) n).2 = iterS (fun n t => foldS M (leftS need p.parts n) (pks.drop (i + 1)) (now.take i ++ [(n : Int)]) (price + n * p.price) (size + n) t) b n ∧
          (iterS (fun n t => buyS pks f (leftS need p.parts n) (price + n * p.price) (size + n) (t.1.set i n, t.2)) (now, b) n).1.take i = now.take i ∧
          (iterS (fun n t => buyS pks f (leftS need p.parts n) (price + n * p.price) (size + n) (t.1.set i n, t.2)) (now, b) n).1.length = pks.length := by
        intro n
        induction n with
        | zero => exact ⟨rfl, rfl, hnow⟩
        | succ n iu =>
          obtain ⟨u1, u2, u3⟩ := iu
          have hpp := fun k => hpd.get (List.mem_cons_self ..) k
          have e : ∀ s : List Int × Bst, s.1.length = pks.length → s.1.take i = now.take i →
              (buyS pks f (leftS need p.parts n) (price + n * p.price) (size + n) (s.1.set i n, s.2)).2 = foldS M (leftS need p.parts n) (pks.drop (i + 1)) (now.take i ++ [(n : Int)]) (price + n * p.price) (size + n) s.2 ∧
              (buyS pks f (leftS need p.parts n) (price + n * p.price) (size + n) (s.1.set i n, s.2)).1.take i = now.take i ∧
              (buyS pks f (leftS need p.parts n) (price + n * p.price) (size + n) (s.1.set i n, s.2)).1.length = pks.length := by
            intro s hs1 hs2
            obtain ⟨v1, v2⟩ := ih (i + 1) (by omega) (leftS need p.parts n) (price + n * p.price) (size + n) (s.1.set i n) s.2 (by rw [leftS_len]; exact hl) (fun k hk => by
              rw [leftS_len] at hk
              rw [leftS_get _ _ _ hk]
              have h1 := hn k hk
              have h2 := Int.mul_nonneg (Int.natCast_nonneg n) (hpp k)
              omega) (by rw [List.length_set]; exact hs1)
            rw [set_take _ (by omega), hs2] at v1 v2
            refine ⟨v1, ?_, by rw [buy_len, List.length_set]; exact hs1⟩
            have := congrArg (List.take i) v2
            rw [List.take_take, Nat.min_eq_left (by omega), List.take_append_of_le_length (by rw [List.length_take]; omega), List.take_take, Nat.min_self] at this
            exact this
          obtain ⟨e1, e2, e3⟩ := e _ u3 u2
          refine ⟨?_, e2, e3⟩
          show (buyS _ _ _ _ _ _).2 = foldS _ _ _ _ _ _ _
          rw [e1, u1]
      exact ⟨(key u).1, (key u).2.1⟩
end Go.Proofs.YtmndcdjcodfchaaGreatDoor
namespace Go.Proofs.YtmndcdjcodfchaaGreatDoor
def nextS : List Int → List Int → Option (List Int)
  | c :: cs, n :: o => match nextS cs o with
    | some t => some (n :: t)
    | none => if n < c then some ((n + 1) :: List.replicate cs.length 0) else none
  | _, _ => none
theorem ordsS_cons (c : Int) (cs : List Int) : ordsS (c :: cs) = (List.range (c + 1).toNat).flatMap fun (n : Nat) => (ordsS cs).map fun o => (n : Int) :: o := rfl
def restS : List Int → List Int → List (List Int)
  | c :: cs, n :: o => (restS cs o).map (fun t => n :: t) ++ (List.range (c - n).toNat).flatMap fun (m : Nat) => (ordsS cs).map fun t => (n + 1 + m) :: t
  | _, _ => [[]]
theorem flatMap_congr2 {β : Type} : ∀ (L : List Nat) (f g : Nat → List β), (∀ x ∈ L, f x = g x) → L.flatMap f = L.flatMap g := by
  intro L
  induction L with
  | nil => intro _ _ _; rfl
  | cons a L ih =>
    intro f g h
    rw [List.flatMap_cons, List.flatMap_cons, h a (List.mem_cons_self ..), ih f g fun x hx => h x (List.mem_cons_of_mem _ hx)]
theorem rest_zero : ∀ {cs : List Int}, (∀ c ∈ cs, 0 ≤ c) → restS cs (List.replicate cs.length 0) = ordsS cs := by
  intro cs
  induction cs with
  | nil => intro _; rfl
  | cons c cs ih =>
    intro h
    have hc := h c (List.mem_cons_self ..)
    have e := ih fun x hx => h x (List.mem_cons_of_mem _ hx)
    obtain ⟨m, hm⟩ : ∃ m, (c + 1).toNat = m + 1 := ⟨c.toNat, by omega⟩
    rw [List.length_cons, List.replicate_succ]
    unfold restS
    rw [ordsS_cons, e, hm, List.range_succ_eq_map, List.flatMap_cons, List.flatMap_map, show (c - 0).toNat = m by omega]
    congr 1
    refine flatMap_congr2 _ _ _ fun x _ => ?_
    have : (0 : Int) + 1 + (x : Int) = ((x.succ : Nat) : Int) := by omega
    rw [this]
theorem rest_next : ∀ {cs o : List Int}, o.length = cs.length → (∀ c ∈ cs, 0 ≤ c) → restS cs o = o :: (match nextS cs o with | some t => restS cs t | none => []) := by
  intro cs
  induction cs with
  | nil =>
    intro o ho _
    have : o = [] := List.eq_nil_of_length_eq_zero ho
    subst this
    rfl
  | cons c cs ih =>
    intro o ho h
    cases o with
    | nil => simp at ho
    | cons n o =>
      have hc := h c (List.mem_cons_self ..)
      have hcs := fun x hx => h x (List.mem_cons_of_mem _ hx)
      have e := ih (o := o) (by simpa using ho) hcs
      unfold nextS
      conv => lhs; unfold restS
      rw [e]
      cases hx : nextS cs o with
      | some t =>
        dsimp only
        conv => rhs; unfold restS
        rw [List.map_cons, List.cons_append]
      | none =>
        dsimp only
        rw [List.map_cons, List.map_nil, List.singleton_append]
        congr 1
        by_cases hn : n < c
        · rw [if_pos hn]
          dsimp only
          conv => rhs; unfold restS
          rw [rest_zero hcs]
          obtain ⟨m, hm⟩ : ∃ m, (c - n).toNat = m + 1 := ⟨(c - n).toNat - 1, by omega⟩
          rw [hm, List.range_succ_eq_map, List.flatMap_cons, List.flatMap_map, show (c - (n + 1)).toNat = m by omega]
          congr 1
          · rw [show n + 1 + ((0 : Nat) : Int) = n + 1 by omega]
          · refine flatMap_congr2 _ _ _ fun x _ => ?_
            have : n + 1 + ((x.succ : Nat) : Int) = n + 1 + 1 + (x : Int) := by omega
            rw [this]
        · rw [if_neg hn]
          rw [show (c - n).toNat = 0 by omega]
          rfl
theorem next_step : ∀ {pre cs o : List Int} {c n : Int}, nextS cs o = none → n < c → o.length = cs.length → ∀ (pc : List Int), pc.length = pre.length → nextS (pc ++ c :: cs) (pre ++ n :: o) = some (pre ++ (n + 1) :: List.replicate cs.length 0) := by
  intro pre
  induction pre with
  | nil =>
    intro cs o c n h hn _ pc hpc
    have : pc = [] := List.eq_nil_of_length_eq_zero hpc
    subst this
    rw [List.nil_append, List.nil_append]
    unfold nextS
    rw [h]
    dsimp only
    rw [if_pos hn]
    rfl
  | cons a pre ih =>
    intro cs o c n h hn ho pc hpc
    cases pc with
    | nil => simp at hpc
    | cons b pc =>
      rw [List.cons_append, List.cons_append]
      unfold nextS
      rw [ih h hn ho pc (by simpa using hpc)]
      rfl
theorem next_none {c n : Int} {cs o : List Int} (h : nextS cs o = none) (hn : ¬ n < c) : nextS (c :: cs) (n :: o) = none := by
  unfold nextS
  rw [h]
  dsimp only
  rw [if_neg hn]
theorem fold_found {need : List Int} {ps : List Pk} {A : List (List Int)} : ∀ (L : List (List Int)) (b : Bst), (∀ o ∈ L, o ∈ A) → (b.found = true → b.order ∈ A ∧ meetS need ps b.order = true ∧ b.price = costS ps b.order ∧ b.size = totS b.order) →
    ((L.foldl (trySt need ps [] 0 0) b).found = true → (L.foldl (trySt need ps [] 0 0) b).order ∈ A ∧ meetS need ps (L.foldl (trySt need ps [] 0 0) b).order = true ∧ (L.foldl (trySt need ps [] 0 0) b).price = costS ps (L.foldl (trySt need ps [] 0 0) b).order ∧ (L.foldl (trySt need ps [] 0 0) b).size = totS (L.foldl (trySt need ps [] 0 0) b).order) := by
  intro L
  induction L with
  | nil => intro b _ h; exact h
  | cons a L ih =>
    intro b hA h
    rw [List.foldl_cons]
    refine ih _ (fun o ho => hA o (List.mem_cons_of_mem _ ho)) ?_
    unfold trySt
    split
    · rename_i hc
      rw [Bool.and_eq_true] at hc
      intro _
      refine ⟨hA a (List.mem_cons_self ..), hc.1, ?_, ?_⟩
      · show 0 + costS ps a = costS ps ([] ++ a); rw [List.nil_append]; omega
      · show 0 + totS a = totS ([] ++ a); rw [List.nil_append]; omega
    · exact h
theorem fold_best (M : Int) (need : List Int) (ps : List Pk) : Best M need ps (foldS M need ps [] 0 0 bst0) := by
  have hl : ∀ o ∈ ordsS (capsS M ps), meetS need ps o = true → betterS (foldS M need ps [] 0 0 bst0).found (foldS M need ps [] 0 0 bst0).price (foldS M need ps [] 0 0 bst0).size (costS ps o) (totS o) = false := fun o ho hm => by
    have := fold_done (need := need) (ps := ps) (pre := []) (price := 0) (size := 0) (ordsS (capsS M ps)) bst0 ho hm
    rw [Int.zero_add, Int.zero_add] at this
    exact this
  refine ⟨fold_found _ _ (fun o ho => ho) (fun h => by cases h), fun hf o ho => ?_, hl⟩
  cases hm : meetS need ps o
  · rfl
  · have := hl o ho hm
    unfold betterS at this
    rw [hf] at this
    simp at this
end Go.Proofs.YtmndcdjcodfchaaGreatDoor
namespace Go.Proofs.YtmndcdjcodfchaaGreatDoor
theorem mem_caps {M : Int} {ps : List Pk} {o : List Int} : o ∈ ordsS (capsS M ps) ↔ o.length = ps.length ∧ ∀ i, i < ps.length → 0 ≤ o.getD i 0 ∧ o.getD i 0 ≤ (ps.getD i pk0).most ∧ o.getD i 0 ≤ M := by
  rw [mem_ords]
  unfold capsS
  rw [List.length_map]
  constructor
  · rintro ⟨h1, h2⟩
    refine ⟨h1, fun i hi => ?_⟩
    obtain ⟨a, b⟩ := h2 i hi
    have : (ps.map fun p => min p.most M).getD i 0 = min (ps.getD i pk0).most M := by
      rw [getD_of (by rw [List.length_map]; exact hi), List.getElem_map, getD_of hi]
    rw [this] at b
    omega
  · rintro ⟨h1, h2⟩
    refine ⟨h1, fun i hi => ?_⟩
    obtain ⟨a, b, c⟩ := h2 i hi
    have : (ps.map fun p => min p.most M).getD i 0 = min (ps.getD i pk0).most M := by
      rw [getD_of (by rw [List.length_map]; exact hi), List.getElem_map, getD_of hi]
    rw [this]
    omega
theorem NonNeg.get {o : List Int} (h : NonNeg o) (i : Nat) : 0 ≤ o.getD i 0 := by
  by_cases hi : i < o.length
  · exact h _ (getD_mem hi)
  · rw [List.getD_eq_getElem?_getD, List.getElem?_eq_none (by omega)]; exact Int.le_refl _
end Go.Proofs.YtmndcdjcodfchaaGreatDoor
namespace Go.Proofs.YtmndcdjcodfchaaGreatDoor
theorem of_right {pks : List Pk} {need : List Int} (h : Right pks need) : checkS pks need = 0 := by
  unfold checkS
  rw [if_neg (by have := h.k0; omega), if_neg (by have := h.k1; omega), if_neg (by rw [any_neg.2 h.nd]; simp), if_neg (by have := h.pl; omega)]
  refine first_end fun j hj => ?_
  have hm := getD_mem (d := pk0) hj
  unfold parcelS
  have h2 : [(pks.getD j pk0).price, (pks.getD j pk0).most].any isNeg = false := any_neg.2 fun x hx => by
    simp only [List.mem_cons, List.not_mem_nil, or_false] at hx
    rcases hx with rfl | rfl
    · exact h.price _ hm
    · exact h.most _ hm
  rw [if_neg (by rw [h.parts _ hm]; simp), if_neg (by rw [any_neg.2 (h.num _ hm)]; simp), if_neg (by rw [h2]; simp)]
end Go.Proofs.YtmndcdjcodfchaaGreatDoor
namespace Go.Proofs.YtmndcdjcodfchaaGreatDoor
open Go.RowKit
theorem Searched.limit {pks : List Pk} {need : List Int} (h : Searched pks need) : ¬ (5 < pks.length ∨ 20 < maxK need (need.length - 1)) := by
  have h1 := h.len
  have h2 : maxK need (need.length - 1) ≤ 20 := maxK_le _ fun i hi => (h.nd _ (getD_mem (by have := h.r.k0; omega))).2
  omega
end Go.Proofs.YtmndcdjcodfchaaGreatDoor
namespace Go.Proofs.YtmndcdjcodfchaaGreatDoor
open Go.RowKit
set_option maxHeartbeats 1000000 in
theorem rPrice_nil (pks : List Pk) (need : List Int) (pa : Option Addr) (pc : Nat) (na : Option Addr) (nc : Nat) (oa : Option Addr) (oc : Nat) (w : World) :
    Calls Tryz.prog 48 #[taskV pks need pa pc na nc, .slice oa 0 oc] w fun e w' => e = .returned (.int .i64 0) ∧ Ext w w' := by
  unfold taskV
  have E0 : Ext w (w.alloc (.cells #[.slice pa pks.length pc, .slice na need.length nc] 30)) := (Ext.refl _).alloc _
  go_enter Tryz.func48, Tryz.ntmps48
  go_wp2
  generalize w.alloc (.cells #[.slice pa pks.length pc, .slice na need.length nc] 30) = W at E0 ⊢
  go_loopw [5, 6] (fun m i wr => i = .int .i64 0 ∧ m = .int .i64 0 ∧ wr = W) (fun _ _ _ => 0)
  case atStart => exact ⟨rfl, rfl, rfl⟩
  case round =>
    obtain ⟨rfl, rfl, rfl⟩ := hrel
    go_wp2
    go_ret
    exact ⟨rfl, E0⟩
end Go.Proofs.YtmndcdjcodfchaaGreatDoor
namespace Go.Proofs.YtmndcdjcodfchaaGreatDoor
open Go.ChangeShapes Go.WideShapes Go.ChangeAt Go.RowKit
theorem own : ownKnob Tryz.prog.godebug = none := by kernel_rfl
theorem gTab : Tryz.prog.globalNamed "internal/strconv.uint64pow10" = some 1 := by kernel_rfl
theorem gTabT : (Tryz.prog.globals[1]?).map (·.type) = some 208 := by kernel_rfl
theorem cellsTab : Tryz.prog.cellsOf 208 = 20 := by kernel_rfl
theorem cellsU64 : Tryz.prog.cellsOf 139 = 1 := by kernel_rfl
theorem gRng : Tryz.prog.globalNamed "strconv.ErrRange" = some 5 := by kernel_rfl
theorem gRngT : (Tryz.prog.globals[5]?).map (·.type) = some 175 := by kernel_rfl
theorem gSyn : Tryz.prog.globalNamed "strconv.ErrSyntax" = some 4 := by kernel_rfl
theorem gSynT : (Tryz.prog.globals[4]?).map (·.type) = some 175 := by kernel_rfl
theorem starE : "*" ++ "errors.errorString" = "*errors.errorString" := by decide
theorem rowE (u : TypeId) (h : Tryz.prog.typeName? 3 u = some "*errors.errorString") : u = 243 :=
  typeName_ptr_named (nm := "errors.errorString") (by rw [starE]; kernel_rfl) (by kernel_rfl) (by decide) u (by rw [starE]; exact h)
theorem cellsErr : Tryz.prog.cellsOf 245 = 1 := by kernel_rfl
theorem cellsStr : Tryz.prog.cellsOf 9 = 1 := by kernel_rfl
theorem glob_of {W : World} (hs : W.ShapedOpen Tryz.prog) (hL : laidMetH Tryz.prog Rows.stockCostsRow.laid W) : Glob W := by
  have hP : laidMet Tryz.prog Rows.stockCostsRow.laid W := by
    rw [← MakeChecks.laidMetH_plain _ _ _ (by kernel_rfl)]; exact hL
  have hP2 := hP.tail.tail
  have hP4 := hP2.tail.tail
  have hP5 := hP4.tail
  obtain ⟨a0, _, h0, _⟩ := laid_sentinel hP4 gRng gRngT Tryz.underlying175 rowE Tryz.underlying243 Tryz.underlying245 rfl rfl Tryz.underlying9 cellsErr cellsStr
  obtain ⟨a1, _, h1, _⟩ := laid_sentinel hP5 gSyn gSynT Tryz.underlying175 rowE Tryz.underlying243 Tryz.underlying245 rfl rfl Tryz.underlying9 cellsErr cellsStr
  exact ⟨cell_of_shapedOpen_int (zero := #[.int .i64 0]) (t := 3) hs (of_decide_eq_true (by kernel_rfl)) (by kernel_rfl) rfl (by kernel_rfl) (by kernel_rfl) Tryz.underlying3,
    Lib.tabIs_of_head gTab gTabT Tryz.underlying208 Tryz.underlying139 cellsU64 cellsTab hP2, ⟨_, _, h1⟩, ⟨_, _, h0⟩⟩
def flatD : Nat → DataW Unit → List Value
  | _ + 1, .lit (.int k z) => [.int k z]
  | n + 1, .agg ds => ds.flatMap (flatD n)
  | _, _ => []
def putC (cs : List Value) : Obj → Obj
  | .cells _ t frozen => .cells ⟨cs⟩ t frozen
  | o => o
noncomputable def lowB : Nat := (World.holding Tryz.prog default ⟨#[], #[], []⟩).heap.size
def rngS : ByteArray := ⟨#[118, 97, 108, 117, 101, 32, 111, 117, 116, 32, 111, 102, 32, 114, 97, 110, 103, 101]⟩
def synS : ByteArray := ⟨#[105, 110, 118, 97, 108, 105, 100, 32, 115, 121, 110, 116, 97, 120]⟩
noncomputable def laidWorld (os : Os) : World :=
  let w0 := World.holding Tryz.prog os ⟨#[.cells #[.string rngS] 245, .cells #[.string synS] 245], #[], []⟩
  { w0 with heap := (((((((w0.heap.modify 6 (putC (flatD 3 Rows.laid_math_bits_deBruijn32tab))).modify 7 (putC (flatD 3 Rows.laid_math_bits_deBruijn64tab))).modify
      1 (putC (flatD 3 Rows.laid_internal_strconv_uint64pow10))).modify 3 (putC (flatD 3 Rows.laid_unicode_utf8_acceptRanges))).modify
      5 (putC [.iface 243 (.pointer (some ⟨lowB, 0, none⟩))])).modify 4 (putC [.iface 243 (.pointer (some ⟨lowB + 1, 0, none⟩))])).modify
      2 (putC (flatD 3 Rows.laid_unicode_utf8_first))) }
theorem laid_met (os : Os) (args : Array Value) : laidMet Tryz.prog Rows.stockCostsRow.laid ((laidWorld os).forCall (fun _ _ => 0) ⟨#[], args, []⟩).memory :=
  laidMet_of_run' 8 (by kernel_rfl) (by kernel_rfl)
end Go.Proofs.YtmndcdjcodfchaaGreatDoor
namespace Go.Proofs.YtmndcdjcodfchaaGreatDoor
open Go.RowKit
theorem run_app_empty {P : Program} (w : World) (t ty e : TypeId) (i : TypeInfo) (ht : P.underlying t = some (.slice e)) (hi : P.info? e = some i) (g : Addr) (n cap : Nat) (hn : n ≤ cap) (a : Option Addr) (c : Nat) :
    (Builtin.append_ #[t, t] ty #[.slice (some g) n cap, .slice a 0 c]).run P w = .ok (.slice (some g) n cap) w := by
  cases a <;> simp [Builtin.append_, run_underlying ht, sizeOf, typeInfo, hi, hn, Builtin.lenOf, Builtin.firstCells, loadCells, storeCells, loadCellsFrom]
theorem CellsI.news {w : World} {a : Addr} {l : List Int} (h : CellsI w (some a) l) : ∀ j u, (vals l)[j]? = some u → w.cell? (a.add j) = some u := by
  intro j u hj
  have hjl : j < l.length := by
    have := (List.getElem?_eq_some_iff.1 hj).1
    simpa [vals] using this
  obtain ⟨b, off, e, c⟩ := h j hjl
  cases e
  rw [Addr.add_lit, c, ← hj]
  simp [vals, List.getD, hjl]
theorem copy_run {w : World} {a : Option Addr} {l : List Int} (cap : Nat) (hc : CellsI w a l) (hl : l.length ≤ 100000) :
    ∃ v' w', (Builtin.append_ #[23, 23] 23 #[.slice (some ⟨w.heap.size, 0, none⟩) 0 0, .slice a l.length cap]).run Tryz.prog (w.alloc (.cells #[] 3)) = .ok v' w' ∧ OwnsI w' v' l ∧ (∀ b, v'.ownBlock = some b → w.heap.size ≤ b) ∧ Ext w w' := by
  obtain ⟨i0, hi, hi0, hi1, hi2⟩ := info_parts infoInt
  have E : Ext w (w.alloc (.cells #[] 3)) := (Ext.refl _).alloc _
  have hown : (w.alloc (.cells #[] 3)).ownsRow 0 3 1 (.slice (some ⟨w.heap.size, 0, none⟩) 0 0) 0 [] := World.ownsRow_lit w #[] 0 (Nat.zero_le _) (Nat.zero_le _) rfl
  have hv : ∀ b, (Value.slice (some ⟨w.heap.size, 0, none⟩) 0 0).ownBlock = some b → w.heap.size ≤ b := fun b hb => by have e : w.heap.size = b := Option.some.inj hb; omega
  by_cases h0 : l.length = 0
  · have hle : l = [] := List.eq_nil_of_length_eq_zero h0
    subst hle
    exact ⟨_, _, run_app_empty _ _ _ _ i0 Tryz.underlying23 hi _ _ _ (Nat.le_refl _) _ _, hown, hv, E⟩
  · obtain ⟨b, off, rfl, _⟩ := hc 0 (by omega)
    have hvl : (vals l).length = l.length * 1 := by simp [vals]
    obtain ⟨v', w', hr, h2, he⟩ := run_append1 (P := Tryz.prog) (w.alloc (.cells #[] 3)) 23 23 3 i0 (.int .i64 0) 1 8 Tryz.underlying23 hi hi0 hi1 hi2 rfl (by decide) _ 0 [] hown ⟨b, off, none⟩ l.length cap (by omega) (vals l) hvl (hc.ext E).news (by
      intro u hu
      obtain ⟨x, _, rfl⟩ := List.mem_map.1 hu
      rfl) (by unfold maxLen; omega) (by omega)
    refine ⟨v', w', hr, ?_, he.ge E.size hv, E.trans' (he.below E.size hv) (Nat.le_refl _)⟩
    unfold OwnsI
    rw [Nat.zero_add, List.nil_append] at h2
    exact h2
def mostT (need : List Int) : Nat → Int
  | 0 => 0
  | k + 1 => max (mostT need k) (need.getD k 0)
theorem mostT_ge (need : List Int) : ∀ k, 0 ≤ mostT need k ∧ ∀ i, i < k → need.getD i 0 ≤ mostT need k := by
  intro k
  induction k with
  | zero => exact ⟨Int.le_refl _, fun i hi => absurd hi (Nat.not_lt_zero i)⟩
  | succ k ih =>
    unfold mostT
    refine ⟨by omega, fun i hi => ?_⟩
    rcases Nat.lt_or_eq_of_le (Nat.le_of_lt_succ hi) with h | rfl
    · have := ih.2 i h; omega
    · omega
set_option maxHeartbeats 4000000 in
theorem rMost_any {pks : List Pk} {need : List Int} {pa : Option Addr} {pc : Nat} {na : Option Addr} {nc : Nat} {w : World} (ht : TaskG w pks need pa pc na nc) (hk : need.length ≤ 100) :
    Calls Tryz.prog 39 #[taskV pks need pa pc na nc] w fun e w' => e = .returned (.int .i64 (mostT need need.length)) ∧ Ext w w' := by
  unfold taskV
  have HD := Lib.hid ht.nd
  obtain ⟨N, hN⟩ : ∃ N, N = pks.length := ⟨_, rfl⟩
  obtain ⟨K, hK⟩ : ∃ K, K = need.length := ⟨_, rfl⟩
  rw [← hN, ← hK]
  rw [← hK] at hk
  have HK := Lib.hid hK
  clear ht hN hK
  have E0 : Ext w (w.alloc (.cells #[.slice pa N pc, .slice na K nc] 30)) := (Ext.refl _).alloc _
  have y2 : (w.alloc (.cells #[.slice pa N pc, .slice na K nc] 30)).cell? ⟨w.heap.size, 1, none⟩ = some (.slice na K nc) := by go_simp
  go_enter Tryz.func39, Tryz.ntmps39
  go_wp2
  generalize w.alloc (.cells #[.slice pa N pc, .slice na K nc] 30) = W at E0 y2 ⊢
  go_loopw [3, 4] (fun m i wr => ∃ k : Nat, k ≤ K ∧ i = .int .i64 k ∧ m = .int .i64 (mostT need k) ∧ Ext W wr) (fun _ i _ => K - (intOf i).toNat)
  case atStart => exact ⟨0, Nat.zero_le _, rfl, rfl, Ext.refl _⟩
  case round =>
    obtain ⟨k, hk2, rfl, rfl, he⟩ := hrel
    have y2 := he.cell y2
    have z0 := cell_lt y2
    dsimp only at z0
    by_cases hlt : k < K
    · have hlt' : (k : Int) < (K : Int) := by omega
      obtain ⟨b2, o2, rfl, c2⟩ := HD.out.ext (E0.trans he) k (by rw [← HK.out]; exact hlt)
      have hst : mostT need (k + 1) = max (mostT need k) (need.getD k 0) := rfl
      generalize need.getD k 0 = x at c2 hst
      generalize mostT need k = m at hst ⊢
      have HST := Lib.hid hst
      have z1 := cell_lt c2
      dsimp only at z1
      clear hst
      go_wp2
      all_goals refine ⟨⟨k + 1, by omega, by go_num, ?_, he⟩, by simp [intOf]; omega⟩
      all_goals (first | (rw [HST.out]; done) | (rw [HST.out]; congr 1; omega))
    · have hke : k = K := by omega
      subst hke
      have hlt' : ¬ (k : Int) < (k : Int) := by omega
      go_wp2
      go_ret
      exact ⟨rfl, E0.trans he⟩
def totT (o : List Int) (j : Nat) : Int := totS (o.take j)
theorem totT_succ : ∀ {o : List Int} {j : Nat}, j < o.length → totT o (j + 1) = totT o j + o.getD j 0 := by
  intro o
  induction o with
  | nil => intro j h; exact absurd h (Nat.not_lt_zero j)
  | cons n o ih =>
    intro j h
    cases j with
    | zero =>
      show n + totS (o.take 0) = 0 + n
      rw [List.take_zero]
      unfold totS
      omega
    | succ j =>
      have := ih (j := j) (by simpa using h)
      show n + totT o (j + 1) = n + totT o j + o.getD j 0
      omega
theorem totT_full {o : List Int} {j : Nat} (h : j = o.length) : totT o j = totS o := by unfold totT; rw [List.take_of_length_le (by omega)]
theorem totT_bd {o : List Int} {B : Int} (hB : 0 ≤ B) (h : ∀ i, i < o.length → 0 ≤ o.getD i 0 ∧ o.getD i 0 ≤ B) : ∀ j, j ≤ o.length → 0 ≤ totT o j ∧ totT o j ≤ j * B := by
  intro j
  induction j with
  | zero => intro _; unfold totT; rw [List.take_zero]; unfold totS; omega
  | succ j ih =>
    intro hj
    have h1 := ih (by omega)
    have h2 := h j (by omega)
    rw [totT_succ (by omega), show ((j + 1 : Nat) : Int) = (j : Int) + 1 by omega, Int.add_mul]
    omega
set_option maxHeartbeats 4000000 in
theorem rTotal_any (l : List Int) (a : Option Addr) (cap : Nat) (w : World) (hc : CellsI w a l) (hm : l.length ≤ 100) (hb : ∀ i, i < l.length → 0 ≤ l.getD i 0 ∧ l.getD i 0 ≤ 1048576) :
    Calls Tryz.prog 72 #[.slice a l.length cap] w fun e w' => e = .returned (.int .i64 (totS l)) ∧ Ext w w' := by
  have HC := Lib.hid hc
  have HB := Lib.hid (totT_bd (B := 1048576) (by omega) hb)
  have hf : totT l l.length = totS l := totT_full rfl
  obtain ⟨n, hn⟩ : ∃ n, n = l.length := ⟨_, rfl⟩
  rw [← hn] at hf hm ⊢
  have HN := Lib.hid hn
  have HF := Lib.hid hf
  generalize totS l = t at HF ⊢
  clear hc hb hf hn
  go_enter Tryz.func72, Tryz.ntmps72
  go_wp2
  go_loopw [3, 4] (fun m i wr => ∃ k : Nat, k ≤ n ∧ i = .int .i64 k ∧ m = .int .i64 (totT l k) ∧ Ext w wr) (fun _ i _ => n - (intOf i).toNat)
  case atStart => exact ⟨0, Nat.zero_le _, rfl, rfl, Ext.refl _⟩
  case round =>
    obtain ⟨k, hk, rfl, rfl, he⟩ := hrel
    by_cases hlt : k < n
    · have hlt' : (k : Int) < (n : Int) := by omega
      have hkl : k < l.length := by rw [← HN.out]; exact hlt
      obtain ⟨b1, o1, rfl, c1⟩ := HC.out.ext he k hkl
      have hs := totT_succ hkl
      have hb := HB.out (k + 1) (by omega)
      rw [hs] at hb
      generalize l.getD k 0 = x at c1 hs hb
      generalize totT l k = s at hs hb ⊢
      have HS := Lib.hid hs
      have q1 : IntKind.i64.wrap (s + x) = s + x := IntWalk.i64_in _ (by omega)
      have z1 := cell_lt c1
      dsimp only at z1
      clear hs hb hkl
      go_wp2
      exact ⟨⟨k + 1, by omega, by go_num, by rw [HS.out], he⟩, by simp [intOf]; omega⟩
    · have hke : k = n := by omega
      subst hke
      have hlt' : ¬ (k : Int) < (k : Int) := by omega
      rw [HF.out]
      go_wp2
      go_ret
      exact ⟨rfl, he⟩
theorem tz_set {o : List Int} {t : Nat} (ht : t < o.length) (x : Int) (k : Nat) : (o.take (t + 1) ++ List.replicate k 0).set t x = o.take t ++ x :: List.replicate k 0 := by
  rw [List.take_succ_eq_append_getElem ht, List.append_assoc, List.set_append_right _ _ (by simp; omega)]
  congr 1
  rw [List.length_take, Nat.min_eq_left (by omega), Nat.sub_self]
  rfl
theorem tz_get {o : List Int} {t : Nat} (ht : t < o.length) (k : Nat) : (o.take (t + 1) ++ List.replicate k 0).getD t 0 = o.getD t 0 := by
  rw [List.getD_eq_getElem?_getD, List.getElem?_append_left (by simp; omega), List.getElem?_take_of_lt (by omega), List.getD_eq_getElem?_getD]
theorem caps_len (m : Int) (pks : List Pk) : (capsS m pks).length = pks.length := by unfold capsS; simp
theorem caps_get {m : Int} {pks : List Pk} {t : Nat} (ht : t < pks.length) : (capsS m pks).getD t 0 = min (pks.getD t pk0).most m := by
  unfold capsS
  rw [getD_of (by rw [List.length_map]; exact ht), List.getElem_map, getD_of ht]
theorem drop_at {l : List Int} {t : Nat} (h : t < l.length) : l.drop t = l.getD t 0 :: l.drop (t + 1) := by
  rw [List.drop_eq_getElem_cons h, getD_of h]
theorem next_yes {cs o : List Int} {t : Nat} (hl : o.length = cs.length) (ht : t < cs.length) (h : nextS (cs.drop (t + 1)) (o.drop (t + 1)) = none) (hx : o.getD t 0 < cs.getD t 0) : nextS cs o = some (o.take t ++ (o.getD t 0 + 1) :: List.replicate (cs.length - (t + 1)) 0) := by
  have h1 := next_step (pre := o.take t) h hx (by rw [List.length_drop, List.length_drop, hl]) (cs.take t) (by rw [List.length_take, List.length_take, hl])
  rw [← drop_at ht, ← drop_at (by omega), List.take_append_drop, List.take_append_drop, List.length_drop] at h1
  exact h1
theorem next_no {cs o : List Int} {t : Nat} (hl : o.length = cs.length) (ht : t < cs.length) (h : nextS (cs.drop (t + 1)) (o.drop (t + 1)) = none) (hx : ¬ o.getD t 0 < cs.getD t 0) : nextS (cs.drop t) (o.drop t) = none := by
  rw [drop_at ht, drop_at (l := o) (by omega)]
  exact next_none h hx
theorem wpList_app {P : Program} (w : World) {ops : Array Oper} {rest : List Oper} {o : Oper} {a : Act} {Q : Exit → Act → World → Prop} (hgd : o.guard = none) (s x : Operand) (t : TypeId)
    (ho : o.op = .call { callee := .builtin .append, args := #[s, x], argTypes := #[t, t] }) (v y : Value) (hs : a.eval s = v) (hx : a.eval x = y)
    (v' : Value) (w' : World) (hr : (Builtin.append_ #[t, t] o.type #[v, y]).run P w = .ok v' w') (h : wpList P ops Q rest (a.put o.dst v') w') : wpList P ops Q (o :: rest) a w := by
  refine wpList_plain hgd fun K hK => ?_
  unfold Oper.wp execOp
  simp only [ho, resolve, invoke, builtin, Sem.run_bind, Sem.run_pure, Result.andThen_ok, List.map_toArray, List.map_cons, List.map_nil, hs, hx, hr]
  exact hK _ _ h
def NextP (cs order : List Int) (w : World) (e : Ending) (w' : World) : Prop :=
  (∃ t a cap, nextS cs order = some t ∧ e = .returned (.tuple #[.slice a t.length cap, .bool true]) ∧ CellsI w' a t ∧ Ext w w') ∨ (nextS cs order = none ∧ e = .returned (.tuple #[.slice none 0 0, .bool false]) ∧ Ext w w')
set_option maxHeartbeats 8000000 in
set_option maxRecDepth 100000 in
theorem rNext_any {pks : List Pk} {need order : List Int} {m : Int} {pa : Option Addr} {pc : Nat} {na : Option Addr} {nc : Nat} {oa : Option Addr} {oc : Nat} {w : World} (ht : TaskG w pks need pa pc na nc) (ho : CellsI w oa order) (hol : order.length = pks.length) (hp : pks.length ≤ 100) (hob : ∀ i, i < order.length → 0 ≤ order.getD i 0 ∧ order.getD i 0 ≤ 1048576) :
    Calls Tryz.prog 73 #[taskV pks need pa pc na nc, .slice oa order.length oc, .int .i64 m] w fun e w' => NextP (capsS m pks) order w e w' := by
  unfold taskV NextP
  have HP := Lib.hid ht.pk
  have HB := Lib.hid hob
  obtain ⟨N, hN⟩ : ∃ N, N = pks.length := ⟨_, rfl⟩
  obtain ⟨K, hK⟩ : ∃ K, K = need.length := ⟨_, rfl⟩
  have hcl := caps_len m pks
  have HCG : Hid (∀ t, t < N → (capsS m pks).getD t 0 = min (pks.getD t pk0).most m) := fun t h => caps_get (by omega)
  generalize capsS m pks = cs at hcl HCG ⊢
  have HL := Lib.hid (show order.length = N ∧ cs.length = N ∧ N = pks.length from ⟨by omega, by omega, hN⟩)
  have E0 : Ext w (w.alloc (.cells #[.slice pa N pc, .slice na K nc] 30)) := extA
  have y1 : (w.alloc (.cells #[.slice pa N pc, .slice na K nc] 30)).cell? ⟨w.heap.size, 0, none⟩ = some (.slice pa N pc) := by go_simp
  obtain ⟨v', w2, hr, hO, hB, hE⟩ := copy_run (w := (w.alloc (.cells #[.slice pa N pc, .slice na K nc] 30))) (a := oa) (l := order) oc (ho.ext E0) (by omega)
  have y1 := hE.cell y1
  have E2 := E0.trans hE
  have hbw : ∀ b, v'.ownBlock = some b → w.heap.size < b := fun b hb => by
    have h1 := hB b hb
    have h2 := cell_lt (show (w.alloc (.cells #[.slice pa N pc, .slice na K nc] 30)).cell? ⟨w.heap.size, 0, none⟩ = some (.slice pa N pc) by go_simp)
    dsimp only at h2
    omega
  obtain ⟨va, vc, hv, hvc, hvr⟩ := hO.reads
  rw [hol, ← hN] at hv hr ⊢
  rw [← hN] at hp
  subst hv
  have HR := Lib.hid hr
  have hsz : (w.alloc (.cells #[.slice pa N pc, .slice na K nc] 30)).heap.size = w.heap.size + 1 := by
    show (w.heap.push _).size = _
    exact Array.size_push _
  rw [hsz] at HR
  rw [← hK]
  clear hr hO hB hE hol hob ho ht E0 hcl hK
  go_enter Tryz.func73, Tryz.ntmps73
  have HLN := Lib.hid hN
  clear hN
  by_cases h0 : N = 0
  · subst h0
    have HNO : Hid (nextS cs order = none) := by
      have h1 : order = [] := List.eq_nil_of_length_eq_zero HL.out.1
      have h2 : cs = [] := List.eq_nil_of_length_eq_zero HL.out.2.1
      rw [h1, h2]
      rfl
    have z1 := cell_lt y1
    dsimp only at z1
    go_wp2_with (at_builtin; refine wpList_app _ rfl _ _ 23 rfl (.slice (some ⟨w.heap.size + 1, 0, none⟩) 0 0) (.slice oa 0 oc) rfl rfl (.slice va 0 vc) w2 HR.out ?_)
    go_loopw [9] (fun i wr => i = .int .i64 (-1) ∧ Ext w wr) (fun _ _ => 0)
    case atStart => exact ⟨rfl, E2⟩
    case round =>
      obtain ⟨rfl, he⟩ := hrel
      go_wp2
      go_ret2
      exact .inr ⟨HNO.out, rfl, he⟩
  rcases hvr with hvr | ⟨g, rfl, hvo, hvr⟩
  · exact absurd (by rw [← HL.out.1, hvr]; rfl) h0
  have hg := hbw g hvo
  have HA : Hid (ArrI w2 g order) := hvr
  have z1 := cell_lt y1
  dsimp only at z1
  have q0 : IntKind.i64.wrap ((N : Int) - 1) = (N : Int) - 1 := IntWalk.i64_in _ (by omega)
  have Y1 := Lib.hid y1
  clear hvr hvc hbw hvo
  go_wp2_with (at_builtin; refine wpList_app _ rfl _ _ 23 rfl (.slice (some ⟨w.heap.size + 1, 0, none⟩) 0 0) (.slice oa N oc) rfl rfl (.slice (some ⟨g, 0, none⟩) N vc) w2 HR.out ?_)
  go_loopw [9] (fun i wr => ∃ j : Nat, j ≤ N ∧ i = .int .i64 ((j : Int) - 1) ∧ Hid (ArrI wr g (order.take j ++ List.replicate (N - j) 0)) ∧ Hid (nextS (cs.drop j) (order.drop j) = none) ∧ Hid (Below (w.heap.size + 1) w2 wr)) (fun i _ => (intOf i + 1).toNat)
  case atStart => exact ⟨N, Nat.le_refl _, rfl, by
    show ArrI _ _ _
    rw [Nat.sub_self, List.replicate_zero, List.append_nil, List.take_of_length_le (by rw [HL.out.1]; exact Nat.le_refl _)]
    exact HA.out, by
    show _ = _
    rw [List.drop_of_length_le (by rw [HL.out.2.1]; exact Nat.le_refl _), List.drop_of_length_le (by rw [HL.out.1]; exact Nat.le_refl _)]
    rfl, Below.refl _ _⟩
  case round =>
    clear y1 z1
    obtain ⟨j, hj, rfl, ha, hn, hb⟩ := hrel
    have y1 := cellB hb.out (p := ⟨w.heap.size, 0, none⟩) (Nat.lt_succ_self _) Y1.out
    have z1 := cell_lt y1
    dsimp only at z1
    have EW : Ext w wr := Below.trans E2 (hb.out.mono (by omega))
    cases j with
    | zero =>
      have HNO : Hid (nextS cs order = none) := hn.out
      have e0 : (((0 : Nat) : Int) - 1) = -1 := by decide
      rw [e0]
      go_wp2
      go_ret2
      exact .inr ⟨HNO.out, rfl, EW⟩
    | succ t =>
      have htN : t < N := by omega
      have e0 : (((t + 1 : Nat) : Int) - 1) = (t : Int) := by omega
      rw [e0]
      have ht0 : (0 : Int) ≤ (t : Int) := Int.natCast_nonneg t
      have htI : (t : Int) < (N : Int) := by omega
      obtain ⟨b, off, v, rfl, c1, _, c2, c3⟩ := (HP.out.ext EW) t (by rw [← HLN.out]; exact htN)
      have hll : (order.take (t + 1) ++ List.replicate (N - (t + 1)) (0 : Int)).length = N := by rw [List.length_append, List.length_take, List.length_replicate, HL.out.1]; omega
      obtain ⟨e1, e2⟩ := ha.out t (by rw [hll]; exact htN)
      rw [tz_get (by rw [HL.out.1]; exact htN)] at e1
      have hob := HB.out t (by rw [HL.out.1]; exact htN)
      have hyes := next_yes (cs := cs) (o := order) (by rw [HL.out.1, HL.out.2.1]) (by rw [HL.out.2.1]; exact htN) hn.out
      have hno := next_no (cs := cs) (o := order) (by rw [HL.out.1, HL.out.2.1]) (by rw [HL.out.2.1]; exact htN) hn.out
      rw [HCG.out t htN, HL.out.2.1] at hyes
      rw [HCG.out t htN] at hno
      have hset := fun x => tz_set (o := order) (t := t) (by rw [HL.out.1]; exact htN) x (N - (t + 1))
      have HST : Hid (∀ x, ArrI ((wr.drewN 0).setCell ⟨g, t, none⟩ (.int .i64 x)) g (order.take t ++ x :: List.replicate (N - (t + 1)) 0)) := fun x => by
        have h9 := (ha.out.ext ((Ext.refl wr).drewN 0)).set (i := t) (by rw [hll]; exact htN) x
        rw [hset x] at h9
        exact h9
      clear HST
      have HA9 := Lib.hid ha.out
      generalize (pks.getD t pk0).most = mo at c3 hyes hno
      generalize order.getD t 0 = x at e1 hob hyes hno
      have HYES := Lib.hid hyes
      have HNOO := Lib.hid hno
      have HSET := Lib.hid hset
      have HLL := Lib.hid hll
      have q1 : IntKind.i64.wrap (x + 1) = x + 1 := IntWalk.i64_in _ (by omega)
      have q2 : IntKind.i64.wrap ((t : Int) - 1) = (t : Int) - 1 := IntWalk.i64_in _ (by omega)
      have zb := cell_lt c1
      have zg := cell_lt e1
      dsimp only at zb zg
      clear hyes hno hset ha hn hob hll
      have HBW := Lib.hid hb.out
      have HGW : Hid (w.heap.size + 1 ≤ g) := hg
      clear hb
      by_cases hx : x < min mo m
      · have HY := Lib.hid (HYES.out hx)
        go_wp2
        go_quiet (fail)
        go_wp2
        go_ret2
        refine .inl ⟨_, some ⟨g, 0, none⟩, vc, HY.out, ?_, ?_, ?_⟩
        · rw [show (order.take t ++ (x + 1) :: List.replicate (N - (t + 1)) (0 : Int)).length = N by rw [← HSET.out, List.length_set]; exact HLL.out]
          rfl
        · have h9 := (HA9.out.ext ((Ext.refl wr).drewN 10)).set (i := t) (by rw [HLL.out]; exact htN) (x + 1)
          rw [HSET.out] at h9
          exact h9.cells
        · exact Below.setCell (p := ⟨g, t, none⟩) (EW.drewN _) (by have := HGW.out; show w.heap.size ≤ g; omega) _
      · have HNN := Lib.hid (HNOO.out hx)
        go_wp2
        go_quiet (fail)
        go_wp2
        refine ⟨⟨t, by omega, rfl, ?_, HNN.out, ?_⟩, by simp [intOf]⟩
        · show ArrI _ _ _
          have h9 := (HA9.out.ext ((Ext.refl wr).drewN 10)).set (i := t) (by rw [HLL.out]; exact htN) 0
          rw [HSET.out] at h9
          rw [show N - t = (N - (t + 1)) + 1 by omega, List.replicate_succ]
          exact h9
        · exact Below.setCell (p := ⟨g, t, none⟩) (show Below (w.heap.size + 1) w2 (wr.drewN _) from ⟨HBW.out.os, HBW.out.tape, HBW.out.output, HBW.out.size, HBW.out.block⟩) HGW.out _
end Go.Proofs.YtmndcdjcodfchaaGreatDoor
namespace Go.Proofs.YtmndcdjcodfchaaGreatDoor
open Go.RowKit
def BestAt (pks : List Pk) (need : List Int) (b : Bst) (v : Value) (w : World) : Prop :=
  ∃ a cap, v = .slice a b.order.length cap ∧ CellsI w a b.order ∧ (b.found = true → Gives pks need b.order ∧ b.price = costS pks b.order ∧ b.size = totS b.order) ∧ (b.found = false → b.order = [])
theorem BestAt.ext {pks : List Pk} {need : List Int} {b : Bst} {v : Value} {w w' : World} (h : BestAt pks need b v w) (he : Ext w w') : BestAt pks need b v w' := by
  obtain ⟨a, cap, h1, h2, h3, h4⟩ := h
  exact ⟨a, cap, h1, h2.ext he, h3, h4⟩
theorem gives_caps {pks : List Pk} {need : List Int} {M : Int} (hr : Right pks need) {o : List Int} (h : o ∈ ordsS (capsS M pks)) : Gives pks need o := by
  obtain ⟨h1, h2⟩ := mem_caps.1 h
  exact ⟨hr, h1, fun i hi => ⟨(h2 i hi).1, (h2 i hi).2.1⟩⟩
theorem next_mem : ∀ {cs o t : List Int}, o ∈ ordsS cs → nextS cs o = some t → t ∈ ordsS cs := by
  intro cs
  induction cs with
  | nil => intro o t _ h; unfold nextS at h; cases h
  | cons c cs ih =>
    intro o t ho h
    obtain ⟨h1, h2⟩ := mem_ords.1 ho
    cases o with
    | nil => simp at h1
    | cons n o =>
      have h0 := h2 0 (by simp)
      have h0 : 0 ≤ n ∧ n ≤ c := h0
      have ho2 : o ∈ ordsS cs := mem_ords.2 ⟨by simpa using h1, fun i hi => h2 (i + 1) (by simpa using hi)⟩
      unfold nextS at h
      cases hx : nextS cs o with
      | some u =>
        rw [hx] at h
        cases h
        have hu := mem_ords.1 (ih ho2 hx)
        exact mem_ords.2 ⟨by simp [hu.1], fun i hi => by
          cases i with
          | zero => exact h0
          | succ i => exact hu.2 i (by simpa using hi)⟩
      | none =>
        rw [hx] at h
        dsimp only at h
        split at h
        · cases h
          refine mem_ords.2 ⟨by simp, fun i hi => ?_⟩
          cases i with
          | zero => show 0 ≤ n + 1 ∧ n + 1 ≤ c; omega
          | succ i =>
            have hi2 : i < cs.length := by simpa using hi
            have hc := ordsS_cons c cs
            have : 0 ≤ cs.getD i 0 := by
              have := mem_ords.1 ho2
              have := this.2 i hi2
              omega
            show 0 ≤ (List.replicate cs.length (0 : Int)).getD i 0 ∧ (List.replicate cs.length (0 : Int)).getD i 0 ≤ cs.getD i 0
            rw [getD_of (by simp; exact hi2), List.getElem_replicate]
            omega
        · cases h
theorem try_no {need : List Int} {ps : List Pk} {b : Bst} {o : List Int} (h : meetS need ps o = false) : trySt need ps [] 0 0 b o = b := by unfold trySt; rw [h]; rfl
theorem try_worse {need : List Int} {ps : List Pk} {b : Bst} {o : List Int} (h : betterS b.found b.price b.size (costS ps o) (totS o) = false) : trySt need ps [] 0 0 b o = b := by
  unfold trySt
  rw [Int.zero_add, Int.zero_add, h, Bool.and_false]
  rfl
theorem try_yes {need : List Int} {ps : List Pk} {b : Bst} {o : List Int} (h : meetS need ps o = true) (h2 : betterS b.found b.price b.size (costS ps o) (totS o) = true) : trySt need ps [] 0 0 b o = ⟨o, costS ps o, totS o, true⟩ := by
  unfold trySt
  rw [Int.zero_add, Int.zero_add, h, h2]
  rfl
set_option maxHeartbeats 32000000 in
set_option maxRecDepth 100000 in
theorem rBest_any {pks : List Pk} {need : List Int} {pa : Option Addr} {pc : Nat} {na : Option Addr} {nc : Nat} {w : World} (ht : TaskG w pks need pa pc na nc) (hr : Right pks need) :
    Calls Tryz.prog 47 #[taskV pks need pa pc na nc] w fun e w' => ∃ v, e = .returned (.tuple #[v, .bool (foldS (mostT need need.length) need pks [] 0 0 bst0).found]) ∧ BestAt pks need (foldS (mostT need need.length) need pks [] 0 0 bst0) v w' ∧ Ext w w' := by
  obtain ⟨fin, hfin⟩ : ∃ b, b = foldS (mostT need need.length) need pks [] 0 0 bst0 := ⟨_, rfl⟩
  have hM0 := (mostT_ge need need.length).1
  obtain ⟨M, hM⟩ : ∃ M, M = mostT need need.length := ⟨_, rfl⟩
  have HMO := Lib.hid (fun W (hW : Ext w W) => rMost_any (ht.ext hW) (by have := hr.k1; omega))
  rw [← hM] at HMO hfin hM0 ⊢
  rw [← hfin]
  have hcl := caps_len M pks
  obtain ⟨cs, hcs⟩ : ∃ cs, cs = capsS M pks := ⟨_, rfl⟩
  have hz : restS cs (List.replicate cs.length 0) = ordsS cs := rest_zero (by rw [hcs]; exact caps_nonneg hM0 hr.ok)
  have HRN : Hid (∀ o, o ∈ ordsS cs → restS cs o = o :: (match nextS cs o with | some t => restS cs t | none => [])) := fun o ho => rest_next (mem_ords.1 ho).1 (by rw [hcs]; exact caps_nonneg hM0 hr.ok)
  have HGV : Hid (∀ o, o ∈ ordsS cs → Gives pks need o) := fun o ho => gives_caps hr (by rw [← hcs]; exact ho)
  have HMB : Hid (∀ o, o ∈ ordsS cs → ∀ t, nextS cs o = some t → t ∈ ordsS cs) := fun o ho t h => next_mem ho h
  have HF0 : Hid ((restS cs (List.replicate pks.length 0)).foldl (trySt need pks [] 0 0) bst0 = fin) := by
    show _ = _
    rw [hfin, ← hcl, ← hcs, hz]
    unfold foldS
    rw [← hcs]
  have HZ0 : Hid (List.replicate pks.length 0 ∈ ordsS cs) := by
    show _ ∈ _
    obtain ⟨tl, e⟩ := ords_head (cs := cs) (by rw [hcs]; exact caps_nonneg hM0 hr.ok)
    rw [e, hcs, hcl]
    exact List.mem_cons_self ..
  have HME := Lib.hid (fun W (hW : Ext w W) o (oa : Option Addr) oc (hc : CellsI W oa o) ho => rMeets_any (oc := oc) (ht.ext hW) hc (HGV.out o ho))
  have HPR := Lib.hid (fun W (hW : Ext w W) o (oa : Option Addr) oc (hc : CellsI W oa o) ho => rPrice_any (oc := oc) (ht.ext hW) hc (HGV.out o ho))
  have HPB := Lib.hid (fun W (hW : Ext w W) o (oa : Option Addr) oc (hc : CellsI W oa o) (hg : Gives pks need o) => rPrice_any (oc := oc) (ht.ext hW) hc hg)
  have HPN := Lib.hid (fun W (oa : Option Addr) oc => rPrice_nil pks need pa pc na nc oa oc W)
  have HTO := Lib.hid (fun W o (oa : Option Addr) oc (hc : CellsI W oa o) (hg : Gives pks need o) => rTotal_any o oa oc W hc (by have := hg.len; have := hr.pl; omega) (fun i hi => gives_bd hg i (by have := hg.len; omega)))
  have HNE : Hid (∀ W, Ext w W → ∀ o (oa : Option Addr) oc, CellsI W oa o → o ∈ ordsS cs → Calls Tryz.prog 73 #[taskV pks need pa pc na nc, .slice oa o.length oc, .int .i64 M] W fun e w' => NextP cs o W e w') := fun W hW o oa oc hc ho => by
    have hg := HGV.out o ho
    have := rNext_any (m := M) (oc := oc) (ht.ext hW) hc hg.len (by have := hr.pl; omega) (fun i hi => gives_bd hg i (by have := hg.len; omega))
    rw [← hcs] at this
    exact this
  unfold taskV at HMO HME HPR HPB HPN HNE ⊢
  unfold NextP at HNE
  have hN64 := hr.pl
  obtain ⟨N, hN⟩ : ∃ N, N = pks.length := ⟨_, rfl⟩
  obtain ⟨K, hK⟩ : ∃ K, K = need.length := ⟨_, rfl⟩
  rw [← hN, ← hK] at HMO HME HPR HPB HPN HNE
  rw [← hN] at HF0 HZ0 hN64
  rw [← hN, ← hK]
  have HCL : Hid (∀ o, o ∈ ordsS cs → o.length = N) := fun o ho => by rw [(HGV.out o ho).len, hN]
  clear ht hfin hM0 hM hcl hcs hz hN hK hr
  have E0 : Ext w (w.alloc (.cells #[.slice pa N pc, .slice na K nc] 30)) := (Ext.refl _).alloc _
  have y1 : (w.alloc (.cells #[.slice pa N pc, .slice na K nc] 30)).cell? ⟨w.heap.size, 0, none⟩ = some (.slice pa N pc) := by go_simp
  have y2 : (w.alloc (.cells #[.slice pa N pc, .slice na K nc] 30)).cell? ⟨w.heap.size, 1, none⟩ = some (.slice na K nc) := by go_simp
  have hsz : (w.alloc (.cells #[.slice pa N pc, .slice na K nc] 30)).heap.size = w.heap.size + 1 := by
    show (w.heap.push _).size = _
    exact Array.size_push _
  go_enter Tryz.func47, Tryz.ntmps47
  obtain ⟨i0, hi, hi0, hi1, hi2⟩ := info_parts infoIn
  go_wp2_with (at_make; refine wpList_make_full _ rfl _ _ 23 rfl 0 3 i0 (.int .i64 0) 1 Tryz.underlying23 hi hi0 hi1 _ _ _ _ N rfl rfl rfl rfl ?b2 ?b3 ?b4 ?hK)
  case b2 => rw [hi2]; omega
  case b3 => unfold maxLen; omega
  case b4 => exact Nat.zero_le _
  case hK =>
    intro w3 hown hgr
    generalize w.alloc (.cells #[.slice pa N pc, .slice na K nc] 30) = W at E0 y1 y2 hown hgr hsz ⊢
    have E3 : Ext W w3 := ⟨hgr.os, hgr.tape, hgr.output, hgr.size, fun k hk => hgr.block k hk (by simp)⟩
    obtain ⟨ob, hob⟩ : ∃ ob, ob = w.heap.size + 1 := ⟨_, rfl⟩
    have HA : Hid (CellsI w3 (some ⟨ob, 0, none⟩) (List.replicate N 0)) := ArrI.cells (fun j hj => by
      rw [List.length_replicate] at hj
      rw [hob]
      refine ⟨?_, hown.frozenAt j⟩
      rw [hown.cellAt j (by omega)]
      simp [madeCells, hj, Nat.mod_one, List.getD])
    rw [← hob]
    have y1 := E3.cell y1
    have y2 := E3.cell y2
    have E1 := E0.trans E3
    clear hob hsz hown hgr hi hi0 hi1 hi2 i0 E0 E3
    have Y1 := Lib.hid y1
    have Y2 := Lib.hid y2
    have HZ1 : Hid ((List.replicate N (0 : Int)).length = N) := by show _ = _; simp
    go_wp2
    go_loopg [4, 5, 6, 7] (restS cs (List.replicate N 0)).length (fun n bv fv ov kv wr => ∃ b : Bst, BestAt pks need b bv wr ∧ fv = .bool b.found ∧ ((kv = .bool true ∧ ∃ cur oa oc, ov = .slice oa cur.length oc ∧ CellsI wr oa cur ∧ cur ∈ ordsS cs ∧ n = (restS cs cur).length ∧ (restS cs cur).foldl (trySt need pks [] 0 0) b = fin) ∨ (kv = .bool false ∧ b = fin)) ∧ Ext w3 wr)
    case atStart => exact ⟨bst0, ⟨none, 0, rfl, (fun i hi => by simp [bst0] at hi), (fun h => by cases h), (fun _ => rfl)⟩, rfl, .inl ⟨rfl, List.replicate N 0, some ⟨ob, 0, none⟩, N, by rw [HZ1.out], HA.out, HZ0.out, rfl, HF0.out⟩, Ext.refl _⟩
    case round =>
      clear y1 y2
      obtain ⟨b, HB0, rfl, hok, he⟩ := hrel
      have c1 := he.cell Y1.out
      have c2 := he.cell Y2.out
      have zz := cell_lt c1
      dsimp only at zz
      have EW := E1.trans he
      have HBO := Lib.hid HB0
      rcases hok with ⟨rfl, cur, oa, oc, rfl, hcur, hmem, hgk, hfo⟩ | ⟨rfl, hbf⟩
      rotate_left
      · have HBF := Lib.hid hbf
        clear hbf HB0
        go_wp2
        go_ret2
        rw [← HBF.out]
        exact ⟨_, rfl, HBO.out, EW⟩
      have HCU0 := Lib.hid hcur
      have HMEM := Lib.hid hmem
      have HFO := Lib.hid hfo
      have HLE := Lib.hid hgk
      have HRS := Lib.hid (HRN.out cur hmem)
      have HMN := Lib.hid (HMB.out cur hmem)
      have HM1 := Lib.hid (HME.out wr EW cur oa oc hcur hmem)
      have HNE1 : Hid (∀ W, Ext w W → ∀ (oa : Option Addr) oc, CellsI W oa cur → Calls Tryz.prog 73 #[.agg #[.slice pa N pc, .slice na K nc], .slice oa cur.length oc, .int .i64 M] W fun e w' => ∃ tv fl, e = .returned (.tuple #[tv, .bool fl]) ∧ ((fl = true ∧ ∃ t ta tc, nextS cs cur = some t ∧ tv = .slice ta t.length tc ∧ CellsI w' ta t) ∨ (fl = false ∧ nextS cs cur = none)) ∧ Ext W w') := fun W hW oa oc hc =>
        (HNE.out W hW cur oa oc hc hmem).mono fun e w' h => by
          rcases h with ⟨t, ta, tc, h1, h2, h3, h4⟩ | ⟨h1, h2, h3⟩
          · exact ⟨_, true, h2, .inl ⟨rfl, t, ta, tc, h1, rfl, h3⟩, h4⟩
          · exact ⟨_, false, h2, .inr ⟨rfl, h1⟩, h3⟩
      have HNO : Hid (meetS need pks cur = false → trySt need pks [] 0 0 b cur = b) := fun h => try_no h
      have HWO : Hid (betterS b.found b.price b.size (costS pks cur) (totS cur) = false → trySt need pks [] 0 0 b cur = b) := fun h => try_worse h
      have HYE : Hid (meetS need pks cur = true → betterS b.found b.price b.size (costS pks cur) (totS cur) = true → trySt need pks [] 0 0 b cur = ⟨cur, costS pks cur, totS cur, true⟩) := fun h h2 => try_yes h h2
      have HGC := Lib.hid (HGV.out cur hmem)
      clear hcur hmem hfo hgk HB0
      obtain ⟨mv, hmv⟩ : ∃ mv, meetS need pks cur = mv := ⟨_, rfl⟩
      rw [hmv] at HM1 HNO HYE
      clear hmv
      go_wp2_with fail
      refine HM1.out.mono ?_
      rintro e w4 ⟨rfl, hE⟩
      have E4 := EW.trans hE
      have HCU := Lib.hid (HCU0.out.ext hE)
      have HBO2 := Lib.hid (HBO.out.ext hE)
      have c1 := hE.cell c1
      have c2 := hE.cell c2
      have zz := cell_lt c1
      dsimp only at zz
      have EX4 := he.trans hE
      clear hE EW HCU0 HBO HM1 he
      cases mv
      case false =>
        obtain ⟨nb, hnb⟩ : ∃ nb, nb = b := ⟨_, rfl⟩
        have HTR : Hid (trySt need pks [] 0 0 b cur = nb) := by show _ = _; rw [hnb]; exact HNO.out rfl
        have HNF : Hid (Value.bool b.found = Value.bool nb.found) := by show _ = _; rw [hnb]
        have HBA : Hid (BestAt pks need nb u4 w4) := by show BestAt _ _ _ _ _; rw [hnb]; exact HBO2.out
        have HCUR := HCU
        clear hnb HBO2 HCU zz
        go_wp2_with fail
        refine wp_region_heldE 99 (fun w' => w'.cell? ⟨w.heap.size, 0, none⟩ = some (.slice pa N pc) ∧ w'.cell? ⟨w.heap.size, 1, none⟩ = some (.slice na K nc)) (by kernel_rfl) ?_
        have ED : Ext w4 w4.drew := (Ext.refl _).drew
        have hS := And.intro (ED.cell c1) (ED.cell c2)
        have HCU := Lib.hid (HCUR.out.ext ED)
        have HBB := Lib.hid (HBA.out.ext ED)
        have EY := E4.trans ED
        have EY3 := EX4.trans ED
        clear c1 c2 ED HCUR HBA
        generalize w4.drew = v1 at hS HCU HBB EY EY3 ⊢
        obtain ⟨s1, s2⟩ := hS
        have zz := cell_lt s1
        dsimp only at zz
        have hS := And.intro s1 s2
        ((refine eTk 0 ?_); (refine eTk 1 ?_); (refine eTk 2 ?_))
        (refine wpAnyE_one (i := 3) (o := ?_) ?_ (by kernel_rfl) (fun K hK => ?_); rotate_left; (focus ((simp only [List.getElem?_toArray, List.getElem?_cons_succ, List.getElem?_cons_zero]; exact rfl))); go_simp; go_at_call 39; refine (HMO.out _ EY).mono ?_; rintro e v2 ⟨rfl, hE⟩; go_wp2_with fail; refine hK.out _ _ ?_ (fun hHeld => ?_); rotate_left; clear hK K; (try simp only [Act.put, List.setIfInBounds_toArray, List.set_cons_zero, List.set_cons_succ]))
        rotate_left
        · exact ⟨hE.cell s1, hE.cell s2⟩
        have EZ := EY.trans hE
        have EZ3 := EY3.trans hE
        have HCU2 := Lib.hid (HCU.out.ext hE)
        have HBB2 := Lib.hid (HBB.out.ext hE)
        have t1 := hE.cell s1
        have t2 := hE.cell s2
        clear hE EY EY3 HCU HBB s1 s2 zz hS hHeld
        have HNX := Lib.hid (HNE1.out v2 EZ oa oc HCU2.out)
        (refine wpAnyE_one (i := 4) (o := ?_) ?_ (by kernel_rfl) (fun K hK => ?_); rotate_left; (focus ((simp only [List.getElem?_toArray, List.getElem?_cons_succ, List.getElem?_cons_zero]; exact rfl))); go_simp; go_at_call 73; refine HNX.out.mono ?_; rintro e v3 ⟨tv, fl, rfl, hfl, hE⟩; go_wp2_with fail; refine hK.out _ _ ?_ (fun hHeld => ?_); rotate_left; clear hK K; (try simp only [Act.put, List.setIfInBounds_toArray, List.set_cons_zero, List.set_cons_succ]))
        rotate_left
        · exact ⟨hE.cell t1, hE.cell t2⟩
        ((refine ePu 5 ?_); (refine ePu 6 ?_); (refine ePu 7 ?_); (refine ePu 8 ?_); (refine ePu 9 ?_))
        refine wpAnyE_done (by kernel_rfl) ?_ _
        have EX := EZ.trans hE
        have HFL := Lib.hid hfl
        have HBX := Lib.hid (HBB2.out.ext hE)
        have EX3 := EZ3.trans hE
        clear hfl hE t1 t2 hHeld HNX HCU2 HBB2 EZ EZ3
        go_wp2
        rcases HFL.out with ⟨rfl, t, ta, tc2, ht, rfl, hta⟩ | ⟨rfl, ht⟩
        · have h1 := HRS.out
          rw [ht] at h1
          go_roundg (restS cs t).length
          case measure =>
            have h9 := HLE.out
            rw [h1] at h9
            simp only [List.length_cons] at h9
            omega
          case rel =>
            refine ⟨nb, HBX.out, HNF.out, .inl ⟨rfl, t, ta, tc2, rfl, hta, HMN.out t ht, rfl, ?_⟩, EX3⟩
            have h2 := HFO.out
            rw [h1, List.foldl_cons, HTR.out] at h2
            exact h2
        · have h1 := HRS.out
          rw [ht] at h1
          go_roundg 0
          case measure =>
            have h9 := HLE.out
            rw [h1] at h9
            simp only [List.length_cons] at h9
            omega
          case rel =>
            refine ⟨nb, HBX.out, HNF.out, .inr ⟨rfl, ?_⟩, EX3⟩
            have h2 := HFO.out
            rw [h1, List.foldl_cons, List.foldl_nil, HTR.out] at h2
            exact h2
      obtain ⟨ba, bc, rfl, hbc, hbg, hbn⟩ := HBO2.out
      have HBC := Lib.hid hbc
      have HBG := Lib.hid hbg
      clear hbc hbg
      have HP1 := Lib.hid (fun W hW oa oc hc => HPR.out W hW cur oa oc hc HMEM.out)
      have HTC := Lib.hid (fun W oa oc hc => HTO.out W cur oa oc hc HGC.out)
      obtain ⟨cc, hcc⟩ : ∃ cc, costS pks cur = cc := ⟨_, rfl⟩
      obtain ⟨tc, htc⟩ : ∃ tc, totS cur = tc := ⟨_, rfl⟩
      rw [hcc] at HP1 HWO HYE
      rw [htc] at HTC HWO HYE
      have HCT := Lib.hid (show _ ∧ _ from ⟨hcc, htc⟩)
      clear hcc htc
      cases hfnd : b.found
      case false =>
        have hbl : b.order.length = 0 := by rw [hbn hfnd]; rfl
        rw [hbl]
        have HTRY : Hid (trySt need pks [] 0 0 b cur = ⟨cur, cc, tc, true⟩) := HYE.out rfl (by rw [hfnd]; rfl)
        clear hbl hbn hfnd
        go_wp2_with fail
        refine wp_region_heldE 99 (fun w' => w'.cell? ⟨w.heap.size, 0, none⟩ = some (.slice pa N pc) ∧ w'.cell? ⟨w.heap.size, 1, none⟩ = some (.slice na K nc)) (by kernel_rfl) ?_
        have ED : Ext w4 w4.drew := (Ext.refl _).drew
        have hS := And.intro (ED.cell c1) (ED.cell c2)
        have HC5 := Lib.hid (HCU.out.ext ED)
        have E5 := E4.trans ED
        have EX5 := EX4.trans ED
        clear c1 c2 ED zz
        generalize w4.drew = w5 at hS HC5 E5 EX5 ⊢
        obtain ⟨s1, s2⟩ := hS
        have zz := cell_lt s1
        dsimp only at zz
        have hS := And.intro s1 s2
        ((refine eTk 0 ?_); (refine eTk 1 ?_); (refine eTk 3 ?_); (refine eTk 4 ?_))
        (refine wpAnyE_one (i := 2) (o := ?_) ?_ (by kernel_rfl) (fun K hK => ?_); rotate_left; (focus ((simp only [List.getElem?_toArray, List.getElem?_cons_succ, List.getElem?_cons_zero]; exact rfl))); go_simp; go_at_call 48; refine (HP1.out _ E5 oa oc HC5.out).mono ?_; rintro e w6 ⟨rfl, hE⟩; go_wp2_with fail; refine hK.out _ _ ?_ (fun hHeld => ?_); rotate_left; clear hK K; (try simp only [Act.put, List.setIfInBounds_toArray, List.set_cons_zero, List.set_cons_succ]))
        rotate_left
        · exact ⟨hE.cell s1, hE.cell s2⟩
        have HC6 := Lib.hid (HC5.out.ext hE)
        have E6 := E5.trans hE
        have EX6 := EX5.trans hE
        have t1 := hE.cell s1
        have t2 := hE.cell s2
        clear hE s1 s2 hS hHeld zz
        (refine wpAnyE_one (i := 5) (o := ?_) ?_ (by kernel_rfl) (fun K hK => ?_); rotate_left; (focus ((simp only [List.getElem?_toArray, List.getElem?_cons_succ, List.getElem?_cons_zero]; exact rfl))); go_simp; go_at_call 48; refine (HPN.out _ ba bc).mono ?_; rintro e w7 ⟨rfl, hE⟩; go_wp2_with fail; refine hK.out _ _ ?_ (fun hHeld => ?_); rotate_left; clear hK K; (try simp only [Act.put, List.setIfInBounds_toArray, List.set_cons_zero, List.set_cons_succ]))
        rotate_left
        · exact ⟨hE.cell t1, hE.cell t2⟩
        ((refine ePu 6 ?_); (refine ePu 7 ?_))
        refine wpAnyE_done (by kernel_rfl) ?_ _
        have HCUR := Lib.hid (HC6.out.ext hE)
        have E7 := E6.trans hE
        have EX7 := EX6.trans hE
        have c1 := hE.cell t1
        have c2 := hE.cell t2
        have zz := cell_lt c1
        dsimp only at zz
        clear hE t1 t2 hHeld HC5 HC6 E5 E6
        obtain ⟨nb, hnb⟩ : ∃ nb : Bst, nb = ⟨cur, cc, tc, true⟩ := ⟨_, rfl⟩
        have HTR : Hid (trySt need pks [] 0 0 b cur = nb) := by show _ = _; rw [hnb]; exact HTRY.out
        have HNF : Hid (Value.bool true = Value.bool nb.found) := by show _ = _; rw [hnb]
        have HBA : Hid (BestAt pks need nb (.slice oa cur.length oc) w7) := by
          show BestAt _ _ _ _ _
          rw [hnb]
          exact ⟨oa, oc, rfl, HCUR.out, fun _ => ⟨HGC.out, HCT.out.1.symm, HCT.out.2.symm⟩, fun h => by cases h⟩
        clear hnb
        go_wp2_with fail
        refine wp_region_heldE 99 (fun w' => w'.cell? ⟨w.heap.size, 0, none⟩ = some (.slice pa N pc) ∧ w'.cell? ⟨w.heap.size, 1, none⟩ = some (.slice na K nc)) (by kernel_rfl) ?_
        have ED : Ext w7 w7.drew := (Ext.refl _).drew
        have hS := And.intro (ED.cell c1) (ED.cell c2)
        have HCU := Lib.hid (HCUR.out.ext ED)
        have HBB := Lib.hid (HBA.out.ext ED)
        have EY := E7.trans ED
        have EY3 := EX7.trans ED
        clear c1 c2 ED HCUR HBA
        generalize w7.drew = v1 at hS HCU HBB EY EY3 ⊢
        obtain ⟨s1, s2⟩ := hS
        have zz := cell_lt s1
        dsimp only at zz
        have hS := And.intro s1 s2
        ((refine eTk 0 ?_); (refine eTk 1 ?_); (refine eTk 2 ?_))
        (refine wpAnyE_one (i := 3) (o := ?_) ?_ (by kernel_rfl) (fun K hK => ?_); rotate_left; (focus ((simp only [List.getElem?_toArray, List.getElem?_cons_succ, List.getElem?_cons_zero]; exact rfl))); go_simp; go_at_call 39; refine (HMO.out _ EY).mono ?_; rintro e v2 ⟨rfl, hE⟩; go_wp2_with fail; refine hK.out _ _ ?_ (fun hHeld => ?_); rotate_left; clear hK K; (try simp only [Act.put, List.setIfInBounds_toArray, List.set_cons_zero, List.set_cons_succ]))
        rotate_left
        · exact ⟨hE.cell s1, hE.cell s2⟩
        have EZ := EY.trans hE
        have EZ3 := EY3.trans hE
        have HCU2 := Lib.hid (HCU.out.ext hE)
        have HBB2 := Lib.hid (HBB.out.ext hE)
        have t1 := hE.cell s1
        have t2 := hE.cell s2
        clear hE EY EY3 HCU HBB s1 s2 zz hS hHeld
        have HNX := Lib.hid (HNE1.out v2 EZ oa oc HCU2.out)
        (refine wpAnyE_one (i := 4) (o := ?_) ?_ (by kernel_rfl) (fun K hK => ?_); rotate_left; (focus ((simp only [List.getElem?_toArray, List.getElem?_cons_succ, List.getElem?_cons_zero]; exact rfl))); go_simp; go_at_call 73; refine HNX.out.mono ?_; rintro e v3 ⟨tv, fl, rfl, hfl, hE⟩; go_wp2_with fail; refine hK.out _ _ ?_ (fun hHeld => ?_); rotate_left; clear hK K; (try simp only [Act.put, List.setIfInBounds_toArray, List.set_cons_zero, List.set_cons_succ]))
        rotate_left
        · exact ⟨hE.cell t1, hE.cell t2⟩
        ((refine ePu 5 ?_); (refine ePu 6 ?_); (refine ePu 7 ?_); (refine ePu 8 ?_); (refine ePu 9 ?_))
        refine wpAnyE_done (by kernel_rfl) ?_ _
        have EX := EZ.trans hE
        have HFL := Lib.hid hfl
        have HBX := Lib.hid (HBB2.out.ext hE)
        have EX3 := EZ3.trans hE
        clear hfl hE t1 t2 hHeld HNX HCU2 HBB2 EZ EZ3
        go_wp2
        rcases HFL.out with ⟨rfl, t, ta, tc2, ht, rfl, hta⟩ | ⟨rfl, ht⟩
        · have h1 := HRS.out
          rw [ht] at h1
          go_roundg (restS cs t).length
          case measure =>
            have h9 := HLE.out
            rw [h1] at h9
            simp only [List.length_cons] at h9
            omega
          case rel =>
            refine ⟨nb, HBX.out, HNF.out, .inl ⟨rfl, t, ta, tc2, rfl, hta, HMN.out t ht, rfl, ?_⟩, EX3⟩
            have h2 := HFO.out
            rw [h1, List.foldl_cons, HTR.out] at h2
            exact h2
        · have h1 := HRS.out
          rw [ht] at h1
          go_roundg 0
          case measure =>
            have h9 := HLE.out
            rw [h1] at h9
            simp only [List.length_cons] at h9
            omega
          case rel =>
            refine ⟨nb, HBX.out, HNF.out, .inr ⟨rfl, ?_⟩, EX3⟩
            have h2 := HFO.out
            rw [h1, List.foldl_cons, List.foldl_nil, HTR.out] at h2
            exact h2
      obtain ⟨hbg1, hbg2, hbg3⟩ := HBG.out hfnd
      have HPP := Lib.hid (fun W hW oa oc hc => HPB.out W hW b.order oa oc hc hbg1)
      have HTT := Lib.hid (fun W oa oc hc => HTO.out W b.order oa oc hc hbg1)
      rw [← hbg2] at HPP
      rw [← hbg3] at HTT
      have HBT : Hid (betterS b.found b.price b.size cc tc = (decide (cc < b.price) || (decide (cc = b.price) && decide (tc < b.size)))) := by
        show _ = _
        rw [hfnd]
        rfl
      have HFN := Lib.hid hfnd
      clear hbg1 hbg2 hbg3 hfnd hbn
      go_wp2_with fail
      refine wp_region_heldE 99 (fun w' => w'.cell? ⟨w.heap.size, 0, none⟩ = some (.slice pa N pc) ∧ w'.cell? ⟨w.heap.size, 1, none⟩ = some (.slice na K nc)) (by kernel_rfl) ?_
      have ED : Ext w4 w4.drew := (Ext.refl _).drew
      have hS := And.intro (ED.cell c1) (ED.cell c2)
      have HC5 := Lib.hid (HCU.out.ext ED)
      have HB5 := Lib.hid (HBC.out.ext ED)
      have E5 := E4.trans ED
      have EX5 := EX4.trans ED
      clear c1 c2 ED zz
      generalize w4.drew = w5 at hS HC5 HB5 E5 EX5 ⊢
      obtain ⟨s1, s2⟩ := hS
      have zz := cell_lt s1
      dsimp only at zz
      have hS := And.intro s1 s2
      ((refine eTk 0 ?_); (refine eTk 1 ?_); (refine eTk 3 ?_); (refine eTk 4 ?_))
      (refine wpAnyE_one (i := 2) (o := ?_) ?_ (by kernel_rfl) (fun K hK => ?_); rotate_left; (focus ((simp only [List.getElem?_toArray, List.getElem?_cons_succ, List.getElem?_cons_zero]; exact rfl))); go_simp; go_at_call 48; refine (HP1.out _ E5 oa oc HC5.out).mono ?_; rintro e w6 ⟨rfl, hE⟩; go_wp2_with fail; refine hK.out _ _ ?_ (fun hHeld => ?_); rotate_left; clear hK K; (try simp only [Act.put, List.setIfInBounds_toArray, List.set_cons_zero, List.set_cons_succ]))
      rotate_left
      · exact ⟨hE.cell s1, hE.cell s2⟩
      have HC6 := Lib.hid (HC5.out.ext hE)
      have HB6 := Lib.hid (HB5.out.ext hE)
      have E6 := E5.trans hE
      have EX6 := EX5.trans hE
      have t1 := hE.cell s1
      have t2 := hE.cell s2
      clear hE s1 s2 hS hHeld zz
      (refine wpAnyE_one (i := 5) (o := ?_) ?_ (by kernel_rfl) (fun K hK => ?_); rotate_left; (focus ((simp only [List.getElem?_toArray, List.getElem?_cons_succ, List.getElem?_cons_zero]; exact rfl))); go_simp; go_at_call 48; refine (HPP.out _ E6 ba bc HB6.out).mono ?_; rintro e w7 ⟨rfl, hE⟩; go_wp2_with fail; refine hK.out _ _ ?_ (fun hHeld => ?_); rotate_left; clear hK K; (try simp only [Act.put, List.setIfInBounds_toArray, List.set_cons_zero, List.set_cons_succ]))
      rotate_left
      · exact ⟨hE.cell t1, hE.cell t2⟩
      ((refine ePu 6 ?_); (refine ePu 7 ?_))
      refine wpAnyE_done (by kernel_rfl) ?_ _
      have HCUR := Lib.hid (HC6.out.ext hE)
      have HB7 := Lib.hid (HB6.out.ext hE)
      have E7 := E6.trans hE
      have EX7 := EX6.trans hE
      have c1 := hE.cell t1
      have c2 := hE.cell t2
      have zz := cell_lt c1
      dsimp only at zz
      clear hE t1 t2 hHeld HC5 HC6 HB5 HB6 E5 E6
      have HKEEP : Hid (∀ W, CellsI W ba b.order → BestAt pks need b (.slice ba b.order.length bc) W) := fun W h => ⟨ba, bc, rfl, h, HBG.out, fun h => by rw [HFN.out] at h; cases h⟩
      have HNEW : Hid (∀ W, CellsI W oa cur → BestAt pks need ⟨cur, cc, tc, true⟩ (.slice oa cur.length oc) W) := fun W h => ⟨oa, oc, rfl, h, fun _ => ⟨HGC.out, HCT.out.1.symm, HCT.out.2.symm⟩, fun h => by cases h⟩
      obtain ⟨bp, hbp⟩ : ∃ bp, b.price = bp := ⟨_, rfl⟩
      obtain ⟨bs, hbs⟩ : ∃ bs, b.size = bs := ⟨_, rfl⟩
      rw [hbp, hbs] at HBT HYE HWO
      rw [hbp] at HPP
      rw [hbp]
      rw [hbs] at HTT
      clear hbp hbs
      by_cases hlt : cc < bp
      · skip
        obtain ⟨nb, hnb⟩ : ∃ nb : Bst, nb = ⟨cur, cc, tc, true⟩ := ⟨_, rfl⟩
        have HTR : Hid (trySt need pks [] 0 0 b cur = nb) := by show _ = _; rw [hnb]; exact HYE.out trivial (by rw [HBT.out]; simp; omega)
        have HNF : Hid (Value.bool true = Value.bool nb.found) := by show _ = _; rw [hnb]
        have HBA : Hid (BestAt pks need nb (.slice oa cur.length oc) w7) := by show BestAt _ _ _ _ _; rw [hnb]; exact HNEW.out _ HCUR.out
        clear hnb
        go_wp2_with fail
        refine wp_region_heldE 99 (fun w' => w'.cell? ⟨w.heap.size, 0, none⟩ = some (.slice pa N pc) ∧ w'.cell? ⟨w.heap.size, 1, none⟩ = some (.slice na K nc)) (by kernel_rfl) ?_
        have ED : Ext w7 w7.drew := (Ext.refl _).drew
        have hS := And.intro (ED.cell c1) (ED.cell c2)
        have HCU := Lib.hid (HCUR.out.ext ED)
        have HBB := Lib.hid (HBA.out.ext ED)
        have EY := E7.trans ED
        have EY3 := EX7.trans ED
        clear c1 c2 ED HCUR HBA
        generalize w7.drew = v1 at hS HCU HBB EY EY3 ⊢
        obtain ⟨s1, s2⟩ := hS
        have zz := cell_lt s1
        dsimp only at zz
        have hS := And.intro s1 s2
        ((refine eTk 0 ?_); (refine eTk 1 ?_); (refine eTk 2 ?_))
        (refine wpAnyE_one (i := 3) (o := ?_) ?_ (by kernel_rfl) (fun K hK => ?_); rotate_left; (focus ((simp only [List.getElem?_toArray, List.getElem?_cons_succ, List.getElem?_cons_zero]; exact rfl))); go_simp; go_at_call 39; refine (HMO.out _ EY).mono ?_; rintro e v2 ⟨rfl, hE⟩; go_wp2_with fail; refine hK.out _ _ ?_ (fun hHeld => ?_); rotate_left; clear hK K; (try simp only [Act.put, List.setIfInBounds_toArray, List.set_cons_zero, List.set_cons_succ]))
        rotate_left
        · exact ⟨hE.cell s1, hE.cell s2⟩
        have EZ := EY.trans hE
        have EZ3 := EY3.trans hE
        have HCU2 := Lib.hid (HCU.out.ext hE)
        have HBB2 := Lib.hid (HBB.out.ext hE)
        have t1 := hE.cell s1
        have t2 := hE.cell s2
        clear hE EY EY3 HCU HBB s1 s2 zz hS hHeld
        have HNX := Lib.hid (HNE1.out v2 EZ oa oc HCU2.out)
        (refine wpAnyE_one (i := 4) (o := ?_) ?_ (by kernel_rfl) (fun K hK => ?_); rotate_left; (focus ((simp only [List.getElem?_toArray, List.getElem?_cons_succ, List.getElem?_cons_zero]; exact rfl))); go_simp; go_at_call 73; refine HNX.out.mono ?_; rintro e v3 ⟨tv, fl, rfl, hfl, hE⟩; go_wp2_with fail; refine hK.out _ _ ?_ (fun hHeld => ?_); rotate_left; clear hK K; (try simp only [Act.put, List.setIfInBounds_toArray, List.set_cons_zero, List.set_cons_succ]))
        rotate_left
        · exact ⟨hE.cell t1, hE.cell t2⟩
        ((refine ePu 5 ?_); (refine ePu 6 ?_); (refine ePu 7 ?_); (refine ePu 8 ?_); (refine ePu 9 ?_))
        refine wpAnyE_done (by kernel_rfl) ?_ _
        have EX := EZ.trans hE
        have HFL := Lib.hid hfl
        have HBX := Lib.hid (HBB2.out.ext hE)
        have EX3 := EZ3.trans hE
        clear hfl hE t1 t2 hHeld HNX HCU2 HBB2 EZ EZ3
        go_wp2
        rcases HFL.out with ⟨rfl, t, ta, tc2, ht, rfl, hta⟩ | ⟨rfl, ht⟩
        · have h1 := HRS.out
          rw [ht] at h1
          go_roundg (restS cs t).length
          case measure =>
            have h9 := HLE.out
            rw [h1] at h9
            simp only [List.length_cons] at h9
            omega
          case rel =>
            refine ⟨nb, HBX.out, HNF.out, .inl ⟨rfl, t, ta, tc2, rfl, hta, HMN.out t ht, rfl, ?_⟩, EX3⟩
            have h2 := HFO.out
            rw [h1, List.foldl_cons, HTR.out] at h2
            exact h2
        · have h1 := HRS.out
          rw [ht] at h1
          go_roundg 0
          case measure =>
            have h9 := HLE.out
            rw [h1] at h9
            simp only [List.length_cons] at h9
            omega
          case rel =>
            refine ⟨nb, HBX.out, HNF.out, .inr ⟨rfl, ?_⟩, EX3⟩
            have h2 := HFO.out
            rw [h1, List.foldl_cons, List.foldl_nil, HTR.out] at h2
            exact h2
      by_cases heq : cc = bp
      rotate_left
      · have hq : (cc == bp) = false := by simp [heq]
        obtain ⟨nb, hnb⟩ : ∃ nb : Bst, nb = b := ⟨_, rfl⟩
        have HTR : Hid (trySt need pks [] 0 0 b cur = nb) := by show _ = _; rw [hnb]; exact HWO.out (by rw [HBT.out]; simp; omega)
        have HNF : Hid (Value.bool true = Value.bool nb.found) := by show _ = _; rw [hnb, HFN.out]
        have HBA : Hid (BestAt pks need nb (.slice ba b.order.length bc) w7) := by show BestAt _ _ _ _ _; rw [hnb]; exact HKEEP.out _ HB7.out
        clear hnb
        go_wp2_with fail
        refine wp_region_heldE 99 (fun w' => w'.cell? ⟨w.heap.size, 0, none⟩ = some (.slice pa N pc) ∧ w'.cell? ⟨w.heap.size, 1, none⟩ = some (.slice na K nc)) (by kernel_rfl) ?_
        have ED : Ext w7 w7.drew := (Ext.refl _).drew
        have hS := And.intro (ED.cell c1) (ED.cell c2)
        have HCU := Lib.hid (HCUR.out.ext ED)
        have HBB := Lib.hid (HBA.out.ext ED)
        have EY := E7.trans ED
        have EY3 := EX7.trans ED
        clear c1 c2 ED HCUR HBA
        generalize w7.drew = v1 at hS HCU HBB EY EY3 ⊢
        obtain ⟨s1, s2⟩ := hS
        have zz := cell_lt s1
        dsimp only at zz
        have hS := And.intro s1 s2
        ((refine eTk 0 ?_); (refine eTk 1 ?_); (refine eTk 2 ?_))
        (refine wpAnyE_one (i := 3) (o := ?_) ?_ (by kernel_rfl) (fun K hK => ?_); rotate_left; (focus ((simp only [List.getElem?_toArray, List.getElem?_cons_succ, List.getElem?_cons_zero]; exact rfl))); go_simp; go_at_call 39; refine (HMO.out _ EY).mono ?_; rintro e v2 ⟨rfl, hE⟩; go_wp2_with fail; refine hK.out _ _ ?_ (fun hHeld => ?_); rotate_left; clear hK K; (try simp only [Act.put, List.setIfInBounds_toArray, List.set_cons_zero, List.set_cons_succ]))
        rotate_left
        · exact ⟨hE.cell s1, hE.cell s2⟩
        have EZ := EY.trans hE
        have EZ3 := EY3.trans hE
        have HCU2 := Lib.hid (HCU.out.ext hE)
        have HBB2 := Lib.hid (HBB.out.ext hE)
        have t1 := hE.cell s1
        have t2 := hE.cell s2
        clear hE EY EY3 HCU HBB s1 s2 zz hS hHeld
        have HNX := Lib.hid (HNE1.out v2 EZ oa oc HCU2.out)
        (refine wpAnyE_one (i := 4) (o := ?_) ?_ (by kernel_rfl) (fun K hK => ?_); rotate_left; (focus ((simp only [List.getElem?_toArray, List.getElem?_cons_succ, List.getElem?_cons_zero]; exact rfl))); go_simp; go_at_call 73; refine HNX.out.mono ?_; rintro e v3 ⟨tv, fl, rfl, hfl, hE⟩; go_wp2_with fail; refine hK.out _ _ ?_ (fun hHeld => ?_); rotate_left; clear hK K; (try simp only [Act.put, List.setIfInBounds_toArray, List.set_cons_zero, List.set_cons_succ]))
        rotate_left
        · exact ⟨hE.cell t1, hE.cell t2⟩
        ((refine ePu 5 ?_); (refine ePu 6 ?_); (refine ePu 7 ?_); (refine ePu 8 ?_); (refine ePu 9 ?_))
        refine wpAnyE_done (by kernel_rfl) ?_ _
        have EX := EZ.trans hE
        have HFL := Lib.hid hfl
        have HBX := Lib.hid (HBB2.out.ext hE)
        have EX3 := EZ3.trans hE
        clear hfl hE t1 t2 hHeld HNX HCU2 HBB2 EZ EZ3
        go_wp2
        rcases HFL.out with ⟨rfl, t, ta, tc2, ht, rfl, hta⟩ | ⟨rfl, ht⟩
        · have h1 := HRS.out
          rw [ht] at h1
          go_roundg (restS cs t).length
          case measure =>
            have h9 := HLE.out
            rw [h1] at h9
            simp only [List.length_cons] at h9
            omega
          case rel =>
            refine ⟨nb, HBX.out, HNF.out, .inl ⟨rfl, t, ta, tc2, rfl, hta, HMN.out t ht, rfl, ?_⟩, EX3⟩
            have h2 := HFO.out
            rw [h1, List.foldl_cons, HTR.out] at h2
            exact h2
        · have h1 := HRS.out
          rw [ht] at h1
          go_roundg 0
          case measure =>
            have h9 := HLE.out
            rw [h1] at h9
            simp only [List.length_cons] at h9
            omega
          case rel =>
            refine ⟨nb, HBX.out, HNF.out, .inr ⟨rfl, ?_⟩, EX3⟩
            have h2 := HFO.out
            rw [h1, List.foldl_cons, List.foldl_nil, HTR.out] at h2
            exact h2
      subst heq
      have hq : (cc == cc) = true := by simp
      go_wp2_with fail
      refine (HTC.out _ oa oc HCUR.out).mono ?_
      rintro e w8 ⟨rfl, hE⟩
      replace HCUR := Lib.hid (HCUR.out.ext hE)
      have HB8 := Lib.hid (HB7.out.ext hE)
      have E8 := E7.trans hE
      have EX8 := EX7.trans hE
      have c1 := hE.cell c1
      have c2 := hE.cell c2
      clear hE E7 HB7 zz
      go_wp2_with fail
      refine (HTT.out _ ba bc HB8.out).mono ?_
      rintro e w9 ⟨rfl, hE⟩
      replace HCUR := Lib.hid (HCUR.out.ext hE)
      have HB9 := Lib.hid (HB8.out.ext hE)
      have E9 := E8.trans hE
      have EX9 := EX8.trans hE
      have c1 := hE.cell c1
      have c2 := hE.cell c2
      have zz := cell_lt c1
      dsimp only at zz
      clear hE E8 HB8
      by_cases hts : tc < bs
      · skip
        obtain ⟨nb, hnb⟩ : ∃ nb : Bst, nb = ⟨cur, cc, tc, true⟩ := ⟨_, rfl⟩
        have HTR : Hid (trySt need pks [] 0 0 b cur = nb) := by show _ = _; rw [hnb]; exact HYE.out trivial (by rw [HBT.out]; simp; omega)
        have HNF : Hid (Value.bool true = Value.bool nb.found) := by show _ = _; rw [hnb]
        have HBA : Hid (BestAt pks need nb (.slice oa cur.length oc) w9) := by show BestAt _ _ _ _ _; rw [hnb]; exact HNEW.out _ HCUR.out
        clear hnb
        go_wp2_with fail
        refine wp_region_heldE 99 (fun w' => w'.cell? ⟨w.heap.size, 0, none⟩ = some (.slice pa N pc) ∧ w'.cell? ⟨w.heap.size, 1, none⟩ = some (.slice na K nc)) (by kernel_rfl) ?_
        have ED : Ext w9 w9.drew := (Ext.refl _).drew
        have hS := And.intro (ED.cell c1) (ED.cell c2)
        have HCU := Lib.hid (HCUR.out.ext ED)
        have HBB := Lib.hid (HBA.out.ext ED)
        have EY := E9.trans ED
        have EY3 := EX9.trans ED
        clear c1 c2 ED HCUR HBA
        generalize w9.drew = v1 at hS HCU HBB EY EY3 ⊢
        obtain ⟨s1, s2⟩ := hS
        have zz := cell_lt s1
        dsimp only at zz
        have hS := And.intro s1 s2
        ((refine eTk 0 ?_); (refine eTk 1 ?_); (refine eTk 2 ?_))
        (refine wpAnyE_one (i := 3) (o := ?_) ?_ (by kernel_rfl) (fun K hK => ?_); rotate_left; (focus ((simp only [List.getElem?_toArray, List.getElem?_cons_succ, List.getElem?_cons_zero]; exact rfl))); go_simp; go_at_call 39; refine (HMO.out _ EY).mono ?_; rintro e v2 ⟨rfl, hE⟩; go_wp2_with fail; refine hK.out _ _ ?_ (fun hHeld => ?_); rotate_left; clear hK K; (try simp only [Act.put, List.setIfInBounds_toArray, List.set_cons_zero, List.set_cons_succ]))
        rotate_left
        · exact ⟨hE.cell s1, hE.cell s2⟩
        have EZ := EY.trans hE
        have EZ3 := EY3.trans hE
        have HCU2 := Lib.hid (HCU.out.ext hE)
        have HBB2 := Lib.hid (HBB.out.ext hE)
        have t1 := hE.cell s1
        have t2 := hE.cell s2
        clear hE EY EY3 HCU HBB s1 s2 zz hS hHeld
        have HNX := Lib.hid (HNE1.out v2 EZ oa oc HCU2.out)
        (refine wpAnyE_one (i := 4) (o := ?_) ?_ (by kernel_rfl) (fun K hK => ?_); rotate_left; (focus ((simp only [List.getElem?_toArray, List.getElem?_cons_succ, List.getElem?_cons_zero]; exact rfl))); go_simp; go_at_call 73; refine HNX.out.mono ?_; rintro e v3 ⟨tv, fl, rfl, hfl, hE⟩; go_wp2_with fail; refine hK.out _ _ ?_ (fun hHeld => ?_); rotate_left; clear hK K; (try simp only [Act.put, List.setIfInBounds_toArray, List.set_cons_zero, List.set_cons_succ]))
        rotate_left
        · exact ⟨hE.cell t1, hE.cell t2⟩
        ((refine ePu 5 ?_); (refine ePu 6 ?_); (refine ePu 7 ?_); (refine ePu 8 ?_); (refine ePu 9 ?_))
        refine wpAnyE_done (by kernel_rfl) ?_ _
        have EX := EZ.trans hE
        have HFL := Lib.hid hfl
        have HBX := Lib.hid (HBB2.out.ext hE)
        have EX3 := EZ3.trans hE
        clear hfl hE t1 t2 hHeld HNX HCU2 HBB2 EZ EZ3
        go_wp2
        rcases HFL.out with ⟨rfl, t, ta, tc2, ht, rfl, hta⟩ | ⟨rfl, ht⟩
        · have h1 := HRS.out
          rw [ht] at h1
          go_roundg (restS cs t).length
          case measure =>
            have h9 := HLE.out
            rw [h1] at h9
            simp only [List.length_cons] at h9
            omega
          case rel =>
            refine ⟨nb, HBX.out, HNF.out, .inl ⟨rfl, t, ta, tc2, rfl, hta, HMN.out t ht, rfl, ?_⟩, EX3⟩
            have h2 := HFO.out
            rw [h1, List.foldl_cons, HTR.out] at h2
            exact h2
        · have h1 := HRS.out
          rw [ht] at h1
          go_roundg 0
          case measure =>
            have h9 := HLE.out
            rw [h1] at h9
            simp only [List.length_cons] at h9
            omega
          case rel =>
            refine ⟨nb, HBX.out, HNF.out, .inr ⟨rfl, ?_⟩, EX3⟩
            have h2 := HFO.out
            rw [h1, List.foldl_cons, List.foldl_nil, HTR.out] at h2
            exact h2
      · skip
        obtain ⟨nb, hnb⟩ : ∃ nb : Bst, nb = b := ⟨_, rfl⟩
        have HTR : Hid (trySt need pks [] 0 0 b cur = nb) := by show _ = _; rw [hnb]; exact HWO.out (by rw [HBT.out]; simp; omega)
        have HNF : Hid (Value.bool true = Value.bool nb.found) := by show _ = _; rw [hnb, HFN.out]
        have HBA : Hid (BestAt pks need nb (.slice ba b.order.length bc) w9) := by show BestAt _ _ _ _ _; rw [hnb]; exact HKEEP.out _ HB9.out
        clear hnb
        go_wp2_with fail
        refine wp_region_heldE 99 (fun w' => w'.cell? ⟨w.heap.size, 0, none⟩ = some (.slice pa N pc) ∧ w'.cell? ⟨w.heap.size, 1, none⟩ = some (.slice na K nc)) (by kernel_rfl) ?_
        have ED : Ext w9 w9.drew := (Ext.refl _).drew
        have hS := And.intro (ED.cell c1) (ED.cell c2)
        have HCU := Lib.hid (HCUR.out.ext ED)
        have HBB := Lib.hid (HBA.out.ext ED)
        have EY := E9.trans ED
        have EY3 := EX9.trans ED
        clear c1 c2 ED HCUR HBA
        generalize w9.drew = v1 at hS HCU HBB EY EY3 ⊢
        obtain ⟨s1, s2⟩ := hS
        have zz := cell_lt s1
        dsimp only at zz
        have hS := And.intro s1 s2
        ((refine eTk 0 ?_); (refine eTk 1 ?_); (refine eTk 2 ?_))
        (refine wpAnyE_one (i := 3) (o := ?_) ?_ (by kernel_rfl) (fun K hK => ?_); rotate_left; (focus ((simp only [List.getElem?_toArray, List.getElem?_cons_succ, List.getElem?_cons_zero]; exact rfl))); go_simp; go_at_call 39; refine (HMO.out _ EY).mono ?_; rintro e v2 ⟨rfl, hE⟩; go_wp2_with fail; refine hK.out _ _ ?_ (fun hHeld => ?_); rotate_left; clear hK K; (try simp only [Act.put, List.setIfInBounds_toArray, List.set_cons_zero, List.set_cons_succ]))
        rotate_left
        · exact ⟨hE.cell s1, hE.cell s2⟩
        have EZ := EY.trans hE
        have EZ3 := EY3.trans hE
        have HCU2 := Lib.hid (HCU.out.ext hE)
        have HBB2 := Lib.hid (HBB.out.ext hE)
        have t1 := hE.cell s1
        have t2 := hE.cell s2
        clear hE EY EY3 HCU HBB s1 s2 zz hS hHeld
        have HNX := Lib.hid (HNE1.out v2 EZ oa oc HCU2.out)
        (refine wpAnyE_one (i := 4) (o := ?_) ?_ (by kernel_rfl) (fun K hK => ?_); rotate_left; (focus ((simp only [List.getElem?_toArray, List.getElem?_cons_succ, List.getElem?_cons_zero]; exact rfl))); go_simp; go_at_call 73; refine HNX.out.mono ?_; rintro e v3 ⟨tv, fl, rfl, hfl, hE⟩; go_wp2_with fail; refine hK.out _ _ ?_ (fun hHeld => ?_); rotate_left; clear hK K; (try simp only [Act.put, List.setIfInBounds_toArray, List.set_cons_zero, List.set_cons_succ]))
        rotate_left
        · exact ⟨hE.cell t1, hE.cell t2⟩
        ((refine ePu 5 ?_); (refine ePu 6 ?_); (refine ePu 7 ?_); (refine ePu 8 ?_); (refine ePu 9 ?_))
        refine wpAnyE_done (by kernel_rfl) ?_ _
        have EX := EZ.trans hE
        have HFL := Lib.hid hfl
        have HBX := Lib.hid (HBB2.out.ext hE)
        have EX3 := EZ3.trans hE
        clear hfl hE t1 t2 hHeld HNX HCU2 HBB2 EZ EZ3
        go_wp2
        rcases HFL.out with ⟨rfl, t, ta, tc2, ht, rfl, hta⟩ | ⟨rfl, ht⟩
        · have h1 := HRS.out
          rw [ht] at h1
          go_roundg (restS cs t).length
          case measure =>
            have h9 := HLE.out
            rw [h1] at h9
            simp only [List.length_cons] at h9
            omega
          case rel =>
            refine ⟨nb, HBX.out, HNF.out, .inl ⟨rfl, t, ta, tc2, rfl, hta, HMN.out t ht, rfl, ?_⟩, EX3⟩
            have h2 := HFO.out
            rw [h1, List.foldl_cons, HTR.out] at h2
            exact h2
        · have h1 := HRS.out
          rw [ht] at h1
          go_roundg 0
          case measure =>
            have h9 := HLE.out
            rw [h1] at h9
            simp only [List.length_cons] at h9
            omega
          case rel =>
            refine ⟨nb, HBX.out, HNF.out, .inr ⟨rfl, ?_⟩, EX3⟩
            have h2 := HFO.out
            rw [h1, List.foldl_cons, List.foldl_nil, HTR.out] at h2
            exact h2
end Go.Proofs.YtmndcdjcodfchaaGreatDoor
