/- Steps of the proof: USpec, UOpen, ULaw, UNext, UStk, USpec2, Shelf, UOrd, UGiv2, UNxt, UBest, UROrd, ULOrd, URgt, ULLst. No conditions. -/
import Derived.Lib.Hide
import Derived.ProofKit
import Derived.OpenShut
import Derived.Lib.SmallJoins
import Derived.Deep.Slices
import Derived.Deep.Strs
import Derived.Shelf.Strings.Builder1
import Derived.Shelf.Strings.Builder2
import Derived.Shelf.Strings.Trim
import Derived.Shelf.Small.Utf8
import Derived.Shelf.Small.Strs
import Derived.Shelf.Small.Wraps
import Derived.Shelf.Strings.BuilderF
import Derived.Shelf.Strings.BuilderK
import Derived.Shelf.Strings.Builder2Cap
import Derived.Shelf.Strconv.Itoa0
import Derived.Shelf.Strconv.Itoa1
import Derived.Shelf.LaysM
import Derived.Shelf.Strconv.Itoa2
import Derived.Shelf.Strconv.Itoa3
import Derived.Shelf.Strconv.Clone
import Derived.Shelf.Strconv.SyntaxError
import Derived.Shelf.LaysC
import Derived.Shelf.Strconv.ToError
import Derived.Shelf.Strconv.Lower
import Derived.Shelf.Strconv.ParseUint10
import Derived.Shelf.Strconv.ParseUint10Empty
import Derived.Shelf.Strconv.ParseUint10Any
import Derived.Shelf.Strconv.RangeError
import Derived.Shelf.Strconv.ToErrorRange
import Derived.Shelf.Strconv.ParseUintEmpty
import Derived.Shelf.Strconv.ParseUint10b64
import Derived.Shelf.Strconv.ParseUint10b32
import Derived.Shelf.Strconv.ParseUint10b16
import Derived.Shelf.Strconv.ParseUint10b8
import Derived.Shelf.Strconv.ParseUint10At
import Derived.Ground.MpProg
import Derived.Shelf.Pu.ParseUintPublic10
import Derived.Shelf.Pu.ErrVarParseUint
import Derived.Shelf.Strings.Search1
import Derived.Shelf.Strings.Search2
import Derived.Shelf.Strings.Cut
import Derived.Shelf.Strings.Shaped
import Derived.Shelf.Strings.Prefix
import Derived.Shelf.Unicode.Decode
import Derived.Shelf.Strings.Runes
import Derived.Shelf.Strings.AsciiSet
import Derived.Shelf.Bits.Mul64
import Derived.Shelf.Strings.Repeat
import Derived.Shelf.Unicode.DecodeSlow
import Derived.Shelf.Unicode.DecodeAny
import Derived.Shelf.Unicode.DecodeLast
import Derived.Shelf.Strings.BuilderCap
import Derived.Shelf.Slices.Turned
import Derived.Shelf.Slices.Equal
import Derived.Ground.Names2Prog
import Derived.Shelf.Slices.Clone
import Derived.Shelf.Slices.SearchI
import Derived.Shelf.Slices.Empties2
import Derived.Ground.SlgnProg
import Derived.Shelf.SlicesE.Reverse
import Derived.Shelf.SlicesE.Clone
import Derived.Test.YtmndcdjcodfchaaGreatDoorProg
import Derived.Test.YtmndcdjcodfchaaGreatDoorCards
import Derived.Test.YtmndcdjcodfchaaGreatDoorTie
import Derived.WalkKit
import Derived.Deep.DeepHandedRow
import Derived.Lib.LaidTab
import Derived.LaidSub
import Derived.Stop.LaidErr
import Derived.MakeChecks
import Derived.Test.YtmndcdjcodfchaaGreatDoorZUB1
import Derived.Test.YtmndcdjcodfchaaGreatDoorZUB2
import Derived.Test.YtmndcdjcodfchaaGreatDoorZUB3
import Derived.Test.YtmndcdjcodfchaaGreatDoorZUB4
import Derived.Test.YtmndcdjcodfchaaGreatDoorZUB5
import Derived.Test.YtmndcdjcodfchaaGreatDoorZUB6
import Derived.Test.YtmndcdjcodfchaaGreatDoorZUB7
import Derived.Test.YtmndcdjcodfchaaGreatDoorZUB8
namespace Go.Proofs.YtmndcdjcodfchaaGreatDoor
theorem leftS_len (need parts : List Int) (n : Int) : (leftS need parts n).length = need.length := leftJ_len _ _ _ _
theorem leftS_get (need parts : List Int) (n : Int) {k : Nat} (h : k < need.length) : (leftS need parts n).getD k 0 = need.getD k 0 - n * parts.getD k 0 := by
  unfold leftS
  rw [leftJ_get _ _ _ _ h, if_pos h]
theorem dotS_nilr (f : Pk → Int) (ps : List Pk) : dotS f ps [] = 0 := by cases ps <;> (unfold dotS; rfl)
theorem costS_cons (p : Pk) (ps : List Pk) (n : Int) (o : List Int) : costS (p :: ps) (n :: o) = n * p.price + costS ps o := rfl
theorem amtS_cons (p : Pk) (ps : List Pk) (n : Int) (o : List Int) (k : Nat) : amtS (p :: ps) (n :: o) k = n * p.parts.getD k 0 + amtS ps o k := rfl
theorem costS_nil (o : List Int) : costS [] o = 0 := dotS_nil _ _
theorem amtS_nil (o : List Int) (k : Nat) : amtS [] o k = 0 := dotS_nil _ _
theorem amtS_nilr (ps : List Pk) (k : Nat) : amtS ps [] k = 0 := dotS_nilr _ _
def trySt (need : List Int) (ps : List Pk) (pre : List Int) (price size : Int) (b : Bst) (o : List Int) : Bst :=
  if meetS need ps o && betterS b.found b.price b.size (price + costS ps o) (size + totS o) then ⟨pre ++ o, price + costS ps o, size + totS o, true⟩ else b
def foldS (M : Int) (need : List Int) (ps : List Pk) (pre : List Int) (price size : Int) (b : Bst) : Bst :=
  (ordsS (capsS M ps)).foldl (trySt need ps pre price size) b
theorem PksOk.get {p : Pk} {ps : List Pk} {K : Nat} (h : PksOk ps K) (hp : p ∈ ps) (k : Nat) : 0 ≤ p.parts.getD k 0 := by
  by_cases hk : k < p.parts.length
  · exact h.num p hp _ (by rw [List.getD_eq_getElem?_getD, List.getElem?_eq_getElem hk]; simp)
  · rw [List.getD_eq_getElem?_getD, List.getElem?_eq_none (by omega)]; simp
theorem totS_nonneg : ∀ {o : List Int}, NonNeg o → 0 ≤ totS o := by
  intro o
  induction o with
  | nil => intro _; exact Int.le_refl _
  | cons n o ih =>
    intro h
    have h1 := h n (List.mem_cons_self ..)
    have h2 := ih h.tail
    unfold totS
    omega
theorem dotS_nonneg {f : Pk → Int} : ∀ {ps : List Pk} {o : List Int}, (∀ p ∈ ps, 0 ≤ f p) → NonNeg o → 0 ≤ dotS f ps o := by
  intro ps
  induction ps with
  | nil => intro o _ _; rw [dotS_nil]; exact Int.le_refl _
  | cons p ps ih =>
    intro o hp h
    cases o with
    | nil => rw [dotS_nilr]; exact Int.le_refl _
    | cons n o =>
      have h1 := h n (List.mem_cons_self ..)
      have h2 := ih (fun q hq => hp q (List.mem_cons_of_mem _ hq)) h.tail
      have h3 := Int.mul_nonneg h1 (hp p (List.mem_cons_self ..))
      unfold dotS
      omega
theorem costS_nonneg {K : Nat} {ps : List Pk} {o : List Int} (h : PksOk ps K) (ho : NonNeg o) : 0 ≤ costS ps o := dotS_nonneg h.price ho
theorem amtS_nonneg {K : Nat} {ps : List Pk} {o : List Int} (k : Nat) (h : PksOk ps K) (ho : NonNeg o) : 0 ≤ amtS ps o k := dotS_nonneg (fun _ hp => h.get hp k) ho
theorem meetS_cons {need : List Int} {p : Pk} {ps : List Pk} {n : Int} {o : List Int} : meetS need (p :: ps) (n :: o) = meetS (leftS need p.parts n) ps o := by
  apply Bool.eq_iff_iff.2
  rw [meetS_iff, meetS_iff, leftS_len]
  constructor
  · intro h k hk
    have := h k hk
    rw [amtS_cons] at this
    rw [leftS_get _ _ _ hk]
    omega
  · intro h k hk
    have := h k hk
    rw [leftS_get _ _ _ hk] at this
    rw [amtS_cons]
    omega
theorem mem_ords : ∀ {cs o : List Int}, o ∈ ordsS cs ↔ o.length = cs.length ∧ ∀ i, i < cs.length → 0 ≤ o.getD i 0 ∧ o.getD i 0 ≤ cs.getD i 0 := by
  intro cs
  induction cs with
  | nil =>
    intro o
    simp only [ordsS, List.mem_singleton, List.length_nil]
    constructor
    · rintro rfl; exact ⟨rfl, fun i hi => absurd hi (Nat.not_lt_zero i)⟩
    · rintro ⟨h, _⟩; exact List.eq_nil_of_length_eq_zero h
  | cons c cs ih =>
    intro o
    simp only [ordsS, List.mem_flatMap, List.mem_range, List.mem_map, List.length_cons]
    constructor
    · rintro ⟨n, hn, o', ho, rfl⟩
      obtain ⟨h1, h2⟩ := ih.1 ho
      refine ⟨by simp [h1], fun i hi => ?_⟩
      cases i with
      | zero => simp; omega
      | succ i => simpa using h2 i (by omega)
    · rintro ⟨h1, h2⟩
      cases o with
      | nil => simp at h1
      | cons n o =>
        have h0 := h2 0 (by omega)
        simp at h0
        refine ⟨n.toNat, by omega, o, ih.2 ⟨by simpa using h1, fun i hi => by simpa using h2 (i + 1) (by omega)⟩, ?_⟩
        rw [Int.toNat_of_nonneg h0.1]
theorem ords_nonneg {cs o : List Int} (h : o ∈ ordsS cs) : NonNeg o := by
  obtain ⟨h1, h2⟩ := mem_ords.1 h
  intro x hx
  obtain ⟨i, hi, e⟩ := List.mem_iff_getElem.1 hx
  have := (h2 i (by omega)).1
  rw [List.getD_eq_getElem?_getD, List.getElem?_eq_getElem hi] at this
  simpa [e] using this
theorem bt_mono {b : Bst} {p s p' s' : Int} (h : betterS b.found b.price b.size p s = false) (hp : p ≤ p') (hs : s ≤ s') : betterS b.found b.price b.size p' s' = false := by
  unfold betterS at h ⊢
  cases hf : b.found
  · rw [hf] at h; simp at h
  · rw [hf] at h
    simp at h ⊢
    omega
theorem try_keep {need : List Int} {ps : List Pk} {pre : List Int} {price size : Int} {b : Bst} {o : List Int} {p s : Int} (h : betterS b.found b.price b.size p s = false) :
    betterS (trySt need ps pre price size b o).found (trySt need ps pre price size b o).price (trySt need ps pre price size b o).size p s = false := by
  unfold trySt
  split
  · rename_i hc
    rw [Bool.and_eq_true] at hc
    have h2 := hc.2
    unfold betterS at h h2 ⊢
    cases hf : b.found
    · rw [hf] at h; simp at h
    · rw [hf] at h h2
      simp at h h2 ⊢
      omega
  · exact h
theorem fold_keep {need : List Int} {ps : List Pk} {pre : List Int} {price size : Int} {p s : Int} : ∀ (L : List (List Int)) {b : Bst}, betterS b.found b.price b.size p s = false →
    betterS (L.foldl (trySt need ps pre price size) b).found (L.foldl (trySt need ps pre price size) b).price (L.foldl (trySt need ps pre price size) b).size p s = false := by
  intro L
  induction L with
  | nil => intro b h; exact h
  | cons o L ih => intro b h; exact ih (try_keep h)
theorem try_done {need : List Int} {ps : List Pk} {pre : List Int} {price size : Int} (b : Bst) {o : List Int} (h : meetS need ps o = true) :
    betterS (trySt need ps pre price size b o).found (trySt need ps pre price size b o).price (trySt need ps pre price size b o).size (price + costS ps o) (size + totS o) = false := by
  unfold trySt
  split
  · unfold betterS; simp
  · rename_i hc
    rw [h, Bool.true_and] at hc
    simpa using hc
theorem fold_done {need : List Int} {ps : List Pk} {pre : List Int} {price size : Int} : ∀ (L : List (List Int)) (b : Bst) {o : List Int}, o ∈ L → meetS need ps o = true →
    betterS (L.foldl (trySt need ps pre price size) b).found (L.foldl (trySt need ps pre price size) b).price (L.foldl (trySt need ps pre price size) b).size (price + costS ps o) (size + totS o) = false := by
  intro L
  induction L with
  | nil => intro b o h; cases h
  | cons a L ih =>
    intro b o h hm
    rcases List.mem_cons.1 h with rfl | h
    · exact fold_keep L (try_done b hm)
    · exact ih _ h hm
theorem fold_same {need : List Int} {ps : List Pk} {pre : List Int} {price size : Int} : ∀ (L : List (List Int)) (b : Bst), (∀ o ∈ L, meetS need ps o = true → betterS b.found b.price b.size (price + costS ps o) (size + totS o) = false) → L.foldl (trySt need ps pre price size) b = b := by
  intro L
  induction L with
  | nil => intro b _; rfl
  | cons a L ih =>
    intro b h
    have h1 : trySt need ps pre price size b a = b := by
      unfold trySt
      split
      · rename_i hc
        rw [Bool.and_eq_true] at hc
        rw [h a (List.mem_cons_self ..) hc.1] at hc
        simp at hc
      · rfl
    rw [List.foldl_cons, h1]
    exact ih b fun o ho => h o (List.mem_cons_of_mem _ ho)
theorem fold_cons {need : List Int} {p : Pk} {ps : List Pk} {pre : List Int} {price size n : Int} : ∀ (L : List (List Int)) (b : Bst),
    (L.map fun o => n :: o).foldl (trySt need (p :: ps) pre price size) b = L.foldl (trySt (leftS need p.parts n) ps (pre ++ [n]) (price + n * p.price) (size + n)) b := by
  intro L
  induction L with
  | nil => intro b; rfl
  | cons a L ih =>
    intro b
    rw [List.map_cons, List.foldl_cons, List.foldl_cons, ih]
    congr 1
    unfold trySt
    rw [meetS_cons]
    have h1 : price + costS (p :: ps) (n :: a) = price + n * p.price + costS ps a := by rw [costS_cons]; omega
    have h2 : size + totS (n :: a) = size + n + totS a := by show size + (n + totS a) = _; omega
    rw [h1, h2, List.append_assoc, List.singleton_append]
theorem iter_fold {σ : Type} (step : Nat → σ → σ) (s : σ) : ∀ n, iterS step s n = (List.range n).foldl (fun t i => step i t) s := by
  intro n
  induction n with
  | zero => rfl
  | succ n ih => rw [List.range_succ, List.foldl_append, ← ih]; rfl
theorem foldS_cons {M : Int} {need : List Int} {p : Pk} {ps : List Pk} {pre : List Int} {price size : Int} {b : Bst} :
    foldS M need (p :: ps) pre price size b = iterS (fun n t => foldS M (leftS need p.parts n) ps (pre ++ [(n : Int)]) (price + n * p.price) (size + n) t) b (min p.most M + 1).toNat := by
  rw [iter_fold]
  unfold foldS
  show ((List.range (min p.most M + 1).toNat).flatMap _).foldl _ _ = _
  rw [List.foldl_flatMap]
  congr 1
  funext t n
  exact fold_cons _ _
end Go.Proofs.YtmndcdjcodfchaaGreatDoor
namespace Go.Proofs.YtmndcdjcodfchaaGreatDoor
open Go.RowKit Go.ChangeShapes Go.WideShapes Go.Joins Go.Deep
theorem laidOut : laidOutB Tryz.prog = true := by kernel_rfl
theorem cellsOfInt : Tryz.prog.cellsOf 3 = 1 := by kernel_rfl
theorem cellsOfSli : Tryz.prog.cellsOf 23 = 1 := by kernel_rfl
theorem cellsOfPk : Tryz.prog.cellsOf 62 = 3 := by kernel_rfl
theorem list3 {α : Type} {l : List α} (h : l.length = 3) : ∃ a b c, l = [a, b, c] := by
  match l, h with
  | [a, b, c], _ => exact ⟨a, b, c, rfl⟩
section
variable {H : Type} {enc : TypeId × Value → H} {w : World} {base : Nat} {spare : Nat → Bool} {held : Bool}
theorem open_cellsI {a : Addr} {len : Nat} (h : ∀ i, i < len → ∃ cs' n x, w.cells? base (a.add (i * 1)) 1 = some cs' ∧ DataW.trod enc Tryz.prog w base spare held n 3 cs' = some x) : ∃ l : List Int, l.length = len ∧ CellsI w (some a) l := by
  have key : ∀ i, i < len → ∃ y : Int, w.cell? (a.add (i * 1)) = some (.int .i64 y) := fun i hi => by
    obtain ⟨cs', n, x, h1, h2⟩ := h i hi
    obtain ⟨y, rfl, _, _⟩ := DataW.trod_int Tryz.underlying3 h2
    obtain ⟨_, _, hc⟩ := World.cells?_some h1
    have c0 := hc 0 (by omega)
    refine ⟨y, ?_⟩
    have e : (a.add (i * 1)).add 0 = a.add (i * 1) := by simp [Addr.add]
    rw [e] at c0
    exact c0
  obtain ⟨f, hf⟩ := choose_lt (α := Int) key
  refine ⟨(List.range len).map f, by simp, fun i hi => ?_⟩
  have hi' : i < len := by simpa using hi
  have h1 := hf i hi'
  have hp : ((List.range len).map f).getD i 0 = f i := by simp [List.getD, hi']
  rw [hp]
  obtain ⟨b, off, spot⟩ := a
  have hs : spot = none := by
    have h0 := World.cell?_spot (hf 0 (by omega))
    simpa [Addr.add] using h0
  subst hs
  rw [Addr.add_lit, Nat.mul_one] at h1
  exact ⟨b, off, rfl, h1⟩
theorem open_sli {fuel : Nat} {v : Value} {x : DataW H × List MemPlace} (hf : DataW.trod enc Tryz.prog w base spare held fuel 23 [v] = some x) : ∃ l : List Int, SliceI w v l := by
  rcases open_slice Tryz.underlying23 hf with ⟨h1, _⟩ | ⟨a, len, cap, m, n, D, Pl, h1, hb, hl, hm, hmm, _, hx⟩
  · simp at h1
    exact ⟨[], none, 0, h1, fun i hi => by simp at hi, by simp, by simp⟩
  · simp at h1
    rw [cellsOfInt] at hx
    have hlm : len ≤ m := by rw [hmm]; split <;> omega
    obtain ⟨l, hll, hc⟩ := open_cellsI (enc := enc) (spare := spare) (held := held) (w := w) (base := base) (a := a) (len := len) (fun i hi => by
      obtain ⟨cs', h2, h3⟩ := hx i (by omega)
      exact ⟨cs', n, _, h2, h3⟩)
    exact ⟨l, some a, cap, by rw [h1, hll], hc, by rw [hll]; exact hl, hm⟩
set_option maxRecDepth 100000 in
theorem open_ints {r : Reach} {b0 : Nat} {v : Value} {d : DataW H} {p : List MemPlace} (hv : Value.okWide Tryz.prog w r b0 23 v) (h : DataW.Trod enc Tryz.prog w base spare held 23 v d p) : ∃ l : List Int, SliceI w v l := by
  have key : v.cells.toList = [v] := by
    simp only [Value.okWide, Tryz.underlying23] at hv
    cases v <;> first | rfl | (simp [Cell.okWide, Cell.ok, Tryz.underlying23] at hv)
  obtain ⟨fuel, hf⟩ := h
  rw [key] at hf
  exact open_sli hf
theorem open_pkg {fuel : Nat} {cs : List Value} {x : DataW H × List MemPlace} (h : DataW.trod enc Tryz.prog w base spare held fuel 62 cs = some x) : ∃ (v : Value) (p : Pk), cs = [v, .int .i64 p.price, .int .i64 p.most] ∧ SliceI w v p.parts := by
  obtain ⟨y0, y1, y2, n, _, hl, h0, h1, h2⟩ := trod_struct3 Tryz.underlying62 h
  rw [cellsOfPk] at hl
  obtain ⟨a, b, c, rfl⟩ := list3 hl
  rw [cellsOfSli] at h0
  rw [cellsOfInt] at h1
  rw [cellsOfInt] at h2
  obtain ⟨i, e1, _, _⟩ := DataW.trod_int Tryz.underlying3 h1
  obtain ⟨j, e2, _, _⟩ := DataW.trod_int Tryz.underlying3 h2
  obtain ⟨l, hv⟩ := open_sli (v := a) (by simpa using h0)
  simp at e1 e2
  subst e1; subst e2
  exact ⟨a, ⟨l, i, j⟩, rfl, hv⟩
theorem open_pkgs {a : Addr} {len : Nat} (h : ∀ i, i < len → ∃ cs' n x, w.cells? base (a.add (i * 3)) 3 = some cs' ∧ DataW.trod enc Tryz.prog w base spare held n 62 cs' = some x) : ∃ l : List Pk, l.length = len ∧ PkG w (some a) l := by
  have key : ∀ i, i < len → ∃ y : Value × Pk, w.cell? (a.add (i * 3)) = some y.1 ∧ SliceI w y.1 y.2.parts ∧ w.cell? ((a.add (i * 3)).add 1) = some (.int .i64 y.2.price) ∧ w.cell? ((a.add (i * 3)).add 2) = some (.int .i64 y.2.most) := fun i hi => by
    obtain ⟨cs', n, x, h1, h2⟩ := h i hi
    obtain ⟨v, y, rfl, hv⟩ := open_pkg h2
    obtain ⟨_, _, hc⟩ := World.cells?_some h1
    have c0 := hc 0 (by omega)
    have c1 := hc 1 (by omega)
    have c2 := hc 2 (by omega)
    refine ⟨(v, y), ?_, hv, c1, c2⟩
    have e : (a.add (i * 3)).add 0 = a.add (i * 3) := by simp [Addr.add]
    rw [e] at c0
    exact c0
  haveI : Inhabited (Value × Pk) := ⟨(undef, pk0)⟩
  obtain ⟨f, hf⟩ := choose_lt (α := Value × Pk) key
  have hs : 0 < len → a.spot = none := fun h0 => by
    have h0 := World.cell?_spot (hf 0 h0).1
    simpa [Addr.add] using h0
  refine ⟨(List.range len).map fun i => (f i).2, by simp, fun i hi => ?_⟩
  have hi' : i < len := by simpa using hi
  obtain ⟨h1, h2, h3, h4⟩ := hf i hi'
  have hp : ((List.range len).map fun i => (f i).2).getD i pk0 = (f i).2 := by simp [List.getD, hi']
  rw [hp]
  obtain ⟨b, off, spot⟩ := a
  have hs := hs (by omega)
  dsimp only at hs
  subst hs
  rw [Addr.add_lit] at h1 h3 h4
  rw [Addr.add_lit] at h3 h4
  exact ⟨b, off, _, rfl, h1, h2, h3, h4⟩
set_option maxRecDepth 100000 in
theorem open_task {r : Reach} {b0 : Nat} {v : Value} {d : DataW H} {p : List MemPlace} (hv : Value.okWide Tryz.prog w r b0 25 v) (h : DataW.Trod enc Tryz.prog w base spare held 25 v d p) :
    ∃ pks need pa pc na nc, v = taskV pks need pa pc na nc ∧ TaskG w pks need pa pc na nc := by
  obtain ⟨c0, c1, y0, y1, n, rfl, _, _, h0, h1⟩ := open_agg2 Tryz.underlying25 (by kernel_rfl) (by kernel_rfl) hv h
  obtain ⟨need, na, nc, rfl, e2, e3, e4⟩ := open_sli h1
  rcases open_slice Tryz.underlying22 h0 with ⟨h1, _⟩ | ⟨a, len, cap, m, n, D, Pl, h1, hb, hl, hm, hmm, _, hx⟩
  · simp at h1
    subst h1
    exact ⟨[], need, none, 0, na, nc, rfl, fun i hi => by simp at hi, e2, by simp, by simp, e3, e4⟩
  · simp at h1
    rw [cellsOfPk] at hx
    have hlm : len ≤ m := by rw [hmm]; split <;> omega
    obtain ⟨l, hll, hc⟩ := open_pkgs (enc := enc) (spare := spare) (held := held) (w := w) (base := base) (a := a) (len := len) (fun i hi => by
      obtain ⟨cs', h2, h3⟩ := hx i (by omega)
      exact ⟨cs', n, _, h2, h3⟩)
    subst h1
    exact ⟨l, need, some a, cap, na, nc, by unfold taskV; rw [hll], hc, e2, by rw [hll]; exact hl, hm, e3, e4⟩
end
end Go.Proofs.YtmndcdjcodfchaaGreatDoor
namespace Go.Proofs.YtmndcdjcodfchaaGreatDoor
theorem useK_bd2 {p : Pk} {need : List Int} {M : Int} (hM : 0 ≤ M) (hp : ∀ k, 0 ≤ p.parts.getD k 0) (hn : ∀ k, k < p.parts.length → need.getD k 0 ≤ M) : ∀ k, k ≤ p.parts.length → 0 ≤ useK p need k ∧ useK p need k ≤ M := by
  intro k
  induction k with
  | zero => intro _; unfold useK; omega
  | succ k ih =>
    intro h1
    have hi := ih (by omega)
    have h3 := hn k (by omega)
    have h4 := hp k
    unfold useK
    generalize need.getD k 0 = x at h3 ⊢
    generalize p.parts.getD k 0 = y at h4 ⊢
    split
    · rename_i h
      obtain ⟨hy, hx⟩ := h
      have hd : 0 ≤ (x + y - 1).tdiv y ∧ (x + y - 1).tdiv y ≤ M := by
        rw [Int.tdiv_eq_ediv_of_nonneg (by omega)]
        refine ⟨Int.ediv_nonneg (by omega) (by omega), ?_⟩
        have h9 : (x + y - 1) / y ≤ x := by
          have : x + y - 1 < (x + 1) * y := by
            have h10 : 0 ≤ x * (y - 1) := Int.mul_nonneg (by omega) (by omega)
            have h11 : (x + 1) * y = x * (y - 1) + x + y := by rw [Int.add_mul, Int.mul_sub]; omega
            omega
          have := Int.ediv_lt_of_lt_mul (by omega) this
          omega
        omega
      omega
    · exact hi
theorem useK_enough {p : Pk} {need : List Int} (hp : ∀ k, 0 ≤ p.parts.getD k 0) : ∀ j, 0 ≤ useK p need j ∧ ∀ k, k < j → 0 < p.parts.getD k 0 → need.getD k 0 ≤ useK p need j * p.parts.getD k 0 := by
  intro j
  induction j with
  | zero => exact ⟨by unfold useK; omega, fun k hk => absurd hk (Nat.not_lt_zero k)⟩
  | succ j ih =>
    obtain ⟨i1, i2⟩ := ih
    by_cases hc : 0 < p.parts.getD j 0 ∧ 0 < need.getD j 0
    · have e : useK p need (j + 1) = max (useK p need j) ((need.getD j 0 + p.parts.getD j 0 - 1).tdiv (p.parts.getD j 0)) := by
        show (if _ then _ else _) = _
        rw [if_pos hc]
      rw [e]
      refine ⟨by omega, fun k hk hy => ?_⟩
      rcases Nat.lt_or_eq_of_le (Nat.le_of_lt_succ hk) with h | rfl
      · have h1 := i2 k h hy
        have h2 := Int.mul_le_mul_of_nonneg_right (show useK p need j ≤ max (useK p need j) ((need.getD j 0 + p.parts.getD j 0 - 1).tdiv (p.parts.getD j 0)) by omega) (hp k)
        omega
      · generalize need.getD k 0 = x at hc ⊢
        generalize p.parts.getD k 0 = y at hc hy ⊢
        rw [Int.tdiv_eq_ediv_of_nonneg (by omega)]
        have h1 := Int.mul_ediv_add_emod (x + y - 1) y
        have h2 := Int.emod_lt_of_pos (x + y - 1) hy
        have h3 := Int.mul_le_mul_of_nonneg_right (show (x + y - 1) / y ≤ max (useK p need k) ((x + y - 1) / y) by omega) (show 0 ≤ y by omega)
        rw [Int.mul_comm] at h1
        omega
    · have e : useK p need (j + 1) = useK p need j := by
        show (if _ then _ else _) = _
        rw [if_neg hc]
      rw [e]
      refine ⟨i1, fun k hk hy => ?_⟩
      rcases Nat.lt_or_eq_of_le (Nat.le_of_lt_succ hk) with h | rfl
      · exact i2 k h hy
      · have h0 : need.getD k 0 ≤ 0 := by omega
        have := Int.mul_nonneg i1 (hp k)
        omega
theorem useful_meet {p : Pk} {ps : List Pk} {need o : List Int} {K : Nat} {n : Int} (hk : PksOk (p :: ps) K) (hl : need.length = K) (ho : NonNeg o) (h1 : usefulS p need < n) (h2 : n ≤ p.most) (hm : meetS (leftS need p.parts n) ps o = true) :
    meetS (leftS need p.parts (usefulS p need)) ps o = true := by
  rw [meetS_iff, leftS_len] at hm ⊢
  intro k hkl
  have hm1 := hm k hkl
  rw [leftS_get _ _ _ hkl] at hm1 ⊢
  have hg := fun k => hk.get (List.mem_cons_self ..) k
  have hpl := hk.parts p (List.mem_cons_self ..)
  have hu : usefulS p need = useK p need p.parts.length := by unfold usefulS at h1 ⊢; omega
  rw [hu]
  obtain ⟨e1, e2⟩ := useK_enough (need := need) hg p.parts.length
  have ha := amtS_nonneg k hk.tail ho
  by_cases hy : 0 < p.parts.getD k 0
  · have := e2 k (by omega) hy
    omega
  · have hz : p.parts.getD k 0 = 0 := by have := hg k; omega
    rw [hz] at hm1 ⊢
    omega
theorem ords_head : ∀ {cs : List Int}, (∀ c ∈ cs, 0 ≤ c) → ∃ tl, ordsS cs = List.replicate cs.length 0 :: tl := by
  intro cs
  induction cs with
  | nil => intro _; exact ⟨[], rfl⟩
  | cons c cs ih =>
    intro h
    have hc := h c (List.mem_cons_self ..)
    obtain ⟨tl, e⟩ := ih fun x hx => h x (List.mem_cons_of_mem _ hx)
    obtain ⟨m, hm⟩ : ∃ m, (c + 1).toNat = m + 1 := ⟨c.toNat, by omega⟩
    unfold ordsS
    rw [hm, List.range_succ_eq_map, List.flatMap_cons, e, List.map_cons]
    exact ⟨_, rfl⟩
theorem zeros_meet {need : List Int} {K : Nat} (h : ∀ k, k < need.length → need.getD k 0 ≤ 0) {ps : List Pk} {o : List Int} (hp : PksOk ps K) (ho : NonNeg o) : meetS need ps o = true := by
  rw [meetS_iff]
  intro k hk
  have := h k hk
  have := amtS_nonneg k hp ho
  omega
theorem zeros_sum : ∀ (ps : List Pk) (n : Nat), costS ps (List.replicate n 0) = 0 ∧ totS (List.replicate n 0) = 0 := by
  intro ps n
  constructor
  · induction ps generalizing n with
    | nil => exact costS_nil _
    | cons p ps ih =>
      cases n with
      | zero => rfl
      | succ n => rw [List.replicate_succ, costS_cons, ih]; omega
  · induction n with
    | zero => rfl
    | succ n ih => rw [List.replicate_succ]; unfold totS; omega
theorem any_pos {l : List Int} : l.any isPos = false ↔ ∀ k, k < l.length → l.getD k 0 ≤ 0 := by
  rw [List.any_eq_false]
  constructor
  · intro h k hk
    have := h (l.getD k 0) (by rw [List.getD_eq_getElem?_getD, List.getElem?_eq_getElem hk]; simp)
    unfold isPos at this
    simpa using this
  · intro h x hx
    obtain ⟨i, hi, e⟩ := List.mem_iff_getElem.1 hx
    have := h i hi
    rw [List.getD_eq_getElem?_getD, List.getElem?_eq_getElem hi] at this
    unfold isPos
    simpa [e] using this
theorem caps_nonneg {M : Int} {ps : List Pk} {K : Nat} (hM : 0 ≤ M) (hp : PksOk ps K) : ∀ c ∈ capsS M ps, 0 ≤ c := by
  intro c hc
  obtain ⟨p, h1, rfl⟩ := List.mem_map.1 hc
  have := hp.most p h1
  omega
theorem stop_fold {M : Int} {need now : List Int} {ps : List Pk} {K i f : Nat} {price size : Int} {b : Bst} {r : List Int × Bst} (hM : 0 ≤ M) (hp : PksOk ps K) (hif : ps.length = f) (hnow : now.length = i + f)
    (h : stopS need price size f (now, b) = some r) : r.2 = foldS M need ps (now.take i) price size b ∧ r.1 = now := by
  unfold stopS at h
  dsimp only at h
  split at h
  · rename_i hb
    cases h
    refine ⟨?_, rfl⟩
    unfold foldS
    rw [fold_same]
    intro o ho _
    have h1 := ords_nonneg ho
    have h2 := costS_nonneg hp h1
    have h3 := totS_nonneg h1
    exact bt_mono hb (by omega) (by omega)
  · rename_i hb
    split at h
    · rename_i hz
      cases h
      refine ⟨?_, rfl⟩
      obtain ⟨tl, e⟩ := ords_head (caps_nonneg hM hp)
      have hl : (capsS M ps).length = f := by unfold capsS; rw [List.length_map]; exact hif
      have hz2 := any_pos.1 hz
      have ht : trySt need ps (now.take i) price size b (List.replicate f 0) = ⟨now.take i ++ List.replicate f 0, price, size, true⟩ := by
        unfold trySt
        rw [zeros_meet hz2 hp (fun x hx => by rw [List.mem_replicate] at hx; omega), (zeros_sum ps f).1, (zeros_sum ps f).2]
        rw [Int.add_zero, Int.add_zero]
        rw [if_pos (by simpa using hb)]
      unfold foldS
      rw [e, List.foldl_cons, hl, ht, fold_same]
      · dsimp only
        rw [show now.length - f = i by omega]
      · intro o ho _
        have h1 := ords_nonneg (cs := capsS M ps) (o := o) (by rw [e]; exact List.mem_cons_of_mem _ ho)
        have h2 := costS_nonneg hp h1
        have h3 := totS_nonneg h1
        refine bt_mono (b := ⟨now.take i ++ List.replicate f 0, price, size, true⟩) (p := price) (s := size) ?_ (by omega) (by omega)
        unfold betterS
        simp
    · cases h
theorem iter_stay {σ : Type} (step : Nat → σ → σ) (s : σ) (m : Nat) : ∀ d, (∀ n, m ≤ n → n < m + d → step n (iterS step s m) = iterS step s m) → iterS step s (m + d) = iterS step s m := by
  intro d
  induction d with
  | zero => intro _; rfl
  | succ d ih =>
    intro h
    show step (m + d) (iterS step s (m + d)) = _
    rw [ih fun n h1 h2 => h n h1 (by omega)]
    exact h (m + d) (by omega) (by omega)
theorem fold_useful {M : Int} {need : List Int} {p : Pk} {ps : List Pk} {pre : List Int} {price size : Int} {b : Bst} {K : Nat} (hM : 0 ≤ M) (hp : PksOk (p :: ps) K) (hl : need.length = K) (hn : ∀ k, k < need.length → need.getD k 0 ≤ M) :
    foldS M need (p :: ps) pre price size b = iterS (fun n t => foldS M (leftS need p.parts n) ps (pre ++ [(n : Int)]) (price + n * p.price) (size + n) t) b (usefulS p need + 1).toNat := by
  rw [foldS_cons]
  have hpl := hp.parts p (List.mem_cons_self ..)
  have hbd := useK_bd2 (p := p) (need := need) hM (fun k => hp.get (List.mem_cons_self ..) k) (fun k hk => hn k (by omega)) p.parts.length (Nat.le_refl _)
  have hmost := hp.most p (List.mem_cons_self ..)
  have hpr := hp.price p (List.mem_cons_self ..)
  have hu0 : 0 ≤ usefulS p need := by unfold usefulS; omega
  have hu1 : usefulS p need ≤ min p.most M := by unfold usefulS; omega
  obtain ⟨u, hu⟩ : ∃ u : Nat, usefulS p need = u := ⟨(usefulS p need).toNat, by omega⟩
  obtain ⟨d, hd⟩ : ∃ d, (min p.most M + 1).toNat = (usefulS p need + 1).toNat + d := ⟨(min p.most M + 1).toNat - (usefulS p need + 1).toNat, by omega⟩
  rw [hd]
  have hu2 : (usefulS p need + 1).toNat = u + 1 := by omega
  rw [hu2] at hd ⊢
  refine iter_stay _ _ _ d fun n h1 h2 => ?_
  unfold foldS
  refine fold_same _ _ fun o ho hm => ?_
  have hnn := ords_nonneg ho
  have hm2 := useful_meet (p := p) (ps := ps) (n := (n : Int)) hp hl hnn (by omega) (by omega) hm
  rw [hu] at hm2
  have h9 := fold_done (need := leftS need p.parts u) (ps := ps) (pre := pre ++ [(u : Int)]) (price := price + u * p.price) (size := size + u) (ordsS (capsS M ps)) (iterS (fun n t => foldS M (leftS need p.parts n) ps (pre ++ [(n : Int)]) (price + n * p.price) (size + n) t) b u) ho hm2
  have h3 : (u : Int) * p.price ≤ (n : Int) * p.price := Int.mul_le_mul_of_nonneg_right (by omega) hpr
  exact bt_mono h9 (by omega) (by omega)
theorem drop_get {pks : List Pk} {i : Nat} (h : i < pks.length) : pks.drop i = pks.getD i pk0 :: pks.drop (i + 1) := by
  rw [List.drop_eq_getElem_cons h, List.getD_eq_getElem?_getD, List.getElem?_eq_getElem h]
  rfl
theorem ok_drop {pks : List Pk} {K : Nat} (h : PksOk pks K) (i : Nat) : PksOk (pks.drop i) K :=
  ⟨fun p hp => h.parts p (List.mem_of_mem_drop hp), fun p hp => h.num p (List.mem_of_mem_drop hp), fun p hp => h.price p (List.mem_of_mem_drop hp), fun p hp => h.most p (List.mem_of_mem_drop hp)⟩
theorem set_take (l : List Int) {i : Nat} (h : i < l.length) (x : Int) : (l.set i x).take (i + 1) = l.take i ++ [x] := by
  rw [List.take_set, List.take_succ_eq_append_getElem h, List.set_append_right _ _ (by simp; omega)]
  congr 1
  rw [List.length_take, Nat.min_eq_left (by omega), Nat.sub_self]
  rfl
theorem buy_fold {pks : List Pk} {K : Nat} {M : Int} (hM : 0 ≤ M) (hp : PksOk pks K) : ∀ (f i : Nat), i + f = pks.length → ∀ (need : List Int) (price size : Int) (now : List Int) (b : Bst), need.length = K → (∀ k, k < need.length → need.getD k 0 ≤ M) → now.length = pks.length →
    (buyS pks f need price size (now, b)).2 = foldS M need (pks.drop i) (now.take i) price size b ∧ (buyS pks f need price size (now, b)).1.take i = now.take i := by
  intro f
  induction f with
  | zero =>
    intro i hif need price size now b hl hn hnow
    unfold buyS
    have hd : pks.drop i = [] := List.drop_eq_nil_of_le (by omega)
    cases hs : stopS need price size 0 (now, b) with
    | some r =>
      obtain ⟨h1, h2⟩ := stop_fold (M := M) (i := i) hM (ok_drop hp i) (by rw [hd]; rfl) (by omega) hs
      exact ⟨h1, by show r.1.take i = _; rw [h2]⟩
    | none =>
      refine ⟨?_, rfl⟩
      unfold stopS at hs
      dsimp only at hs
      split at hs
      · cases hs
      · split at hs
        · cases hs
        · rename_i hz
          rw [hd]
          unfold foldS
          show b = trySt need [] (now.take i) price size b []
          unfold trySt
          have hm : meetS need [] [] = false := by
            cases hmm : meetS need [] []
            · rfl
            · exfalso
              apply hz
              rw [any_pos]
              intro k hk
              have := meetS_iff.1 hmm k hk
              rw [amtS_nil] at this
              exact this
          rw [hm]
          rfl
  | succ f ih =>
    intro i hif need price size now b hl hn hnow
    have hi : i < pks.length := by omega
    unfold buyS
    rw [show pks.length - (f + 1) = i by omega]
    have hd := drop_get hi
    cases hs : stopS need price size (f + 1) (now, b) with
    | some r =>
      obtain ⟨h1, h2⟩ := stop_fold (M := M) (i := i) hM (ok_drop hp i) (by rw [List.length_drop]; omega) (by omega) hs
      exact ⟨h1, by show r.1.take i = _; rw [h2]⟩
    | none =>
      rw [Option.getD_none]
      have hpd := ok_drop hp i
      rw [hd] at hpd ⊢
      rw [fold_useful hM hpd hl hn]
      generalize pks.getD i pk0 = p at hpd
      generalize (usefulS p need + 1).toNat = u
      have key : ∀ n, (iterS (fun n t => buyS pks f (leftS need p.parts n) (price + n * p.price) (size + n) (t.1.set i n, t.2)) (now, b) n).2 = iterS (fun n t => foldS M (leftS need p.parts n) (pks.drop (i + 1)) (now.take i ++ [(n : Int)]) (price + n * p.price) (size + n) t) b n ∧
          (iterS (fun n t => buyS pks f (leftS need p.parts n) (price + n * p.price) (size + n) (t.1.set i n, t.2)) (now, b) n).1.take i = now.take i ∧
          (iterS (fun n t => buyS pks f (leftS need p.parts n) (price + n * p.price) (size + n) (t.1.set i n, t.2)) (now, b) n).1.length = pks.length := by
        intro n
        induction n with
        | zero => exact ⟨rfl, rfl, hnow⟩
        | succ n iu =>
          obtain ⟨u1, u2, u3⟩ := iu
          have hpp := fun k => hpd.get (List.mem_cons_self ..) k
          have e : ∀ s : List Int × Bst, s.1.length = pks.length → s.1.take i = now.take i →
              (buyS pks f (leftS need p.parts n) (price + n * p.price) (size + n) (s.1.set i n, s.2)).2 = foldS M (leftS need p.parts n) (pks.drop (i + 1)) (now.take i ++ [(n : Int)]) (price + n * p.price) (size + n) s.2 ∧
              (buyS pks f (leftS need p.parts n) (price + n * p.price) (size + n) (s.1.set i n, s.2)).1.take i = now.take i ∧
              (buyS pks f (leftS need p.parts n) (price + n * p.price) (size + n) (s.1.set i n, s.2)).1.length = pks.length := by
            intro s hs1 hs2
            obtain ⟨v1, v2⟩ := ih (i + 1) (by omega) (leftS need p.parts n) (price + n * p.price) (size + n) (s.1.set i n) s.2 (by rw [leftS_len]; exact hl) (fun k hk => by
              rw [leftS_len] at hk
              rw [leftS_get _ _ _ hk]
              have h1 := hn k hk
              have h2 := Int.mul_nonneg (Int.natCast_nonneg n) (hpp k)
              omega) (by rw [List.length_set]; exact hs1)
            rw [set_take _ (by omega), hs2] at v1 v2
            refine ⟨v1, ?_, by rw [buy_len, List.length_set]; exact hs1⟩
            have := congrArg (List.take i) v2
            rw [List.take_take, Nat.min_eq_left (by omega), List.take_append_of_le_length (by rw [List.length_take]; omega), List.take_take, Nat.min_self] at this
            exact this
          obtain ⟨e1, e2, e3⟩ := e _ u3 u2
          refine ⟨?_, e2, e3⟩
          show (buyS _ _ _ _ _ _).2 = foldS _ _ _ _ _ _ _
          rw [e1, u1]
      exact ⟨(key u).1, (key u).2.1⟩
end Go.Proofs.YtmndcdjcodfchaaGreatDoor
namespace Go.Proofs.YtmndcdjcodfchaaGreatDoor
theorem fold_found {need : List Int} {ps : List Pk} {A : List (List Int)} : ∀ (L : List (List Int)) (b : Bst), (∀ o ∈ L, o ∈ A) → (b.found = true → b.order ∈ A ∧ meetS need ps b.order = true ∧ b.price = costS ps b.order ∧ b.size = totS b.order) →
    ((L.foldl (trySt need ps [] 0 0) b).found = true → (L.foldl (trySt need ps [] 0 0) b).order ∈ A ∧ meetS need ps (L.foldl (trySt need ps [] 0 0) b).order = true ∧ (L.foldl (trySt need ps [] 0 0) b).price = costS ps (L.foldl (trySt need ps [] 0 0) b).order ∧ (L.foldl (trySt need ps [] 0 0) b).size = totS (L.foldl (trySt need ps [] 0 0) b).order) := by
  intro L
  induction L with
  | nil => intro b _ h; exact h
  | cons a L ih =>
    intro b hA h
    rw [List.foldl_cons]
    refine ih _ (fun o ho => hA o (List.mem_cons_of_mem _ ho)) ?_
    unfold trySt
    split
    · rename_i hc
      rw [Bool.and_eq_true] at hc
      intro _
      refine ⟨hA a (List.mem_cons_self ..), hc.1, ?_, ?_⟩
      · show 0 + costS ps a = costS ps ([] ++ a); rw [List.nil_append]; omega
      · show 0 + totS a = totS ([] ++ a); rw [List.nil_append]; omega
    · exact h
theorem fold_best (M : Int) (need : List Int) (ps : List Pk) : Best M need ps (foldS M need ps [] 0 0 bst0) := by
  have hl : ∀ o ∈ ordsS (capsS M ps), meetS need ps o = true → betterS (foldS M need ps [] 0 0 bst0).found (foldS M need ps [] 0 0 bst0).price (foldS M need ps [] 0 0 bst0).size (costS ps o) (totS o) = false := fun o ho hm => by
    have := fold_done (need := need) (ps := ps) (pre := []) (price := 0) (size := 0) (ordsS (capsS M ps)) bst0 ho hm
    rw [Int.zero_add, Int.zero_add] at this
    exact this
  refine ⟨fold_found _ _ (fun o ho => ho) (fun h => by cases h), fun hf o ho => ?_, hl⟩
  cases hm : meetS need ps o
  · rfl
  · have := hl o ho hm
    unfold betterS at this
    rw [hf] at this
    simp at this
end Go.Proofs.YtmndcdjcodfchaaGreatDoor
namespace Go.Proofs.YtmndcdjcodfchaaGreatDoor
theorem mem_caps {M : Int} {ps : List Pk} {o : List Int} : o ∈ ordsS (capsS M ps) ↔ o.length = ps.length ∧ ∀ i, i < ps.length → 0 ≤ o.getD i 0 ∧ o.getD i 0 ≤ (ps.getD i pk0).most ∧ o.getD i 0 ≤ M := by
  rw [mem_ords]
  unfold capsS
  rw [List.length_map]
  constructor
  · rintro ⟨h1, h2⟩
    refine ⟨h1, fun i hi => ?_⟩
    obtain ⟨a, b⟩ := h2 i hi
    have : (ps.map fun p => min p.most M).getD i 0 = min (ps.getD i pk0).most M := by
      rw [getD_of (by rw [List.length_map]; exact hi), List.getElem_map, getD_of hi]
    rw [this] at b
    omega
  · rintro ⟨h1, h2⟩
    refine ⟨h1, fun i hi => ?_⟩
    obtain ⟨a, b, c⟩ := h2 i hi
    have : (ps.map fun p => min p.most M).getD i 0 = min (ps.getD i pk0).most M := by
      rw [getD_of (by rw [List.length_map]; exact hi), List.getElem_map, getD_of hi]
    rw [this]
    omega
theorem nonNeg_get {o : List Int} (h : ∀ i, i < o.length → 0 ≤ o.getD i 0) : NonNeg o := by
  intro x hx
  obtain ⟨i, hi, e⟩ := List.mem_iff_getElem.1 hx
  have := h i hi
  rw [getD_of hi] at this
  omega
theorem NonNeg.get {o : List Int} (h : NonNeg o) (i : Nat) : 0 ≤ o.getD i 0 := by
  by_cases hi : i < o.length
  · exact h _ (getD_mem hi)
  · rw [List.getD_eq_getElem?_getD, List.getElem?_eq_none (by omega)]; exact Int.le_refl _
def capO (M : Int) (o : List Int) : List Int := o.map fun n => min n M
theorem capO_len (M : Int) (o : List Int) : (capO M o).length = o.length := List.length_map ..
theorem capO_get {M : Int} (hM : 0 ≤ M) (o : List Int) (i : Nat) : (capO M o).getD i 0 = min (o.getD i 0) M := by
  unfold capO
  by_cases hi : i < o.length
  · rw [getD_of (by rw [List.length_map]; exact hi), List.getElem_map, getD_of hi]
  · rw [List.getD_eq_getElem?_getD, List.getD_eq_getElem?_getD, List.getElem?_eq_none (by rw [List.length_map]; omega), List.getElem?_eq_none (by omega)]
    show (0 : Int) = min 0 M
    omega
theorem dot_cap_le {f : Pk → Int} {M : Int} : ∀ {ps : List Pk} {o : List Int}, (∀ p ∈ ps, 0 ≤ f p) → dotS f ps (capO M o) ≤ dotS f ps o := by
  intro ps
  induction ps with
  | nil => intro o _; rw [dotS_nil, dotS_nil]; exact Int.le_refl _
  | cons p ps ih =>
    intro o hp
    cases o with
    | nil => exact Int.le_refl _
    | cons n o =>
      have h1 := ih (o := o) fun q hq => hp q (List.mem_cons_of_mem _ hq)
      have h2 := Int.mul_le_mul_of_nonneg_right (show min n M ≤ n by omega) (hp p (List.mem_cons_self ..))
      show min n M * f p + dotS f ps (capO M o) ≤ n * f p + dotS f ps o
      omega
theorem tot_cap_le {M : Int} : ∀ {o : List Int}, totS (capO M o) ≤ totS o := by
  intro o
  induction o with
  | nil => exact Int.le_refl _
  | cons n o ih =>
    show min n M + totS (capO M o) ≤ n + totS o
    omega
theorem amt_cap {M : Int} (hM : 0 ≤ M) (k : Nat) : ∀ {ps : List Pk} {o : List Int}, (∀ p ∈ ps, 0 ≤ p.parts.getD k 0) → NonNeg o → min (amtS ps o k) M ≤ amtS ps (capO M o) k := by
  intro ps
  induction ps with
  | nil => intro o _ _; rw [amtS_nil, amtS_nil]; omega
  | cons p ps ih =>
    intro o hp ho
    cases o with
    | nil => rw [amtS_nilr]; show _ ≤ amtS (p :: ps) [] k; rw [amtS_nilr]; omega
    | cons n o =>
      have hq := fun q hq => hp q (List.mem_cons_of_mem p hq)
      have h1 := ih (o := o) hq ho.tail
      have hy := hp p (List.mem_cons_self ..)
      have hn := ho n (List.mem_cons_self ..)
      have ha : 0 ≤ amtS ps (capO M o) k := dotS_nonneg hq (fun x hx => by
        obtain ⟨y, h3, rfl⟩ := List.mem_map.1 hx
        have := ho.tail y h3
        omega)
      show min (amtS (p :: ps) (n :: o) k) M ≤ amtS (p :: ps) (min n M :: capO M o) k
      rw [amtS_cons, amtS_cons]
      generalize p.parts.getD k 0 = y at hy
      by_cases hnm : n ≤ M
      · rw [show min n M = n from Int.min_eq_left hnm]
        have := Int.mul_nonneg hn hy
        omega
      · rw [show min n M = M from Int.min_eq_right (by omega)]
        by_cases hy0 : y = 0
        · subst hy0; rw [Int.mul_zero, Int.mul_zero]; omega
        · have := Int.mul_le_mul_of_nonneg_left (show (1 : Int) ≤ y by omega) hM
          omega
theorem meet_cap {M : Int} (hM : 0 ≤ M) {need : List Int} {ps : List Pk} {o : List Int} {K : Nat} (hp : PksOk ps K) (ho : NonNeg o) (hn : ∀ k, k < need.length → need.getD k 0 ≤ M) (h : meetS need ps o = true) : meetS need ps (capO M o) = true := by
  rw [meetS_iff] at h ⊢
  intro k hk
  have h1 := h k hk
  have h2 := hn k hk
  have h3 := amt_cap hM k (fun p hq => hp.get hq k) ho
  omega
theorem best_all {M : Int} {need : List Int} {ps : List Pk} {b : Bst} {K : Nat} (hb : Best M need ps b) (hM : 0 ≤ M) (hp : PksOk ps K) (hn : ∀ k, k < need.length → need.getD k 0 ≤ M) {o : List Int} (hl : o.length = ps.length) (ho : ∀ i, i < ps.length → 0 ≤ o.getD i 0 ∧ o.getD i 0 ≤ (ps.getD i pk0).most) (hm : meetS need ps o = true) :
    betterS b.found b.price b.size (costS ps o) (totS o) = false := by
  have hnn : NonNeg o := nonNeg_get fun i hi => (ho i (by omega)).1
  have h1 := hb.least (capO M o) (mem_caps.2 ⟨by rw [capO_len]; exact hl, fun i hi => by
    have := ho i hi
    rw [capO_get hM]
    omega⟩) (meet_cap hM hp hnn hn hm)
  exact bt_mono h1 (dot_cap_le hp.price) tot_cap_le
theorem best_none {M : Int} {need : List Int} {ps : List Pk} {b : Bst} {K : Nat} (hb : Best M need ps b) (hM : 0 ≤ M) (hp : PksOk ps K) (hn : ∀ k, k < need.length → need.getD k 0 ≤ M) (hf : b.found = false) {o : List Int} (hl : o.length = ps.length) (ho : ∀ i, i < ps.length → 0 ≤ o.getD i 0 ∧ o.getD i 0 ≤ (ps.getD i pk0).most) : meetS need ps o = false := by
  cases hm : meetS need ps o
  · rfl
  · have := best_all hb hM hp hn hl ho hm
    unfold betterS at this
    rw [hf] at this
    simp at this
end Go.Proofs.YtmndcdjcodfchaaGreatDoor
namespace Go.Proofs.YtmndcdjcodfchaaGreatDoor
theorem of_right {pks : List Pk} {need : List Int} (h : Right pks need) : checkS pks need = 0 := by
  unfold checkS
  rw [if_neg (by have := h.k0; omega), if_neg (by have := h.k1; omega), if_neg (by rw [any_neg.2 h.nd]; simp), if_neg (by have := h.pl; omega)]
  refine first_end fun j hj => ?_
  have hm := getD_mem (d := pk0) hj
  unfold parcelS
  have h2 : [(pks.getD j pk0).price, (pks.getD j pk0).most].any isNeg = false := any_neg.2 fun x hx => by
    simp only [List.mem_cons, List.not_mem_nil, or_false] at hx
    rcases hx with rfl | rfl
    · exact h.price _ hm
    · exact h.most _ hm
  rw [if_neg (by rw [h.parts _ hm]; simp), if_neg (by rw [any_neg.2 (h.num _ hm)]; simp), if_neg (by rw [h2]; simp)]
theorem of_gives {pks : List Pk} {need order : List Int} (h : Gives pks need order) : givenS pks need order = 0 := by
  unfold givenS
  rw [of_right h.r, if_neg (by simp), if_neg (by rw [h.len]; simp), if_neg]
  rw [Bool.not_eq_true, List.any_eq_false]
  intro i hi
  have := h.num i (by have := List.mem_range.1 hi; rw [h.len] at this; exact this)
  unfold overS
  generalize order.getD i 0 = x at this ⊢
  generalize (pks.getD i pk0).most = y at this ⊢
  simp
  omega
end Go.Proofs.YtmndcdjcodfchaaGreatDoor
namespace Go.Proofs
open Go.Shelf
def Tryz.laysNm215_ren : Go.Shelf.Ren := ⟨fun | 15 => 28 | n => n, fun | 22 => 23 | 3 => 3 | 4 => 4 | n => n, fun | n => n⟩
theorem Tryz.laysNm215 : Go.Proofs.Lays2.n15 Tryz.prog Tryz.laysNm215_ren := {
  mixed := by kernel_rfl
  f15 := Tryz.func28.trans (congrArg some (by kernel_rfl))
  t3 := Tryz.underlying3
  a3 := Tryz.isAgg3
  z3 := Tryz.sizeOf3
  v3 := Tryz.zeroValue3
  t4 := Tryz.underlying4
  a4 := Tryz.isAgg4
  z4 := Tryz.sizeOf4
  v4 := Tryz.zeroValue4
  t22 := Tryz.underlying23
  a22 := Tryz.isAgg23
  z22 := Tryz.sizeOf23
  v22 := Tryz.zeroValue23
  i3 := by kernel_rfl }
open Go.RowKit Go.Lib in
theorem Tryz.slices_Clone_int_nil (n c : Nat) (w : World) :
    Calls Tryz.prog 28 #[.slice none n c] w fun e w' => e = .returned (.slice none 0 0) ∧ w' = w := Any.slices_Clone_int_nil Tryz.laysNm215 n c w
end Go.Proofs
namespace Go.Proofs.YtmndcdjcodfchaaGreatDoor
open Go.RowKit
theorem Searched.limit {pks : List Pk} {need : List Int} (h : Searched pks need) : ¬ (5 < pks.length ∨ 20 < maxK need (need.length - 1)) := by
  have h1 := h.len
  have h2 : maxK need (need.length - 1) ≤ 20 := maxK_le _ fun i hi => (h.nd _ (getD_mem (by have := h.r.k0; omega))).2
  omega
end Go.Proofs.YtmndcdjcodfchaaGreatDoor
namespace Go.Proofs.YtmndcdjcodfchaaGreatDoor
open Go.ChangeShapes Go.WideShapes Go.ChangeAt Go.RowKit
theorem own : ownKnob Tryz.prog.godebug = none := by kernel_rfl
theorem gTab : Tryz.prog.globalNamed "internal/strconv.uint64pow10" = some 1 := by kernel_rfl
theorem gTabT : (Tryz.prog.globals[1]?).map (·.type) = some 208 := by kernel_rfl
theorem cellsTab : Tryz.prog.cellsOf 208 = 20 := by kernel_rfl
theorem cellsU64 : Tryz.prog.cellsOf 139 = 1 := by kernel_rfl
theorem gRng : Tryz.prog.globalNamed "strconv.ErrRange" = some 5 := by kernel_rfl
theorem gRngT : (Tryz.prog.globals[5]?).map (·.type) = some 175 := by kernel_rfl
theorem gSyn : Tryz.prog.globalNamed "strconv.ErrSyntax" = some 4 := by kernel_rfl
theorem gSynT : (Tryz.prog.globals[4]?).map (·.type) = some 175 := by kernel_rfl
theorem starE : "*" ++ "errors.errorString" = "*errors.errorString" := by decide
theorem rowE (u : TypeId) (h : Tryz.prog.typeName? 3 u = some "*errors.errorString") : u = 243 :=
  typeName_ptr_named (nm := "errors.errorString") (by rw [starE]; kernel_rfl) (by kernel_rfl) (by decide) u (by rw [starE]; exact h)
theorem cellsErr : Tryz.prog.cellsOf 245 = 1 := by kernel_rfl
theorem cellsStr : Tryz.prog.cellsOf 9 = 1 := by kernel_rfl
theorem glob_of {W : World} (hs : W.ShapedOpen Tryz.prog) (hL : laidMetH Tryz.prog Rows.stockCostsRow.laid W) : Glob W := by
  have hP : laidMet Tryz.prog Rows.stockCostsRow.laid W := by
    rw [← MakeChecks.laidMetH_plain _ _ _ (by kernel_rfl)]; exact hL
  have hP2 := hP.tail.tail
  have hP4 := hP2.tail.tail
  have hP5 := hP4.tail
  obtain ⟨a0, _, h0, _⟩ := laid_sentinel hP4 gRng gRngT Tryz.underlying175 rowE Tryz.underlying243 Tryz.underlying245 rfl rfl Tryz.underlying9 cellsErr cellsStr
  obtain ⟨a1, _, h1, _⟩ := laid_sentinel hP5 gSyn gSynT Tryz.underlying175 rowE Tryz.underlying243 Tryz.underlying245 rfl rfl Tryz.underlying9 cellsErr cellsStr
  exact ⟨cell_of_shapedOpen_int (zero := #[.int .i64 0]) (t := 3) hs (of_decide_eq_true (by kernel_rfl)) (by kernel_rfl) rfl (by kernel_rfl) (by kernel_rfl) Tryz.underlying3,
    Lib.tabIs_of_head gTab gTabT Tryz.underlying208 Tryz.underlying139 cellsU64 cellsTab hP2, ⟨_, _, h1⟩, ⟨_, _, h0⟩⟩
def flatD : Nat → DataW Unit → List Value
  | _ + 1, .lit (.int k z) => [.int k z]
  | n + 1, .agg ds => ds.flatMap (flatD n)
  | _, _ => []
def putC (cs : List Value) : Obj → Obj
  | .cells _ t frozen => .cells ⟨cs⟩ t frozen
  | o => o
noncomputable def lowB : Nat := (World.holding Tryz.prog default ⟨#[], #[], []⟩).heap.size
def rngS : ByteArray := ⟨#[118, 97, 108, 117, 101, 32, 111, 117, 116, 32, 111, 102, 32, 114, 97, 110, 103, 101]⟩
def synS : ByteArray := ⟨#[105, 110, 118, 97, 108, 105, 100, 32, 115, 121, 110, 116, 97, 120]⟩
noncomputable def laidWorld (os : Os) : World :=
  let w0 := World.holding Tryz.prog os ⟨#[.cells #[.string rngS] 245, .cells #[.string synS] 245], #[], []⟩
  { w0 with heap := (((((((w0.heap.modify 6 (putC (flatD 3 Rows.laid_math_bits_deBruijn32tab))).modify 7 (putC (flatD 3 Rows.laid_math_bits_deBruijn64tab))).modify
      1 (putC (flatD 3 Rows.laid_internal_strconv_uint64pow10))).modify 3 (putC (flatD 3 Rows.laid_unicode_utf8_acceptRanges))).modify
      5 (putC [.iface 243 (.pointer (some ⟨lowB, 0, none⟩))])).modify 4 (putC [.iface 243 (.pointer (some ⟨lowB + 1, 0, none⟩))])).modify
      2 (putC (flatD 3 Rows.laid_unicode_utf8_first))) }
theorem laid_met (os : Os) (args : Array Value) : laidMet Tryz.prog Rows.stockCostsRow.laid ((laidWorld os).forCall (fun _ _ => 0) ⟨#[], args, []⟩).memory :=
  laidMet_of_run' 8 (by kernel_rfl) (by kernel_rfl)
end Go.Proofs.YtmndcdjcodfchaaGreatDoor
namespace Go.Proofs.YtmndcdjcodfchaaGreatDoor
open Go.RowKit
theorem run_app_empty {P : Program} (w : World) (t ty e : TypeId) (i : TypeInfo) (ht : P.underlying t = some (.slice e)) (hi : P.info? e = some i) (g : Addr) (n cap : Nat) (hn : n ≤ cap) (a : Option Addr) (c : Nat) :
    (Builtin.append_ #[t, t] ty #[.slice (some g) n cap, .slice a 0 c]).run P w = .ok (.slice (some g) n cap) w := by
  cases a <;> simp [Builtin.append_, run_underlying ht, sizeOf, typeInfo, hi, hn, Builtin.lenOf, Builtin.firstCells, loadCells, storeCells, loadCellsFrom]
theorem CellsI.news {w : World} {a : Addr} {l : List Int} (h : CellsI w (some a) l) : ∀ j u, (vals l)[j]? = some u → w.cell? (a.add j) = some u := by
  intro j u hj
  have hjl : j < l.length := by
    have := (List.getElem?_eq_some_iff.1 hj).1
    simpa [vals] using this
  obtain ⟨b, off, e, c⟩ := h j hjl
  cases e
  rw [Addr.add_lit, c, ← hj]
  simp [vals, List.getD, hjl]
theorem copy_run {w : World} {a : Option Addr} {l : List Int} (cap : Nat) (hc : CellsI w a l) (hl : l.length ≤ 100000) :
    ∃ v' w', (Builtin.append_ #[23, 23] 23 #[.slice (some ⟨w.heap.size, 0, none⟩) 0 0, .slice a l.length cap]).run Tryz.prog (w.alloc (.cells #[] 3)) = .ok v' w' ∧ OwnsI w' v' l ∧ (∀ b, v'.ownBlock = some b → w.heap.size ≤ b) ∧ Ext w w' := by
  obtain ⟨i0, hi, hi0, hi1, hi2⟩ := info_parts infoInt
  have E : Ext w (w.alloc (.cells #[] 3)) := (Ext.refl _).alloc _
  have hown : (w.alloc (.cells #[] 3)).ownsRow 0 3 1 (.slice (some ⟨w.heap.size, 0, none⟩) 0 0) 0 [] := World.ownsRow_lit w #[] 0 (Nat.zero_le _) (Nat.zero_le _) rfl
  have hv : ∀ b, (Value.slice (some ⟨w.heap.size, 0, none⟩) 0 0).ownBlock = some b → w.heap.size ≤ b := fun b hb => by have e : w.heap.size = b := Option.some.inj hb; omega
  by_cases h0 : l.length = 0
  · have hle : l = [] := List.eq_nil_of_length_eq_zero h0
    subst hle
    exact ⟨_, _, run_app_empty _ _ _ _ i0 Tryz.underlying23 hi _ _ _ (Nat.le_refl _) _ _, hown, hv, E⟩
  · obtain ⟨b, off, rfl, _⟩ := hc 0 (by omega)
    have hvl : (vals l).length = l.length * 1 := by simp [vals]
    obtain ⟨v', w', hr, h2, he⟩ := run_append1 (P := Tryz.prog) (w.alloc (.cells #[] 3)) 23 23 3 i0 (.int .i64 0) 1 8 Tryz.underlying23 hi hi0 hi1 hi2 rfl (by decide) _ 0 [] hown ⟨b, off, none⟩ l.length cap (by omega) (vals l) hvl (hc.ext E).news (by
      intro u hu
      obtain ⟨x, _, rfl⟩ := List.mem_map.1 hu
      rfl) (by unfold maxLen; omega) (by omega)
    refine ⟨v', w', hr, ?_, he.ge E.size hv, E.trans' (he.below E.size hv) (Nat.le_refl _)⟩
    unfold OwnsI
    rw [Nat.zero_add, List.nil_append] at h2
    exact h2
def mostT (need : List Int) : Nat → Int
  | 0 => 0
  | k + 1 => max (mostT need k) (need.getD k 0)
theorem mostT_ge (need : List Int) : ∀ k, 0 ≤ mostT need k ∧ ∀ i, i < k → need.getD i 0 ≤ mostT need k := by
  intro k
  induction k with
  | zero => exact ⟨Int.le_refl _, fun i hi => absurd hi (Nat.not_lt_zero i)⟩
  | succ k ih =>
    unfold mostT
    refine ⟨by omega, fun i hi => ?_⟩
    rcases Nat.lt_or_eq_of_le (Nat.le_of_lt_succ hi) with h | rfl
    · have := ih.2 i h; omega
    · omega
set_option maxHeartbeats 4000000 in
theorem rMost_any {pks : List Pk} {need : List Int} {pa : Option Addr} {pc : Nat} {na : Option Addr} {nc : Nat} {w : World} (ht : TaskG w pks need pa pc na nc) (hk : need.length ≤ 100) :
    Calls Tryz.prog 39 #[taskV pks need pa pc na nc] w fun e w' => e = .returned (.int .i64 (mostT need need.length)) ∧ Ext w w' := by
  unfold taskV
  have HD := Lib.hid ht.nd
  obtain ⟨N, hN⟩ : ∃ N, N = pks.length := ⟨_, rfl⟩
  obtain ⟨K, hK⟩ : ∃ K, K = need.length := ⟨_, rfl⟩
  rw [← hN, ← hK]
  rw [← hK] at hk
  have HK := Lib.hid hK
  clear ht hN hK
  have E0 : Ext w (w.alloc (.cells #[.slice pa N pc, .slice na K nc] 30)) := (Ext.refl _).alloc _
  have y2 : (w.alloc (.cells #[.slice pa N pc, .slice na K nc] 30)).cell? ⟨w.heap.size, 1, none⟩ = some (.slice na K nc) := by go_simp
  go_enter Tryz.func39, Tryz.ntmps39
  go_wp2
  generalize w.alloc (.cells #[.slice pa N pc, .slice na K nc] 30) = W at E0 y2 ⊢
  go_loopw [3, 4] (fun m i wr => ∃ k : Nat, k ≤ K ∧ i = .int .i64 k ∧ m = .int .i64 (mostT need k) ∧ Ext W wr) (fun _ i _ => K - (intOf i).toNat)
  case atStart => exact ⟨0, Nat.zero_le _, rfl, rfl, Ext.refl _⟩
  case round =>
    obtain ⟨k, hk2, rfl, rfl, he⟩ := hrel
    have y2 := he.cell y2
    have z0 := cell_lt y2
    dsimp only at z0
    by_cases hlt : k < K
    · have hlt' : (k : Int) < (K : Int) := by omega
      obtain ⟨b2, o2, rfl, c2⟩ := HD.out.ext (E0.trans he) k (by rw [← HK.out]; exact hlt)
      have hst : mostT need (k + 1) = max (mostT need k) (need.getD k 0) := rfl
      generalize need.getD k 0 = x at c2 hst
      generalize mostT need k = m at hst ⊢
      have HST := Lib.hid hst
      have z1 := cell_lt c2
      dsimp only at z1
      clear hst
      go_wp2
      all_goals refine ⟨⟨k + 1, by omega, by go_num, ?_, he⟩, by simp [intOf]; omega⟩
      all_goals (first | (rw [HST.out]; done) | (rw [HST.out]; congr 1; omega))
    · have hke : k = K := by omega
      subst hke
      have hlt' : ¬ (k : Int) < (k : Int) := by omega
      go_wp2
      go_ret
      exact ⟨rfl, E0.trans he⟩
def totT (o : List Int) (j : Nat) : Int := totS (o.take j)
theorem totT_succ : ∀ {o : List Int} {j : Nat}, j < o.length → totT o (j + 1) = totT o j + o.getD j 0 := by
  intro o
  induction o with
  | nil => intro j h; exact absurd h (Nat.not_lt_zero j)
  | cons n o ih =>
    intro j h
    cases j with
    | zero =>
      show n + totS (o.take 0) = 0 + n
      rw [List.take_zero]
      unfold totS
      omega
    | succ j =>
      have := ih (j := j) (by simpa using h)
      show n + totT o (j + 1) = n + totT o j + o.getD j 0
      omega
theorem totT_full {o : List Int} {j : Nat} (h : j = o.length) : totT o j = totS o := by unfold totT; rw [List.take_of_length_le (by omega)]
theorem totT_bd {o : List Int} {B : Int} (hB : 0 ≤ B) (h : ∀ i, i < o.length → 0 ≤ o.getD i 0 ∧ o.getD i 0 ≤ B) : ∀ j, j ≤ o.length → 0 ≤ totT o j ∧ totT o j ≤ j * B := by
  intro j
  induction j with
  | zero => intro _; unfold totT; rw [List.take_zero]; unfold totS; omega
  | succ j ih =>
    intro hj
    have h1 := ih (by omega)
    have h2 := h j (by omega)
    rw [totT_succ (by omega), show ((j + 1 : Nat) : Int) = (j : Int) + 1 by omega, Int.add_mul]
    omega
theorem wpList_app {P : Program} (w : World) {ops : Array Oper} {rest : List Oper} {o : Oper} {a : Act} {Q : Exit → Act → World → Prop} (hgd : o.guard = none) (s x : Operand) (t : TypeId)
    (ho : o.op = .call { callee := .builtin .append, args := #[s, x], argTypes := #[t, t] }) (v y : Value) (hs : a.eval s = v) (hx : a.eval x = y)
    (v' : Value) (w' : World) (hr : (Builtin.append_ #[t, t] o.type #[v, y]).run P w = .ok v' w') (h : wpList P ops Q rest (a.put o.dst v') w') : wpList P ops Q (o :: rest) a w := by
  refine wpList_plain hgd fun K hK => ?_
  unfold Oper.wp execOp
  simp only [ho, resolve, invoke, builtin, Sem.run_bind, Sem.run_pure, Result.andThen_ok, List.map_toArray, List.map_cons, List.map_nil, hs, hx, hr]
  exact hK _ _ h
end Go.Proofs.YtmndcdjcodfchaaGreatDoor
namespace Go.Proofs.YtmndcdjcodfchaaGreatDoor
open Go.RowKit
def BestAt (pks : List Pk) (need : List Int) (b : Bst) (v : Value) (w : World) : Prop :=
  ∃ a cap, v = .slice a b.order.length cap ∧ CellsI w a b.order ∧ (b.found = true → Gives pks need b.order ∧ b.price = costS pks b.order ∧ b.size = totS b.order) ∧ (b.found = false → b.order = [])
theorem BestAt.ext {pks : List Pk} {need : List Int} {b : Bst} {v : Value} {w w' : World} (h : BestAt pks need b v w) (he : Ext w w') : BestAt pks need b v w' := by
  obtain ⟨a, cap, h1, h2, h3, h4⟩ := h
  exact ⟨a, cap, h1, h2.ext he, h3, h4⟩
end Go.Proofs.YtmndcdjcodfchaaGreatDoor
namespace Go.Proofs.YtmndcdjcodfchaaGreatDoor
open Go.RowKit
def FewP (pks : List Pk) (need : List Int) (w : World) (e : Ending) (w' : World) : Prop := ∃ r : Bool, e = .returned (.bool r) ∧ (r = true → checkS pks need ≠ 0 ∨ Searched pks need) ∧ Ext w w'
theorem few_ret {pks : List Pk} {need : List Int} {w w' : World} (r : Bool) (h : r = true → checkS pks need ≠ 0 ∨ Searched pks need) (hE : Ext w w') : FewP pks need w (.returned (.bool r)) w' := ⟨r, rfl, h, hE⟩
set_option maxHeartbeats 8000000 in
set_option maxRecDepth 100000 in
theorem rFew_any {pks : List Pk} {need : List Int} {pa : Option Addr} {pc : Nat} {na : Option Addr} {nc : Nat} {w : World} (ht : TaskG w pks need pa pc na nc) :
    Calls Tryz.prog 10 #[taskV pks need pa pc na nc] w fun e w' => FewP pks need w e w' := by
  have HCK := Lib.hid (fun w' (he : Ext w w') => rCheck_any (ht.ext he))
  have HMO := Lib.hid (fun W (hW : Ext w W) h => rMost_any (ht.ext hW) h)
  unfold taskV at HCK HMO ⊢
  have HP := Lib.hid ht.pk
  obtain ⟨N, hN⟩ : ∃ N, N = pks.length := ⟨_, rfl⟩
  obtain ⟨K, hK⟩ : ∃ K, K = need.length := ⟨_, rfl⟩
  obtain ⟨c, hc⟩ : ∃ c, checkS pks need = c := ⟨_, rfl⟩
  obtain ⟨m, hm⟩ : ∃ m, mostT need need.length = m := ⟨_, rfl⟩
  have hNm : N ≤ 9223372036854775807 := by have h1 := ht.p1; have h2 := ht.p2; unfold maxLen at h2; omega
  have HRES : Hid (c ≠ 0 ∨ (c = 0 ∧ N ≤ 5 ∧ m ≤ 20) → checkS pks need ≠ 0 ∨ Searched pks need) := fun h => by
    rcases h with h | ⟨h1, h2, h3⟩
    · exact .inl (by rw [hc]; exact h)
    · have hr := right_of (hc.trans h1)
      refine .inr ⟨hr, by omega, fun x hx => ⟨(hr.nd x hx).1, ?_⟩⟩
      obtain ⟨i, hi, e⟩ := List.mem_iff_getElem.1 hx
      have := (mostT_ge need need.length).2 i hi
      rw [getD_of hi, e, hm] at this
      omega
  rw [hc] at HCK
  rw [hm] at HMO
  rw [← hN, ← hK] at HCK HMO
  rw [← hN, ← hK]
  have HN := Lib.hid hN
  clear ht hc hN hK hm
  have E0 : Ext w (w.alloc (.cells #[.slice pa N pc, .slice na K nc] 30)) := (Ext.refl _).alloc _
  have y1 : (w.alloc (.cells #[.slice pa N pc, .slice na K nc] 30)).cell? ⟨w.heap.size, 0, none⟩ = some (.slice pa N pc) := by go_simp
  have y2 : (w.alloc (.cells #[.slice pa N pc, .slice na K nc] 30)).cell? ⟨w.heap.size, 1, none⟩ = some (.slice na K nc) := by go_simp
  go_enter Tryz.func10, Tryz.ntmps10
  by_cases hbig : 100 < N ∨ 100 < K
  · by_cases h1 : 100 < N
    · have h1' : (100 : Int) < (N : Int) := by omega
      go_wp2
      go_ret
      exact few_ret false (fun h => (by cases h)) (E0)
    · have h1' : ¬ (100 : Int) < (N : Int) := by omega
      have h2' : (100 : Int) < (K : Int) := by omega
      go_wp2
      go_ret
      exact few_ret false (fun h => (by cases h)) (E0)
  have h1' : ¬ (100 : Int) < (N : Int) := by omega
  have h2' : ¬ (100 : Int) < (K : Int) := by omega
  have hK100 : K ≤ 100 := by omega
  go_wp2
  generalize w.alloc (.cells #[.slice pa N pc, .slice na K nc] 30) = W at E0 y1 y2 ⊢
  go_loopw [3] (fun i wr => ∃ k : Nat, k ≤ N ∧ i = .int .i64 k ∧ Ext W wr) (fun i _ => N - (intOf i).toNat)
  case atStart => exact ⟨0, Nat.zero_le _, rfl, Ext.refl _⟩
  case round =>
    obtain ⟨k, hk, rfl, he⟩ := hrel
    have c1 := he.cell y1
    have c2 := he.cell y2
    have z0 := cell_lt c1
    dsimp only at z0
    have EK := E0.trans he
    by_cases hlt : k < N
    · have hlt' : (k : Int) < (N : Int) := by omega
      obtain ⟨b, off, v, rfl, d1, ⟨ai, ci, rfl, cs, _, _⟩, d2, d3⟩ := (HP.out.ext EK) k (by rw [← HN.out]; exact hlt)
      generalize (pks.getD k pk0).parts.length = L at d1
      have z1 := cell_lt d1
      dsimp only at z1
      clear cs d2 d3
      by_cases h1 : 100 < L
      · have h9 : (100 : Int) < (L : Int) := by omega
        go_wp2
        go_ret
        exact few_ret false (fun h => (by cases h)) (EK)
      · have h9 : ¬ (100 : Int) < (L : Int) := by omega
        go_wp2
        exact ⟨⟨k + 1, by omega, by go_num, he⟩, by simp [intOf]; omega⟩
    · have hke : k = N := by omega
      subst hke
      have hlt' : ¬ (k : Int) < (k : Int) := by omega
      clear y1 y2 he
      go_wp2_with fail
      refine (HCK.out _ EK).mono ?_
      rintro e w1 ⟨rfl, hE⟩
      have E1 := EK.trans hE
      have y1 := hE.cell c1
      have y2 := hE.cell c2
      have z1 := cell_lt y1
      dsimp only at z1
      clear hE EK c1 c2 z0 HCK E0
      by_cases h0 : c = 0
      rotate_left
      · have k1 : (c == 0) = false := by simp [h0]
        have HR2 := Lib.hid (HRES.out (.inl h0))
        go_wp2
        go_ret
        exact few_ret true (fun _ => HR2.out) (E1)
      subst h0
      go_wp2
      go_loopw [4, 5] (fun n i wr => ∃ j : Nat, j ≤ k ∧ i = .int .i64 j ∧ (∃ z : Int, n = .int .i64 z) ∧ Ext w1 wr) (fun _ i _ => k - (intOf i).toNat)
      case atStart => exact ⟨0, Nat.zero_le _, rfl, ⟨_, rfl⟩, Ext.refl _⟩
      case round =>
        obtain ⟨j, hj, rfl, ⟨z, rfl⟩, he⟩ := hrel
        have c1 := he.cell y1
        have c2 := he.cell y2
        have z0 := cell_lt c1
        dsimp only at z0
        have EK := E1.trans he
        by_cases hlt2 : j < k
        · have hlt2' : (j : Int) < (k : Int) := by omega
          obtain ⟨b, off, v, rfl, d1, _, d2, d3⟩ := (HP.out.ext EK) j (by rw [← HN.out]; exact hlt2)
          generalize (pks.getD j pk0).most = q at d3
          have z9 := cell_lt d3
          dsimp only at z9
          go_wp2_with fail
          refine wp_region_heldE 99 (fun w' => w'.cell? ⟨w.heap.size, 0, none⟩ = some (.slice (some ⟨b, off, none⟩) k pc) ∧ w'.cell? ⟨w.heap.size, 1, none⟩ = some (.slice na K nc) ∧ w'.cell? ⟨b, off + j * 3 + 2, none⟩ = some (.int .i64 q)) (by kernel_rfl) ?_
          have ED : Ext wr wr.drew := (Ext.refl _).drew
          have hS := show _ ∧ _ ∧ _ from ⟨ED.cell c1, ED.cell c2, ED.cell d3⟩
          have E5 := EK.trans ED
          have EX := he.trans ED
          clear c1 c2 d1 d2 d3 ED z0 z9
          generalize wr.drew = w5 at hS E5 EX ⊢
          obtain ⟨s1, s2, s3⟩ := hS
          have z0 := cell_lt s1
          have z9 := cell_lt s3
          dsimp only at z0 z9
          have hS := show _ ∧ _ ∧ _ from ⟨s1, s2, s3⟩
          ((refine eTk 0 ?_); (refine eTk 1 ?_); (refine eTk 2 ?_); (refine eTk 3 ?_); (refine eTk 4 ?_); (refine eTk 5 ?_); (refine eTk 6 ?_); (refine eTk 7 ?_))
          (refine wpAnyE_one (i := 8) (o := ?_) ?_ (by kernel_rfl) (fun K hK => ?_); rotate_left; (focus ((simp only [List.getElem?_toArray, List.getElem?_cons_succ, List.getElem?_cons_zero]; exact rfl))); go_simp; go_at_call 39; refine (HMO.out _ E5 hK100).mono ?_; rintro e w6 ⟨rfl, hE⟩; go_wp2_with fail; refine hK.out _ _ ?_ (fun hHeld => ?_); rotate_left; clear hK K; (try simp only [Act.put, List.setIfInBounds_toArray, List.set_cons_zero, List.set_cons_succ]))
          rotate_left
          · exact ⟨hE.cell s1, hE.cell s2, hE.cell s3⟩
          ((refine ePu 9 ?_); (refine ePu 10 ?_); (refine ePu 11 ?_); (refine ePu 12 ?_))
          refine wpAnyE_done (by kernel_rfl) ?_ _
          have E7 := EX.trans hE
          have E8 := E5.trans hE
          obtain ⟨z2, hz2⟩ : ∃ z2, z2 = IntKind.i64.wrap (z * IntKind.i64.wrap (min q m + 1)) := ⟨_, rfl⟩
          rw [← hz2]
          clear hE hHeld hS s1 s2 s3 hz2
          by_cases hz3 : 3000 < z2
          · go_wp2
            go_ret
            exact few_ret false (fun h => (by cases h)) (E8)
          · go_wp2
            exact ⟨⟨j + 1, by omega, by go_num, ⟨_, rfl⟩, E7⟩, by simp [intOf]; omega⟩
        · have hje : j = k := by omega
          subst hje
          have hlt2' : ¬ (j : Int) < (j : Int) := by omega
          by_cases h5 : j ≤ 5
          · have h5' : (j : Int) ≤ 5 := by omega
            go_wp2_with fail
            refine (HMO.out _ EK hK100).mono ?_
            rintro e w6 ⟨rfl, hE⟩
            have E6 := EK.trans hE
            by_cases h20 : m ≤ 20
            · have HR2 := Lib.hid (HRES.out (.inr ⟨trivial, h5, h20⟩))
              go_wp2
              go_ret
              exact few_ret true (fun _ => HR2.out) (E6)
            · have HD : Hid (decide (m ≤ 20) = false) := decide_eq_false h20
              go_wp2
              go_ret
              exact few_ret (decide (m ≤ 20)) (fun h => (by rw [HD.out] at h; cases h)) (E6)
          · have h5' : ¬ (j : Int) ≤ 5 := by omega
            go_wp2
            go_ret
            exact few_ret false (fun h => (by cases h)) (EK)
end Go.Proofs.YtmndcdjcodfchaaGreatDoor
namespace Go.Proofs.YtmndcdjcodfchaaGreatDoor
open Go.RowKit
theorem best_is {pks : List Pk} {need : List Int} (hr : Right pks need) {M : Int} (hM : 0 ≤ M) (hn : ∀ k, k < need.length → need.getD k 0 ≤ M) : Best M need pks (bestS pks need) := by
  have h := (buy_fold hM hr.ok pks.length 0 (Nat.zero_add _) need 0 0 (List.replicate pks.length 0) bst0 rfl hn (by simp)).1
  rw [List.drop_zero, List.take_zero] at h
  have h2 : bestS pks need = foldS M need pks [] 0 0 bst0 := h
  rw [h2]
  exact fold_best M need pks
theorem Searched.best {pks : List Pk} {need : List Int} (h : Searched pks need) : Best 20 need pks (bestS pks need) :=
  best_is h.r (by decide) fun _ hk => (h.nd _ (getD_mem hk)).2
theorem orderL_len {pks : List Pk} {need : List Int} (h : checkS pks need ≠ 0 ∨ Searched pks need) : (orderL pks need).length ≤ 5 := by
  by_cases he : orderE pks need = 0
  · rcases h with h | h
    · rw [order_check h] at he
      exact absurd he h
    · obtain ⟨h1, h2, _⟩ := order_good (of_right h.r) h.limit
      rw [he] at h1
      cases hf : (bestS pks need).found
      · rw [hf] at h1; cases h1
      · rw [h2, hf, if_pos rfl]
        have := (mem_caps.1 (h.best.yes hf).1).1
        have := h.len
        omega
  · rw [(order_bad he).1]
    exact Nat.zero_le _
end Go.Proofs.YtmndcdjcodfchaaGreatDoor
namespace Go.Proofs.YtmndcdjcodfchaaGreatDoor
open Go.RowKit
def RightP (pks : List Pk) (need : List Int) (w : World) (e : Ending) (w' : World) : Prop := ∃ r : Bool, e = .returned (.bool r) ∧ (r = true → Searched pks need) ∧ Ext w w'
theorem right_ret {pks : List Pk} {need : List Int} {w w' : World} (r : Bool) (h : r = true → Searched pks need) (hE : Ext w w') : RightP pks need w (.returned (.bool r)) w' := ⟨r, rfl, h, hE⟩
set_option maxHeartbeats 4000000 in
theorem right_any {pks : List Pk} {need : List Int} {pa : Option Addr} {pc : Nat} {na : Option Addr} {nc : Nat} {w : World} (ht : TaskG w pks need pa pc na nc) :
    Calls Tryz.prog 27 #[taskV pks need pa pc na nc] w fun e w' => RightP pks need w e w' := by
  have HSM := Lib.hid (fun W (hW : Ext w W) => small_any (ht.ext hW))
  have HOF := Lib.hid (fun W (hW : Ext w W) h => Of_any (ht.ext hW) h)
  have HFE := Lib.hid (fun pa' pc' na' nc' W (h : TaskG W pks need pa' pc' na' nc') => rFew_any h)
  have HCK := Lib.hid (fun pa' pc' na' nc' W (h : TaskG W pks need pa' pc' na' nc') => rCheck_any h)
  have hsm : smallB pks need = true → pks.length ≤ 100 := fun h => (smallB_of h).1
  unfold TaskP at HOF
  unfold FewP at HFE
  unfold taskV at HSM HOF HFE HCK ⊢
  generalize smallB pks need = sm at HSM hsm
  obtain ⟨c, hc⟩ : ∃ c, checkS pks need = c := ⟨_, rfl⟩
  rw [hc] at HCK
  have HC := Lib.hid hc
  clear ht hc
  have E0 : Ext w (w.alloc (.cells #[.slice pa pks.length pc, .slice na need.length nc] 25)) := (Ext.refl _).alloc _
  have y1 : (w.alloc (.cells #[.slice pa pks.length pc, .slice na need.length nc] 25)).cell? ⟨w.heap.size, 0, none⟩ = some (.slice pa pks.length pc) := by go_simp
  have y2 : (w.alloc (.cells #[.slice pa pks.length pc, .slice na need.length nc] 25)).cell? ⟨w.heap.size, 1, none⟩ = some (.slice na need.length nc) := by go_simp
  go_enter Tryz.func27, Tryz.ntmps27
  go_wp2_with fail
  refine (HSM.out _ E0).mono ?_
  rintro e w1 ⟨rfl, hE⟩
  have E1 := E0.trans hE
  have y1 := hE.cell y1
  have y2 := hE.cell y2
  have z := cell_lt y1
  dsimp only at z
  clear hE E0 HSM
  cases sm
  case false =>
    clear hsm
    go_wp2
    go_ret
    exact right_ret false (fun h => (by cases h)) E1
  have hN1 := hsm rfl
  clear hsm
  go_wp2_with fail
  refine (HOF.out _ E1 hN1).mono ?_
  rintro e w2 ⟨pa1, pc1, na1, nc1, rfl, hT, hE⟩
  have E2 := E1.trans hE
  have y1 := hE.cell y1
  have y2 := hE.cell y2
  have z := cell_lt y1
  dsimp only at z
  have HX := Lib.hid (HFE.out _ _ _ _ _ hT)
  clear hE E1 hT HFE
  go_wp2_with fail
  refine HX.out.mono ?_
  rintro e w3 ⟨fb, rfl, hfb, hE⟩
  have HFB := Lib.hid hfb
  have E3 := E2.trans hE
  have y1 := hE.cell y1
  have y2 := hE.cell y2
  have z := cell_lt y1
  dsimp only at z
  clear hE E2 HX hfb
  cases fb
  case false =>
    go_wp2
    go_ret
    exact right_ret false (fun h => (by cases h)) E3
  go_wp2_with fail
  refine (HOF.out _ E3 hN1).mono ?_
  rintro e w4 ⟨pa2, pc2, na2, nc2, rfl, hT, hE⟩
  have E4 := E3.trans hE
  have HX := Lib.hid (HCK.out _ _ _ _ _ hT)
  clear hE E3 hT HCK HOF y1 y2 z
  go_wp2_with fail
  refine HX.out.mono ?_
  rintro e w5 ⟨rfl, hE⟩
  have E5 := E4.trans hE
  by_cases h0 : c = 0
  · subst h0
    have HSE : Hid (Searched pks need) := by
      rcases HFB.out trivial with h | h
      · exact absurd HC.out h
      · exact h
    go_wp2
    go_ret
    exact right_ret true (fun _ => HSE.out) E5
  · have k1 : (c == 0) = false := by simp [h0]
    go_wp2
    go_ret
    exact right_ret false (fun h => (by cases h)) E5
theorem cells_none {w : World} {l : List Int} (h : CellsI w none l) : l = [] := by
  cases l with
  | nil => rfl
  | cons a l =>
    obtain ⟨b, off, e, _⟩ := h 0 (by simp)
    cases e
set_option maxHeartbeats 2000000 in
set_option maxRecDepth 100000 in
theorem CloneI_any (l : List Int) (a : Option Addr) (cap : Nat) (w : World) (hc : CellsI w a l) (hl : l.length ≤ 1000) :
    Calls Tryz.prog 28 #[.slice a l.length cap] w fun e w' => ∃ v, e = .returned v ∧ OwnsI w' v l ∧ (∀ b, v.ownBlock = some b → w.heap.size ≤ b) ∧ Ext w w' := by
  cases a with
  | none =>
    have hle := cells_none hc
    subst hle
    refine (Tryz.slices_Clone_int_nil 0 cap w).mono fun e w' ⟨h1, h2⟩ => ?_
    subst h2
    exact ⟨_, h1, OwnsI.nil _, fun b hb => (by cases hb), Ext.refl _⟩
  | some p =>
    obtain ⟨v', w2, hr, hO, hB, hE⟩ := copy_run (w := w) (a := some p) (l := l) cap hc (by omega)
    have HR := Lib.hid hr
    have HO := Lib.hid (show _ ∧ _ ∧ _ from ⟨hO, hB, hE⟩)
    clear hr hO hB hE hc
    generalize l.length = n at HR
    have hq : ∀ W, (binOp .eql 23 (.slice (some p) n cap) (.slice none 0 0)).run Tryz.prog W = .ok (.bool false) W := fun W => Lib.run_eql_slice_nil (P := Tryz.prog) W 23 3 (some p) n cap 0 0 Tryz.underlying23
    go_enter Tryz.func28, Tryz.ntmps28
    go_wp2_with (at_builtin; refine wpList_app _ rfl _ _ 23 rfl (.slice (some ⟨w.heap.size, 0, none⟩) 0 0) (.slice (some p) n cap) rfl rfl v' w2 HR.out ?_)
    go_ret
    exact ⟨v', rfl, HO.out.1, HO.out.2.1, HO.out.2.2⟩
set_option maxHeartbeats 4000000 in
theorem sumI_any (l : List Int) (a : Option Addr) (cap : Nat) (w : World) (hc : CellsI w a l) (hm : l.length ≤ 100) (hb : ∀ i, i < l.length → 0 ≤ l.getD i 0 ∧ l.getD i 0 ≤ 1048576) :
    Calls Tryz.prog 29 #[.slice a l.length cap] w fun e w' => e = .returned (.int .i64 (totS l)) ∧ Ext w w' := by
  have HC := Lib.hid hc
  have HB := Lib.hid (totT_bd (B := 1048576) (by omega) hb)
  have hf : totT l l.length = totS l := totT_full rfl
  obtain ⟨n, hn⟩ : ∃ n, n = l.length := ⟨_, rfl⟩
  rw [← hn] at hf hm ⊢
  have HN := Lib.hid hn
  have HF := Lib.hid hf
  generalize totS l = t at HF ⊢
  clear hc hb hf hn
  go_enter Tryz.func29, Tryz.ntmps29
  go_wp2
  go_loopw [3, 8] (fun m i wr => ∃ k : Nat, k ≤ n ∧ i = .int .i64 k ∧ m = .int .i64 (totT l k) ∧ Ext w wr) (fun _ i _ => n - (intOf i).toNat)
  case atStart => exact ⟨0, Nat.zero_le _, rfl, rfl, Ext.refl _⟩
  case round =>
    obtain ⟨k, hk, rfl, rfl, he⟩ := hrel
    by_cases hlt : k < n
    · have hlt' : (k : Int) < (n : Int) := by omega
      have hkl : k < l.length := by rw [← HN.out]; exact hlt
      obtain ⟨b1, o1, rfl, c1⟩ := HC.out.ext he k hkl
      have hs := totT_succ hkl
      have hb := HB.out (k + 1) (by omega)
      rw [hs] at hb
      generalize l.getD k 0 = x at c1 hs hb
      generalize totT l k = s at hs hb ⊢
      have HS := Lib.hid hs
      have q1 : IntKind.i64.wrap (s + x) = s + x := IntWalk.i64_in _ (by omega)
      have z1 := cell_lt c1
      dsimp only at z1
      clear hs hb hkl
      go_wp2
      exact ⟨⟨k + 1, by omega, by go_num, by rw [HS.out], he⟩, by simp [intOf]; omega⟩
    · have hke : k = n := by omega
      subst hke
      have hlt' : ¬ (k : Int) < (k : Int) := by omega
      rw [HF.out]
      go_wp2
      go_ret
      exact ⟨rfl, he⟩
end Go.Proofs.YtmndcdjcodfchaaGreatDoor
namespace Go.Proofs.YtmndcdjcodfchaaGreatDoor
open Go.RowKit
theorem OwnsI.set {w : World} {b n cap : Nat} {l : List Int} (h : OwnsI w (.slice (some ⟨b, 0, none⟩) n cap) l) (i : Nat) (x : Int) :
    OwnsI (w.setCell ⟨b, i, none⟩ (.int .i64 x)) (.slice (some ⟨b, 0, none⟩) n cap) (l.set i x) := by
  unfold OwnsI at h ⊢
  obtain ⟨_, h2⟩ := h
  refine ⟨by simp [vals], ?_⟩
  rcases h2 with ⟨hv, _⟩ | ⟨g, c, cur, hv, hg, hh, hnc, hm, hcs, ht⟩
  · cases (Value.slice.inj hv).1
  · obtain ⟨e1, e2, e3⟩ := Value.slice.inj hv
    cases e1
    subst e2 e3
    refine .inr ⟨b, cap, cur.setIfInBounds i (.int .i64 x), by simp, hg, ?_, by simpa using hnc, hm, by simpa using hcs, ?_⟩
    · simp only [World.setCell, Array.getElem?_modify, hh]
      simp
    · rw [List.length_set, Array.toList_setIfInBounds, List.take_set, ht]
      unfold vals
      rw [List.map_set]
theorem OwnsI.at {w : World} {b n cap : Nat} {l : List Int} (h : OwnsI w (.slice (some ⟨b, 0, none⟩) n cap) l) {i : Nat} (hi : i < l.length) :
    w.cell? ⟨b, i, none⟩ = some (.int .i64 (l.getD i 0)) ∧ w.frozen? ⟨b, i, none⟩ = false := by
  obtain ⟨a, c, hv, _, hf⟩ := h.reads
  rcases hf with hf | ⟨b2, e2, e3, hf⟩
  · subst hf; exact absurd hi (Nat.not_lt_zero i)
  · cases e3
    exact hf i hi
theorem OwnsI.some {w : World} {a : Option Addr} {n cap : Nat} {l : List Int} (h : OwnsI w (.slice a n cap) l) {i : Nat} (hi : i < l.length) : ∃ b, a = some ⟨b, 0, none⟩ := by
  obtain ⟨a, c, hv, _, hf⟩ := h.reads
  rcases hf with hf | ⟨b2, e2, e3, hf⟩
  · subst hf; exact absurd hi (Nat.not_lt_zero i)
  · obtain ⟨e1, _, _⟩ := Value.slice.inj hv
    exact ⟨b2, e1.trans e2⟩
def InS (pks : List Pk) (N : Nat) (l : List Int) (k : Nat) : Prop := l.length = N ∧ ∀ j, j < k → 0 ≤ l.getD j 0 ∧ l.getD j 0 ≤ (pks.getD j pk0).most
theorem InS.set {pks : List Pk} {N k : Nat} {l : List Int} (h : InS pks N l k) (hk : k < N) {x : Int} (h0 : 0 ≤ x) (h1 : x ≤ (pks.getD k pk0).most) : InS pks N (l.set k x) (k + 1) := by
  refine ⟨by rw [List.length_set]; exact h.1, fun j hj => ?_⟩
  rw [getD_set (by rw [h.1]; exact hk)]
  by_cases e : j = k
  · subst e; rw [if_pos rfl]; exact ⟨h0, h1⟩
  · rw [if_neg e]; exact h.2 j (by omega)
theorem InS.gives {pks : List Pk} {need l : List Int} {N : Nat} (h : InS pks N l N) (hN : N = pks.length) (hr : Right pks need) : Gives pks need l := ⟨hr, by rw [h.1, hN], fun i hi => h.2 i (by omega)⟩
theorem verify_gives {pks : List Pk} {need l : List Int} (h : Gives pks need l) : verifyS pks need l = if meetS need pks l = true then 0 else 15 := by
  have hg := of_gives h
  cases hm : meetS need pks l
  · exact (verify_lack hg (by rw [more_meet, hm]; rfl)).1
  · exact (verify_ok hg (by rw [more_meet, hm]; rfl)).1
structure LeastF (pks : List Pk) (need : List Int) (N : Nat) (ol : List Int) (op oe : Int) : Prop where
  e : oe = 6 ∨ oe = 0
  len : ol.length ≤ 5
  none : oe = 6 → ∀ l, InS pks N l N → verifyS pks need l = 15
  ok : oe = 0 → givenS pks need ol = 0 ∧ verifyS pks need ol = 0 ∧ costR pks need ol = op ∧ ∀ i, i < ol.length → 0 ≤ ol.getD i 0 ∧ ol.getD i 0 ≤ 1048576
  le : oe = 0 → ∀ l, InS pks N l N → givenS pks need l = 0 ∧ (∀ i, i < l.length → 0 ≤ l.getD i 0 ∧ l.getD i 0 ≤ 1048576) ∧ (verifyS pks need l = 15 ∨ verifyS pks need l = 0 ∧ (op < costR pks need l ∨ op = costR pks need l ∧ totS ol ≤ totS l))
theorem least_of {pks : List Pk} {need : List Int} (h : Searched pks need) {N : Nat} (hN : N = pks.length) : LeastF pks need N (orderL pks need) (orderP pks need) (orderE pks need) := by
  obtain ⟨h1, h2, h3⟩ := order_good (of_right h.r) h.limit
  have hb := h.best
  have hle := orderL_len (.inr h)
  rw [h1, h2, h3] at *
  have hn20 : ∀ k, k < need.length → need.getD k 0 ≤ 20 := fun k hk => (h.nd _ (getD_mem hk)).2
  generalize bestS pks need = b at *
  cases hf : b.found
  · rw [hf] at hle
    simp only [Bool.false_eq_true, if_false] at hle ⊢
    refine ⟨.inl rfl, hle, fun _ l hl => ?_, fun e => by (cases e), fun e => by (cases e)⟩
    have hg := hl.gives hN h.r
    rw [verify_gives hg, best_none hb (by decide) h.r.ok hn20 hf hg.len hg.num]
    rfl
  · rw [hf] at hle
    simp only [if_true] at hle ⊢
    obtain ⟨g1, g2, g3, g4⟩ := hb.yes hf
    obtain ⟨g5, g6⟩ := mem_caps.1 g1
    have hg : Gives pks need b.order := ⟨h.r, g5, fun i hi => ⟨(g6 i hi).1, (g6 i hi).2.1⟩⟩
    have hbd : ∀ l, Gives pks need l → ∀ i, i < l.length → 0 ≤ l.getD i 0 ∧ l.getD i 0 ≤ 1048576 := fun l hl i hi => gives_bd hl i (by rw [← hl.len]; exact hi)
    refine ⟨.inr rfl, hle, fun e => by (cases e), fun _ => ⟨of_gives hg, ?_, ?_, hbd _ hg⟩, fun _ l hl => ?_⟩
    · rw [verify_gives hg, g2]; rfl
    · rw [costR_ok (of_gives hg), g3]
    · have hgl := hl.gives hN h.r
      refine ⟨of_gives hgl, hbd _ hgl, ?_⟩
      rw [verify_gives hgl, costR_ok (of_gives hgl)]
      cases hm : meetS need pks l
      · exact .inl rfl
      · refine .inr ⟨rfl, ?_⟩
        have h9 := best_all hb (by decide) h.r.ok hn20 hgl.len hgl.num hm
        unfold betterS at h9
        rw [hf] at h9
        simp at h9
        omega
set_option maxHeartbeats 16000000 in
set_option maxRecDepth 100000 in
theorem lawLeast_any {pks : List Pk} {need : List Int} {pa : Option Addr} {pc : Nat} {na : Option Addr} {nc : Nat} {w : World} (ht : TaskG w pks need pa pc na nc) {order : List Int} {oa : Option Addr} {oc : Nat} (ho : CellsI w oa order) (hol : order.length ≤ oc) (hom : oc ≤ maxLen) (hGl : Glob w) :
    Calls Tryz.prog 6 #[taskV pks need pa pc na nc, .slice oa order.length oc] w fun e w' => e = .returned (.bool true) ∧ Ext w w' := by
  have HRI := Lib.hid (fun W (hW : Ext w W) => right_any (ht.ext hW))
  have HAW := Lib.hid (fun W (hW : Ext w W) => awake_any W (hGl.ext hW))
  have HOR := Lib.hid (fun W (hW : Ext w W) => Order_any (ht.ext hW))
  have HVE := Lib.hid (fun W (hW : Ext w W) (l : List Int) (la : Option Addr) (lc : Nat) (hc : CellsI W la l) (hl : l.length ≤ maxLen) => Verify_any (oc := lc) (ht.ext hW) hc hl)
  have HCO := Lib.hid (fun W (hW : Ext w W) (l : List Int) (la : Option Addr) (lc : Nat) (hc : CellsI W la l) (hl : l.length ≤ maxLen) => Cost_any (oc := lc) (ht.ext hW) hc hl)
  have HCL := Lib.hid (fun (l : List Int) (a : Option Addr) (cap : Nat) W (hc : CellsI W a l) (hl : l.length ≤ 1000) => CloneI_any l a cap W hc hl)
  have HLF := Lib.hid (fun (h : Searched pks need) N hN => least_of (N := N) h hN)
  have HP := Lib.hid ht.pk
  have HO := Lib.hid ho
  unfold RightP at HRI
  unfold OrdP at HOR
  unfold taskV at HRI HOR HVE HCO ⊢
  obtain ⟨N, hN⟩ : ∃ N, N = pks.length := ⟨_, rfl⟩
  obtain ⟨K, hK⟩ : ∃ K, K = need.length := ⟨_, rfl⟩
  obtain ⟨M, hM⟩ : ∃ M, M = order.length := ⟨_, rfl⟩
  rw [← hN, ← hK] at HRI HOR HVE HCO
  rw [← hN, ← hK, ← hM]
  have HN := Lib.hid hN
  have HM := Lib.hid hM
  generalize orderL pks need = ol at HOR HLF
  generalize orderP pks need = op at HOR HLF
  generalize orderE pks need = oe at HOR HLF
  clear ht ho hol hom hGl hN hK hM
  have E0 : Ext w (w.alloc (.cells #[.slice pa N pc, .slice na K nc] 25)) := (Ext.refl _).alloc _
  have y1 : (w.alloc (.cells #[.slice pa N pc, .slice na K nc] 25)).cell? ⟨w.heap.size, 0, none⟩ = some (.slice pa N pc) := by go_simp
  have y2 : (w.alloc (.cells #[.slice pa N pc, .slice na K nc] 25)).cell? ⟨w.heap.size, 1, none⟩ = some (.slice na K nc) := by go_simp
  go_enter Tryz.func6, Tryz.ntmps6
  go_wp2_with fail
  refine (HRI.out _ E0).mono ?_
  rintro e w1 ⟨rb, rfl, hrb, hE⟩
  have HRB := Lib.hid hrb
  have E1 := E0.trans hE
  replace y1 := hE.cell y1
  replace y2 := hE.cell y2
  have z := cell_lt y1
  dsimp only at z
  clear hE E0 HRI hrb
  cases rb
  case false =>
    go_wp2_with fail
    refine (HAW.out _ E1).mono ?_
    rintro e w2 ⟨rfl, hE⟩
    go_wp2
    go_ret
    exact ⟨rfl, E1.trans hE⟩
  have HSE := Lib.hid (HRB.out rfl)
  clear HRB
  by_cases hMN : M = N
  rotate_left
  · have k1 : ((M : Int) == (N : Int)) = false := by simp; omega
    have k2 : ¬ (M : Int) = (N : Int) := by omega
    go_wp2_with fail
    refine (HAW.out _ E1).mono ?_
    rintro e w2 ⟨rfl, hE⟩
    go_wp2
    go_ret
    exact ⟨rfl, E1.trans hE⟩
  subst hMN
  have HF := Lib.hid (HLF.out HSE.out M HN.out)
  have HN5 : Hid (M ≤ 5) := by show _ ≤ _; rw [HN.out]; exact HSE.out.len
  have HMO : Hid (∀ k, k < M → 0 ≤ (pks.getD k pk0).most ∧ (pks.getD k pk0).most ≤ 1048576) := fun k hk => HSE.out.r.most _ (getD_mem (by rw [← HN.out]; exact hk))
  clear HLF HSE
  have HC1 := Lib.hid (HCL.out order oa oc w1 (HO.out.ext E1) (by rw [← HM.out]; have := HN5.out; omega))
  rw [← HM.out] at HC1
  go_wp2_with fail
  refine HC1.out.mono ?_
  rintro e w2 ⟨v, rfl, hov, hob, hE⟩
  obtain ⟨va, vc, rfl, _⟩ := hov.reads
  rw [← HM.out] at hov hob ⊢
  have HOV := Lib.hid hov
  have HOB := Lib.hid (fun b hb => Nat.lt_of_lt_of_le z (hob b hb))
  have E2 := E1.trans hE
  replace y1 := hE.cell y1
  replace y2 := hE.cell y2
  have z := cell_lt y1
  dsimp only at z
  clear hE E1 HC1 HO hov hob
  go_wp2
  go_loopw [35] (fun i wr => ∃ (k : Nat) (l : List Int), k ≤ M ∧ i = .int .i64 k ∧ Hid (InS pks M l k) ∧ Hid (OwnsI wr (.slice va M vc) l) ∧ Hid (wr.cell? ⟨w.heap.size, 0, none⟩ = some (.slice pa M pc) ∧ wr.cell? ⟨w.heap.size, 1, none⟩ = some (.slice na K nc)) ∧ Ext w wr) (fun i _ => M - (intOf i).toNat)
  case atStart => exact ⟨0, order, Nat.zero_le _, rfl, ⟨HM.out.symm, fun j hj => absurd hj (Nat.not_lt_zero j)⟩, HOV.out, ⟨y1, y2⟩, E2⟩
  case round =>
    clear y1 y2 HOV E2 z
    obtain ⟨k, l, hk, rfl, HI, HOV, HY, he⟩ := hrel
    obtain ⟨y1, y2⟩ := HY.out
    have z := cell_lt y1
    dsimp only at z
    by_cases hlt : k < M
    · have hlt' : (k : Int) < (M : Int) := by omega
      obtain ⟨b, off, v, rfl, c1, ⟨ai, ci, rfl, _⟩, c2, c3⟩ := (HP.out.ext he) k (by rw [← HN.out]; exact hlt)
      obtain ⟨vb, rfl⟩ := HOV.out.some (i := k) (by rw [HI.out.1]; exact hlt)
      obtain ⟨d1, d2⟩ := HOV.out.at (i := k) (by rw [HI.out.1]; exact hlt)
      have hvb : w.heap.size < vb := HOB.out vb rfl
      have hvw : w.heap.size ≠ vb := by omega
      have hmo := HMO.out k hlt
      have HX : Hid (∀ x, 0 ≤ x → x ≤ (pks.getD k pk0).most → InS pks M (l.set k x) (k + 1)) := fun x h0 h1 => HI.out.set hlt h0 h1
      generalize (pks.getD k pk0).parts.length = L at c1
      generalize (pks.getD k pk0).price = p at c2
      generalize (pks.getD k pk0).most = m at c3 hmo HX
      generalize l.getD k 0 = x at d1
      have zb := cell_lt c1
      have zd := cell_lt d1
      dsimp only at zb zd
      have hM5 : M ≤ 5 := HN5.out
      generalize hy : IntKind.i64.wrap (-x) = y
      have q1 : IntKind.i64.wrap (m + 1) = m + 1 := IntWalk.i64_in _ (by omega)
      have q3 : (m + 1 == 0) = false := by simp; omega
      have q4 : ¬ m + 1 = 0 := by omega
      obtain ⟨mx, hmx⟩ : ∃ mx, (if (0 : Int) > (if y > x then y else x) then 0 else (if y > x then y else x)) = mx := ⟨_, rfl⟩
      have hmx0 : 0 ≤ mx := by split at hmx <;> omega
      have hr0 : 0 ≤ mx.tmod (m + 1) := Int.tmod_nonneg _ hmx0
      have hr1 : mx.tmod (m + 1) < m + 1 := Int.tmod_lt_of_pos _ (by omega)
      generalize hr : mx.tmod (m + 1) = r at hr0 hr1
      have q5 : IntKind.i64.wrap r = r := IntWalk.i64_in _ (by omega)
      have HNX := Lib.hid (HX.out r hr0 (by omega))
      have HMX := Lib.hid hmx
      clear hmx HX hmx0 hr0 hr1
      go_wp2
      have a1 : ((wr.alloc (.cells #[.slice ai L ci, .int .i64 p, .int .i64 m] 62))).cell? ⟨vb, k, none⟩ = some (.int .i64 x) := by go_simp
      have a2 : ((wr.alloc (.cells #[.slice ai L ci, .int .i64 p, .int .i64 m] 62))).cell? ⟨wr.heap.size, 2, none⟩ = some (.int .i64 m) := by go_simp
      refine wp_region_heldE 17 (fun w' => w'.cell? ⟨vb, k, none⟩ = some (.int .i64 x) ∧ w'.cell? ⟨wr.heap.size, 2, none⟩ = some (.int .i64 m)) (by kernel_rfl) ?_
      have hS : ((wr.alloc (.cells #[.slice ai L ci, .int .i64 p, .int .i64 m] 62))).drew.cell? ⟨vb, k, none⟩ = some (.int .i64 x) ∧ ((wr.alloc (.cells #[.slice ai L ci, .int .i64 p, .int .i64 m] 62))).drew.cell? ⟨wr.heap.size, 2, none⟩ = some (.int .i64 m) := ⟨a1, a2⟩
      ((refine eTk 0 ?_); (refine eTk 1 ?_); (refine eTk 2 ?_); (refine eTk 3 ?_); (refine eTk 4 ?_); (refine eTk 5 ?_); (refine eTk 6 ?_); (refine eTk 7 ?_); (refine eTk 8 ?_); (refine eTk 9 ?_); (refine eTk 10 ?_))
      (refine wpAnyE_pure (v := .int .i64 mx) (i := 11) (oi := ?_) ?_ (by kernel_rfl) ?_ ?_ ?_ ?_; rotate_left; (focus ((simp only [List.getElem?_toArray, List.getElem?_cons_succ, List.getElem?_cons_zero]; exact rfl))); (focus (exact fun _ _ _ h => h)); (focus (refine Or.inl ⟨by rfl, ?_⟩; intro w hSw; clear hSw; go_simp; exact HMX.out)); (focus (first | exact (fun _ => by assumption) | (intro hlst; exact absurd hlst (by kernel_rfl)) | (intro hlst; cases hlst))); (try simp only [Act.put, List.setIfInBounds_toArray, List.set_cons_zero, List.set_cons_succ]))
      ((refine eTk 12 ?_); (refine eTk 13 ?_); (refine eTk 14 ?_); (refine eTk 15 ?_); (refine eTk 16 ?_))
      have hvs : ((wr.alloc (.cells #[.slice ai L ci, .int .i64 p, .int .i64 m] 62))).drew.cell? ⟨vb, k, none⟩ = some (.int .i64 x) := a1
      have hvf : ((wr.alloc (.cells #[.slice ai L ci, .int .i64 p, .int .i64 m] 62))).drew.frozen? ⟨vb, k, none⟩ = false := by
        show ((wr.alloc (.cells #[.slice ai L ci, .int .i64 p, .int .i64 m] 62))).frozen? ⟨vb, k, none⟩ = false
        go_simp
      (refine wpAnyE_free (i := 17) (o := ?_) ?_ (by kernel_rfl) (by kernel_rfl) (fun K hK => ?_); rotate_left; (focus ((simp only [List.getElem?_toArray, List.getElem?_cons_succ, List.getElem?_cons_zero]; exact rfl))); go_simp; refine hK.out _ _ ?_; clear hK K; (try simp only [Act.put, List.setIfInBounds_toArray, List.set_cons_zero, List.set_cons_succ]))
      refine wpAnyE_done (by kernel_rfl) ?_ _
      go_wp2
      have ES : Ext (wr.setCell ⟨vb, k, none⟩ (.int .i64 r)) ((wr.setCell ⟨vb, k, none⟩ (.int .i64 r)).alloc (.cells #[.slice ai L ci, .int .i64 p, .int .i64 m] 62)).drew := ((Ext.refl _).alloc _).drew
      have EB : Ext w (wr.setCell ⟨vb, k, none⟩ (.int .i64 r)) := Below.setCell (p := ⟨vb, k, none⟩) he (by show w.heap.size ≤ vb; omega) _
      refine ⟨⟨k + 1, l.set k r, hlt, by go_num, HNX.out, (HOV.out.set k r).ext ES, ⟨ES.cell ?_, ES.cell ?_⟩, EB.trans ES⟩, ?_⟩
      · rw [World.cell?_setCell_other _ _ _ _ (fun h => by cases h; exact hvw rfl)]
        exact y1
      · rw [World.cell?_setCell_other _ _ _ _ (fun h => by cases h; exact hvw rfl)]
        exact y2
      · simp [intOf]; omega
    · have hke : M = k := by omega
      subst hke
      have hlt' : ¬ (M : Int) < (M : Int) := by omega
      clear HOB
      have HL : Hid (CellsI wr va l) := by
        obtain ⟨a9, c9, hv9, hl9, _⟩ := HOV.out.full
        rw [(Value.slice.inj hv9).1]
        exact hl9
      go_wp2_with fail
      refine (HOR.out _ he).mono ?_
      rintro e w3 ⟨ba, bc, rfl, hbl, hE⟩
      have HB := Lib.hid hbl
      have E3 := he.trans hE
      replace HL := Lib.hid (HL.out.ext hE)
      replace y1 := hE.cell y1
      replace y2 := hE.cell y2
      have z := cell_lt y1
      dsimp only at z
      have HLl : Hid (l.length = M) := HI.out.1
      have HV1 : Hid (∀ W, Ext w W → CellsI W va l → Calls Tryz.prog 25 #[.agg #[.slice pa M pc, .slice na K nc], .slice va M vc] W fun e w' => e = .returned (.int .i64 (verifyS pks need l)) ∧ Ext W w') := fun W hW hc => by
        have h := HVE.out W hW l va vc hc (by rw [HLl.out]; have := HN5.out; unfold maxLen; omega)
        rw [HLl.out] at h
        exact h
      clear hE he HOV HOR
      go_wp2_with fail
      refine (HV1.out _ E3 HL.out).mono ?_
      rintro e w4 ⟨rfl, hE⟩
      have E4 := E3.trans hE
      replace HL := Lib.hid (HL.out.ext hE)
      replace HB := Lib.hid (HB.out.ext hE)
      replace y1 := hE.cell y1
      replace y2 := hE.cell y2
      have z := cell_lt y1
      dsimp only at z
      clear hE E3 HV1
      rcases HF.out.e with h6 | h0
      · subst h6
        obtain h15 : verifyS pks need l = 15 := HF.out.none rfl l HI.out
        rw [h15]
        have HC1 := Lib.hid (HCL.out l va vc w4 HL.out (by rw [HLl.out]; have := HN5.out; omega))
        rw [HLl.out] at HC1
        clear h15 hlt'
        go_wp2_with fail
        refine HC1.out.mono ?_
        rintro e w5 ⟨v, rfl, hov, hob, hE⟩
        obtain ⟨wa, wc, rfl, _⟩ := hov.reads
        rw [HLl.out] at hov hob ⊢
        have HOV := Lib.hid hov
        have HOB := Lib.hid (fun b hb => Nat.lt_of_lt_of_le z (hob b hb))
        clear HI HL
        have E5 := E4.trans hE
        replace y1 := hE.cell y1
        replace y2 := hE.cell y2
        have z := cell_lt y1
        dsimp only at z
        clear hE E4 HC1 hov hob
        go_wp2
        go_loopw [74] (fun i wr => ∃ (k : Nat) (l : List Int), k ≤ M ∧ i = .int .i64 k ∧ Hid (InS pks M l k) ∧ Hid (OwnsI wr (.slice wa M wc) l) ∧ Hid (wr.cell? ⟨w.heap.size, 0, none⟩ = some (.slice pa M pc) ∧ wr.cell? ⟨w.heap.size, 1, none⟩ = some (.slice na K nc)) ∧ Ext w wr) (fun i _ => M - (intOf i).toNat)
        case atStart => exact ⟨0, l, Nat.zero_le _, rfl, ⟨HLl.out, fun j hj => absurd hj (Nat.not_lt_zero j)⟩, HOV.out, ⟨y1, y2⟩, E5⟩
        case round =>
          clear y1 y2 HOV E5 z
          obtain ⟨k, l, hk, rfl, HI, HOV, HY, he⟩ := hrel
          obtain ⟨y1, y2⟩ := HY.out
          have z := cell_lt y1
          dsimp only at z
          have hM5 : M ≤ 5 := HN5.out
          by_cases hlt : k < M
          · have hlt' : (k : Int) < (M : Int) := by omega
            obtain ⟨b, off, v, rfl, c1, ⟨ai, ci, rfl, _⟩, c2, c3⟩ := (HP.out.ext he) k (by rw [← HN.out]; exact hlt)
            obtain ⟨vb, rfl⟩ := HOV.out.some (i := k) (by rw [HI.out.1]; exact hlt)
            obtain ⟨d1, d2⟩ := HOV.out.at (i := k) (by rw [HI.out.1]; exact hlt)
            have hvb : w.heap.size < vb := HOB.out vb rfl
            have hvw : w.heap.size ≠ vb := by omega
            have hmo := HMO.out k hlt
            have HNX := Lib.hid (HI.out.set hlt hmo.1 (Int.le_refl _))
            generalize (pks.getD k pk0).parts.length = L at c1
            generalize (pks.getD k pk0).price = p at c2
            generalize (pks.getD k pk0).most = m at c3 HNX
            generalize l.getD k 0 = x at d1
            have zb := cell_lt c1
            have zd := cell_lt d1
            dsimp only at zb zd
            go_wp2
            have ES : Ext (wr.setCell ⟨vb, k, none⟩ (.int .i64 m)) ((wr.setCell ⟨vb, k, none⟩ (.int .i64 m)).alloc (.cells #[.slice ai L ci, .int .i64 p, .int .i64 m] 62)) := ((Ext.refl _).alloc _)
            have EB : Ext w (wr.setCell ⟨vb, k, none⟩ (.int .i64 m)) := Below.setCell (p := ⟨vb, k, none⟩) he (by show w.heap.size ≤ vb; omega) _
            refine ⟨⟨k + 1, l.set k m, hlt, by go_num, HNX.out, (HOV.out.set k m).ext ES, ⟨ES.cell ?_, ES.cell ?_⟩, EB.trans ES⟩, ?_⟩
            · rw [World.cell?_setCell_other _ _ _ _ (fun h => by cases h; exact hvw rfl)]
              exact y1
            · rw [World.cell?_setCell_other _ _ _ _ (fun h => by cases h; exact hvw rfl)]
              exact y2
            · simp [intOf]; omega
          · have hke : k = M := by omega
            subst hke
            have hlt' : ¬ (k : Int) < (k : Int) := by omega
            have HL : Hid (CellsI wr wa l) := by
              obtain ⟨a9, c9, hv9, hl9, _⟩ := HOV.out.full
              rw [(Value.slice.inj hv9).1]
              exact hl9
            have HV1 : Hid (∀ W, Ext w W → CellsI W wa l → Calls Tryz.prog 25 #[.agg #[.slice pa k pc, .slice na K nc], .slice wa k wc] W fun e w' => e = .returned (.int .i64 15) ∧ Ext W w') := fun W hW hc => by
              have h := HVE.out W hW l wa wc hc (by rw [HI.out.1]; unfold maxLen; omega)
              rw [HI.out.1, HF.out.none rfl l HI.out] at h
              exact h
            clear HOB HMO
            go_wp2_with fail
            refine (HV1.out _ he HL.out).mono ?_
            rintro e w4 ⟨rfl, hE⟩
            have E4 := he.trans hE
            clear hE he HV1 HOV HL y1 y2 z HY
            go_wp2_with fail
            refine (HAW.out _ E4).mono ?_
            rintro e w5 ⟨rfl, hE⟩
            go_wp2
            go_ret
            exact ⟨rfl, E4.trans hE⟩
      · subst h0
        obtain ⟨f1, f2, f3, f4⟩ := HF.out.ok rfl
        obtain ⟨g1, g2, g3⟩ := HF.out.le rfl l HI.out
        obtain ⟨ms, hms⟩ : ∃ ms, verifyS pks need l = ms := ⟨_, rfl⟩
        obtain ⟨cs, hcs⟩ : ∃ cs, costR pks need l = cs := ⟨_, rfl⟩
        rw [hms, hcs] at g3
        rw [hms]
        have HVB : Hid (∀ W, Ext w W → CellsI W ba ol → Calls Tryz.prog 25 #[.agg #[.slice pa M pc, .slice na K nc], .slice ba ol.length bc] W fun e w' => e = .returned (.int .i64 0) ∧ Ext W w') := fun W hW hc => by
          have h := HVE.out W hW ol ba bc hc (by have := HF.out.len; unfold maxLen; omega)
          rw [f2] at h
          exact h
        have HCB : Hid (∀ W, Ext w W → CellsI W ba ol → Calls Tryz.prog 19 #[.agg #[.slice pa M pc, .slice na K nc], .slice ba ol.length bc] W fun e w' => e = .returned (.tuple #[.int .i64 op, .int .i64 0]) ∧ Ext W w') := fun W hW hc => by
          have h := HCO.out W hW ol ba bc hc (by have := HF.out.len; unfold maxLen; omega)
          rw [f1, f3] at h
          exact h
        have HCV : Hid (∀ W, Ext w W → CellsI W va l → Calls Tryz.prog 19 #[.agg #[.slice pa M pc, .slice na K nc], .slice va M vc] W fun e w' => e = .returned (.tuple #[.int .i64 cs, .int .i64 0]) ∧ Ext W w') := fun W hW hc => by
          have h := HCO.out W hW l va vc hc (by rw [HLl.out]; have := HN5.out; unfold maxLen; omega)
          rw [g1, hcs, HLl.out] at h
          exact h
        have HSB : Hid (∀ W, CellsI W ba ol → Calls Tryz.prog 29 #[.slice ba ol.length bc] W fun e w' => e = .returned (.int .i64 (totS ol)) ∧ Ext W w') := fun W hc => sumI_any ol ba bc W hc (by have := HF.out.len; omega) f4
        have HSV : Hid (∀ W, CellsI W va l → Calls Tryz.prog 29 #[.slice va M vc] W fun e w' => e = .returned (.int .i64 (totS l)) ∧ Ext W w') := fun W hc => by
          have h := sumI_any l va vc W hc (by rw [HLl.out]; have := HN5.out; omega) g2
          rw [HLl.out] at h
          exact h
        have HG := Lib.hid g3
        generalize totS ol = so at HSB HG
        generalize totS l = sl at HSV HG
        clear f1 f2 f3 f4 g1 g2 g3 hms hcs HF HCL HVE HCO HI HLl HMO HP HN hlt'
        generalize ol.length = B at HVB HCB HSB ⊢
        go_wp2_with fail
        refine (HCB.out _ E4 HB.out).mono ?_
        rintro e w5 ⟨rfl, hE⟩
        have E5 := E4.trans hE
        replace HL := Lib.hid (HL.out.ext hE)
        replace HB := Lib.hid (HB.out.ext hE)
        replace y1 := hE.cell y1
        replace y2 := hE.cell y2
        have z := cell_lt y1
        dsimp only at z
        clear hE E4 HCB
        go_wp2_with fail
        refine (HVB.out _ E5 HB.out).mono ?_
        rintro e w6 ⟨rfl, hE⟩
        have E6 := E5.trans hE
        replace HL := Lib.hid (HL.out.ext hE)
        replace HB := Lib.hid (HB.out.ext hE)
        replace y1 := hE.cell y1
        replace y2 := hE.cell y2
        have z := cell_lt y1
        dsimp only at z
        clear hE E5 HVB
        rcases HG.out with h15 | ⟨h0, hlt⟩
        · subst h15
          clear HG
          go_wp2_with fail
          refine (HAW.out _ E6).mono ?_
          rintro e w7 ⟨rfl, hE⟩
          go_wp2
          go_ret
          exact ⟨rfl, E6.trans hE⟩
        · subst h0
          clear HG
          go_wp2_with fail
          refine (HCV.out _ E6 HL.out).mono ?_
          rintro e w7 ⟨rfl, hE⟩
          have E7 := E6.trans hE
          replace HL := Lib.hid (HL.out.ext hE)
          replace HB := Lib.hid (HB.out.ext hE)
          clear hE E6 HCV y1 y2 z
          by_cases hop : op < cs
          · clear hlt
            go_wp2_with fail
            refine (HAW.out _ E7).mono ?_
            rintro e w8 ⟨rfl, hE⟩
            go_wp2
            go_ret
            exact ⟨rfl, E7.trans hE⟩
          · obtain ⟨heq, hsum⟩ : op = cs ∧ so ≤ sl := by rcases hlt with h | h; exact absurd h hop; exact h
            subst heq
            clear hlt
            have HSU := Lib.hid hsum
            clear hsum
            go_wp2_with fail
            refine (HSB.out _ HB.out).mono ?_
            rintro e w8 ⟨rfl, hE⟩
            have E8 := E7.trans hE
            replace HL := Lib.hid (HL.out.ext hE)
            clear hE E7 HB HSB
            go_wp2_with fail
            refine (HSV.out _ HL.out).mono ?_
            rintro e w9 ⟨rfl, hE⟩
            have E9 := E8.trans hE
            clear hE E8 HL HSV
            have hsum := HSU.out
            go_wp2_with fail
            refine (HAW.out _ E9).mono ?_
            rintro e wA ⟨rfl, hE⟩
            go_wp2
            go_ret
            exact ⟨rfl, E9.trans hE⟩
end Go.Proofs.YtmndcdjcodfchaaGreatDoor
