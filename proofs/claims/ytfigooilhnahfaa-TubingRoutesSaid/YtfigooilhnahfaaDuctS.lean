/- The bundles of hoses, in plain Lean; lists of routes in memory. -/
import Derived.Test.YtfigooilhnahfaaParts
import Derived.Test.YtfigooilhnahfaaVerify
namespace Go.Proofs.Ytfigooilhnahfaa
open Go.RowKit Go.Maps

abbrev Hose := Pt × Pt
def ph (hs : List Hose) (i : Nat) : Hose := hs.getD i ((0, 0), (0, 0))
/-- a list of pairs of places in memory -/
def Cells4 (w : World) (a : Option Addr) (hs : List Hose) : Prop :=
  ∀ i, i < hs.length → ∃ b off, a = some ⟨b, off, none⟩ ∧ w.cell? ⟨b, off + i * 4, none⟩ = some (.int .i64 (ph hs i).1.1) ∧ w.cell? ⟨b, off + i * 4 + 1, none⟩ = some (.int .i64 (ph hs i).1.2) ∧ w.cell? ⟨b, off + i * 4 + 2, none⟩ = some (.int .i64 (ph hs i).2.1) ∧ w.cell? ⟨b, off + i * 4 + 3, none⟩ = some (.int .i64 (ph hs i).2.2)
theorem Cells4.ext {w w' : World} {a : Option Addr} {l : List Hose} (h : Cells4 w a l) (he : Ext w w') : Cells4 w' a l := fun i hi => by
  obtain ⟨b, off, h1, h2, h3, h4, h5⟩ := h i hi
  exact ⟨b, off, h1, he.cell h2, he.cell h3, he.cell h4, he.cell h5⟩
theorem Cells4.below {m : Nat} {w w' : World} {a : Option Addr} {l : List Hose} (h : Cells4 w a l) (he : Below m w w') (hm : l ≠ [] → ∀ b off, a = some ⟨b, off, none⟩ → b < m) : Cells4 w' a l := fun i hi => by
  obtain ⟨b, off, h1, h2, h3, h4, h5⟩ := h i hi
  have hb := hm (by rintro rfl; simp at hi) b off h1
  exact ⟨b, off, h1, (he.cell (p := ⟨b, _, none⟩) hb).trans h2, (he.cell (p := ⟨b, _, none⟩) hb).trans h3, (he.cell (p := ⟨b, _, none⟩) hb).trans h4, (he.cell (p := ⟨b, _, none⟩) hb).trans h5⟩
theorem Cells4.lt {w : World} {a : Option Addr} {l : List Hose} (h : Cells4 w a l) (hne : l ≠ []) {b off : Nat} (ha : a = some ⟨b, off, none⟩) : b < w.heap.size := by
  obtain ⟨b', off', h1, h2, _⟩ := h 0 (List.length_pos_iff.2 hne)
  rw [ha] at h1
  cases h1
  exact cell_lt h2
theorem Cells2.below {m : Nat} {w w' : World} {a : Option Addr} {l : List Pt} (h : Cells2 w a l) (he : Below m w w') (hm : l ≠ [] → ∀ b off, a = some ⟨b, off, none⟩ → b < m) : Cells2 w' a l := fun i hi => by
  obtain ⟨b, off, h1, h2, h3⟩ := h i hi
  have hb := hm (by rintro rfl; simp at hi) b off h1
  exact ⟨b, off, h1, (he.cell (p := ⟨b, _, none⟩) hb).trans h2, (he.cell (p := ⟨b, _, none⟩) hb).trans h3⟩

def insP (S : List Hose) (a : Hose) : List Hose := if a ∈ S then S else a :: S
theorem insP_mem (S : List Hose) (a x : Hose) : x ∈ insP S a ↔ x ∈ S ∨ x = a := by
  unfold insP
  split
  · rename_i h
    constructor
    · exact .inl
    · rintro (h1 | rfl)
      · exact h1
      · exact h
  · rw [List.mem_cons]
    constructor
    · rintro (h | h)
      · exact .inr h
      · exact .inl h
    · rintro (h | h)
      · exact .inr h
      · exact .inl h
theorem insP_nodup {S : List Hose} (h : S.Nodup) (a : Hose) : (insP S a).Nodup := by
  unfold insP
  split
  · exact h
  · rename_i hn; exact List.nodup_cons.2 ⟨hn, h⟩
theorem insP_len (S : List Hose) (a : Hose) : (insP S a).length ≤ S.length + 1 := by
  unfold insP
  split
  · omega
  · simp
def pairOf (a b : Pt) : Hose := if 0 < ordP a b then (b, a) else (a, b)
def pairK (S : List Hose) (l : List Pt) : Nat → List Hose
  | 0 => S
  | j + 1 => insP (pairK S l j) (pairOf (pt l j) (pt l (j + 1)))
def pairsIn (S : List Hose) (l : List Pt) : List Hose := pairK S l (l.length - 1)
/-- the ducts behind the first k hoses -/
def ductK (g : Gr) (hs : List Hose) : Nat → List Hose
  | 0 => []
  | k + 1 => pairsIn (ductK g hs k) (way g (ph hs k).1 (ph hs k).2)
def hoseErr (g : Gr) (x : Hose) : Int := if cellsErr g [x.1, x.2] ≠ 0 then cellsErr g [x.1, x.2] else if dst g x.2 x.1 < 0 then 6 else 0
def hosesErr (g : Gr) (hs : List Hose) : Nat → Nat → Int
  | 0, _ => 0
  | n + 1, k => if hoseErr g (ph hs k) ≠ 0 then hoseErr g (ph hs k) else hosesErr g hs n (k + 1)
def ductE (g : Gr) (hs : List Hose) : Int := if chk g ≠ 0 then chk g else if 256 < hs.length then 5 else hosesErr g hs hs.length 0
def ductN (g : Gr) (hs : List Hose) : Int := if ductE g hs ≠ 0 then 0 else ((ductK g hs hs.length).length : Int)
def ways (g : Gr) (hs : List Hose) : Nat → List (List Pt)
  | 0 => []
  | k + 1 => ways g hs k ++ [way g (ph hs k).1 (ph hs k).2]
def ductL (g : Gr) (hs : List Hose) : List (List Pt) := if ductE g hs ≠ 0 then [] else ways g hs hs.length
theorem ways_len (g : Gr) (hs : List Hose) : ∀ k, (ways g hs k).length = k := by
  intro k
  induction k with
  | zero => rfl
  | succ k ih => simp [ways, ih]
theorem way_len (g : Gr) (p q : Pt) : (way g p q).length = (dst g q p).toNat + 1 := by unfold way; simp [wayGo_len]
theorem pairK_len (S : List Hose) (l : List Pt) : ∀ j, (pairK S l j).length ≤ S.length + j := by
  intro j
  induction j with
  | zero => exact Nat.le_refl _
  | succ j ih =>
    have := insP_len (pairK S l j) (pairOf (pt l j) (pt l (j + 1)))
    show (insP _ _).length ≤ _
    omega
theorem pairK_nodup {S : List Hose} (h : S.Nodup) (l : List Pt) : ∀ j, (pairK S l j).Nodup := by
  intro j
  induction j with
  | zero => exact h
  | succ j ih => exact insP_nodup ih _
theorem ductK_nodup (g : Gr) (hs : List Hose) : ∀ k, (ductK g hs k).Nodup := by
  intro k
  induction k with
  | zero => exact List.nodup_nil
  | succ k ih => exact pairK_nodup ih _ _

/-- the slice value v owns rows that own their places -/
def RowsO (w : World) (v : Value) (LL : List (List Pt)) : Prop :=
  ∃ vs : List Value, w.ownsRow 0 22 1 v LL.length vs ∧ vs.length = LL.length ∧ ∀ i, i < LL.length → Owns w (vs.getD i undef) (LL.getD i [])
/-- what one who is given the rows sees -/
def RowsR (w : World) (a : Option Addr) (LL : List (List Pt)) : Prop :=
  ∀ i, i < LL.length → ∃ b off ai ci, a = some ⟨b, off, none⟩ ∧ w.cell? ⟨b, off + i, none⟩ = some (.slice ai (LL.getD i []).length ci) ∧ Cells2 w ai (LL.getD i [])
theorem RowsR.ext {w w' : World} {a : Option Addr} {LL : List (List Pt)} (h : RowsR w a LL) (he : Ext w w') : RowsR w' a LL := fun i hi => by
  obtain ⟨b, off, ai, ci, h1, h2, h3⟩ := h i hi
  exact ⟨b, off, ai, ci, h1, he.cell h2, h3.ext he⟩
theorem RowsR.nil (w : World) (a : Option Addr) : RowsR w a [] := fun i hi => by simp at hi
theorem RowsO.nil (w : World) : RowsO w (.slice none 0 0) [] := ⟨[], World.ownsRow_nil w 0 _ _, rfl, fun i hi => by simp at hi⟩
theorem ownsRow_kept {X : Nat → Prop} {m : Nat} {A B : World} {e : TypeId} {s n : Nat} {v : Value} {xs : List Value} (ho : A.ownsRow 0 e s v n xs) (h : Kept X m A B) (hk : ∀ b, v.ownBlock = some b → X b) : B.ownsRow 0 e s v n xs := by
  obtain ⟨h1, h2⟩ := ho
  refine ⟨h1, ?_⟩
  rcases h2 with h2 | ⟨g, cap, cur, hv, hg, hh, r⟩
  · exact .inl h2
  · exact .inr ⟨g, cap, cur, hv, hg, h.2 g _ (hk g (by rw [hv]; rfl)) hh (.inl rfl), r⟩
theorem ownsRow_at {A : World} {e : TypeId} {s n : Nat} {v : Value} {xs : List Value} (ho : A.ownsRow 0 e s v n xs) {b : Nat} (hb : v.ownBlock = some b) : ∃ cur fr, A.heap[b]? = some (.cells cur e fr) := by
  rcases ho.2 with ⟨hv, _⟩ | ⟨g, cap, cur, hv, hg, hh, r⟩
  · rw [hv] at hb; cases hb
  · rw [hv] at hb; cases hb; exact ⟨_, _, hh⟩
theorem RowsO.kept {X : Nat → Prop} {m : Nat} {A B : World} {v : Value} {LL : List (List Pt)} (ho : RowsO A v LL) (h : Kept X m A B) (hk : ∀ b, v.ownBlock = some b → X b) (hX : ∀ b cur fr, A.heap[b]? = some (.cells cur 26 fr) → X b) : RowsO B v LL := by
  obtain ⟨vs, h1, h2, h3⟩ := ho
  refine ⟨vs, ownsRow_kept h1 h hk, h2, fun i hi => (h3 i hi).kept h (fun b hb => ?_)⟩
  obtain ⟨cur, fr, h4⟩ := ownsRow_at (h3 i hi) hb
  exact hX b cur fr h4
theorem RowsO.ext {A B : World} {v : Value} {LL : List (List Pt)} (ho : RowsO A v LL) (h : Ext A B) : RowsO B v LL := ho.kept (Kept.ext h (fun _ => True) 0) (fun _ _ => trivial) (fun _ _ _ _ => trivial)
theorem RowsO.shape {A : World} {v : Value} {LL : List (List Pt)} (ho : RowsO A v LL) : ∃ a cap, v = .slice a LL.length cap := by
  obtain ⟨vs, h1, _⟩ := ho
  rcases h1.2 with ⟨hv, hn⟩ | ⟨g, cap, cur, hv, _⟩
  · exact ⟨none, 0, by rw [hv, hn]⟩
  · exact ⟨_, cap, hv⟩
theorem RowsO.lt {A : World} {v : Value} {LL : List (List Pt)} (ho : RowsO A v LL) {b : Nat} (hb : v.ownBlock = some b) : b < A.heap.size := by
  obtain ⟨vs, h1, _⟩ := ho
  exact (World.ownsRow.lt h1 b hb).2
theorem RowsO.at {A : World} {v : Value} {LL : List (List Pt)} (ho : RowsO A v LL) {b : Nat} (hb : v.ownBlock = some b) : ∃ cur fr, A.heap[b]? = some (.cells cur 22 fr) := by
  obtain ⟨vs, h1, _⟩ := ho
  exact ownsRow_at h1 hb
theorem RowsO.reads {A : World} {v : Value} {LL : List (List Pt)} (ho : RowsO A v LL) : ∃ a cap, v = .slice a LL.length cap ∧ RowsR A a LL := by
  obtain ⟨vs, h1, h2, h3⟩ := ho
  rcases h1.2 with ⟨hv, hn⟩ | ⟨g, cap, cur, hv, hg, hh, hr⟩
  · have : LL = [] := List.eq_nil_of_length_eq_zero hn
    subst this
    exact ⟨none, 0, hv, RowsR.nil _ _⟩
  · refine ⟨some ⟨g, 0, none⟩, cap, hv, fun i hi => ?_⟩
    have hc := World.ownsRow.cells h1 (g := g) (by rw [hv]; rfl)
    have hi2 : i < vs.length := by omega
    obtain ⟨ai, ci, e1, e2, _⟩ := (h3 i hi).reads
    have := hc i (vs.getD i undef) (by simp [List.getD, hi2])
    rw [Addr.add_lit] at this
    rw [e1] at this
    exact ⟨g, 0, ai, ci, rfl, this, e2⟩
theorem rows_app {A B : World} {v v' u : Value} {vs : List Value} {LL : List (List Pt)} {L : List Pt} (h1 : A.ownsRow 0 22 1 v LL.length vs) (h2 : vs.length = LL.length) (h3 : ∀ i, i < LL.length → Owns A (vs.getD i undef) (LL.getD i [])) (hu : Owns A u L)
    (he : AppEnd A B v v') (h4 : B.ownsRow 0 22 1 v' (LL.length + 1) (vs ++ [u])) : RowsO B v' (LL ++ [L]) := by
  have K : Kept (fun k => v.ownBlock ≠ some k) 0 A B := Kept.grown he (fun b hb hn => hn hb)
  have keep : ∀ (x : Value) (N : List Pt), Owns A x N → Owns B x N := fun x N hx => hx.kept K (fun b hb hvb => by
    obtain ⟨c1, f1, e1⟩ := ownsRow_at hx hb
    obtain ⟨c2, f2, e2⟩ := ownsRow_at h1 hvb
    rw [e1] at e2
    injection e2 with e2
    injection e2 with _ e3 _
    exact absurd e3 (by decide))
  refine ⟨vs ++ [u], by rw [List.length_append, List.length_singleton]; exact h4, by simp [h2], fun i hi => ?_⟩
  by_cases e : i < LL.length
  · have e1 : (vs ++ [u]).getD i undef = vs.getD i undef := by simp [List.getD, List.getElem?_append_left (show i < vs.length by omega)]
    have e2 : (LL ++ [L]).getD i [] = LL.getD i [] := by simp [List.getD, List.getElem?_append_left e]
    rw [e1, e2]; exact keep _ _ (h3 i e)
  · have ei : i = LL.length := by simp at hi; omega
    have e1 : (vs ++ [u]).getD i undef = u := by rw [ei, ← h2]; simp [List.getD]
    have e2 : (LL ++ [L]).getD i [] = L := by rw [ei]; simp [List.getD]
    rw [e1, e2]; exact keep _ _ hu
theorem wayGo_opn {g : Gr} (hr : Right g) {q : Pt} (hq : opn g q = true) : ∀ (n : Nat) (a : Pt), opn g a = true → IsD g q a n → ∀ x ∈ wayGo g (dst g q) n a, opn g x = true := by
  intro n
  induction n with
  | zero => intro a _ _ x hx; cases hx
  | succ n ih =>
    intro a ha hd x hx
    have hda : dst g q a = (n : Int) + 1 := by have := dst_of hr (opn_inside hq) hd; rw [this]; omega
    obtain ⟨y, hy1, hy2⟩ := stepTo_ex hr hq ha hd
    have hs := stepTo_spec (g := g) (D := dst g q) (a := a) ⟨y, hy1, by rw [hy2, hda]; omega⟩
    rcases List.mem_cons.1 hx with rfl | hx
    · exact near_opn hs.1
    · exact ih _ (near_opn hs.1) (stepTo_isD hr hq hd hs.1 (by rw [hs.2, hda]; omega)) x hx
theorem way_isD {g : Gr} (hr : Right g) {p q : Pt} (hq : opn g q = true) (hneg : ¬ dst g q p < 0) : IsD g q p (dst g q p).toNat := by
  rcases dst_cases hr (opn_inside hq) p with ⟨k, h1, h2⟩ | ⟨_, h2⟩
  · rw [h2]; exact h1
  · omega
theorem way_opn {g : Gr} (hr : Right g) {p q : Pt} (hp : opn g p = true) (hq : opn g q = true) (hneg : ¬ dst g q p < 0) : ∀ x ∈ way g p q, opn g x = true := by
  intro x hx
  rcases List.mem_cons.1 hx with rfl | hx
  · exact hp
  · exact wayGo_opn hr hq _ _ hp (way_isD hr hq hneg) x hx
theorem infoRow : (Try.prog.info? 22).map (fun i => (i.zero, i.size, i.bytes)) = some (some (.slice none 0 0), 1, 24) := by kernel_rfl
end Go.Proofs.Ytfigooilhnahfaa
