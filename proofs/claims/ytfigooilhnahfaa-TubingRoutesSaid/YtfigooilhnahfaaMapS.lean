/- Maps as sets: map[K]bool, where each entry is true. -/
import Derived.Test.YtfigooilhnahfaaAway
import Derived.Maps.Own
import Derived.Maps.OwnIn
import Derived.Maps.OwnSet
import Derived.Maps.Views
import Derived.DeepKeys4
namespace Go.Proofs.Ytfigooilhnahfaa
open Go.RowKit Go.Maps

/-- block b of w is a map of at most n entries, whose keys are those of S, each true -/
def SetAt {α : Type} [DecidableEq α] (P : Program) (k e : TypeId) (ev : α → Value) (w : World) (b n : Nat) (S : List α) : Prop :=
  ∃ D : DataW Unit, w.ownsMap P k (plainElem P e) b n D ∧ (∀ a kl, keyOf P k (ev a) = some kl → D.atKey kl (.lit (.bool false)) = .lit (.bool (decide (a ∈ S))) ∧ Maps.has D kl = decide (a ∈ S)) ∧ Maps.size D = S.length ∧ S.Nodup

section
variable {α : Type} [DecidableEq α] {P : Program} {t k e : TypeId} {ev : α → Value} {w : World} {b n : Nat} {S : List α}

theorem SetAt.made (P : Program) (k e : TypeId) (ev : α → Value) (w : World) : SetAt P k e ev (w.alloc (.map #[] 0)) w.heap.size 0 ([] : List α) :=
  ⟨.map [], World.ownsMap_made _ _ _ _, fun a kl _ => ⟨rfl, rfl⟩, rfl, List.nodup_nil⟩
theorem SetAt.lt (h : SetAt P k e ev w b n S) : b < w.heap.size := by
  obtain ⟨D, h1, _⟩ := h
  exact h1.lt
theorem SetAt.at (h : SetAt P k e ev w b n S) : ∃ es clock, w.heap[b]? = some (.map es clock) := by
  obtain ⟨D, ⟨es, clock, hb, _⟩, _⟩ := h
  exact ⟨es, clock, hb⟩
theorem SetAt.same {w' : World} (h : SetAt P k e ev w b n S) (hb : w'.heap[b]? = w.heap[b]?) : SetAt P k e ev w' b n S := by
  obtain ⟨D, ⟨es, clock, h1, h2⟩, h3⟩ := h
  exact ⟨D, ⟨es, clock, hb.trans h1, h2⟩, h3⟩
theorem SetAt.ext {w' : World} (h : SetAt P k e ev w b n S) (hx : Ext w w') : SetAt P k e ev w' b n S := h.same (Below.block hx _ h.lt)
theorem SetAt.lookup (h : SetAt P k e ev w b n S) (K : Keyed P k) (ht : P.underlying t = some (.map k e)) (he : P.underlying e = some .bool) (hz : (zeroValue e).run P w = .ok (.bool false) w)
    {a : α} {kl : Lit} (hkey : keyOf P k (ev a) = some kl) : (Instr.lookup t (.map (some b)) (ev a) false).run P w = .ok (.bool (decide (a ∈ S))) w := by
  obtain ⟨D, h1, h2, _⟩ := h
  obtain ⟨v, ps, hrun, hv⟩ := h1.lookup K ht hz (plainElem_bool he false) hkey
  rw [(h2 a kl hkey).1] at hv
  rw [hrun]
  have : v = .bool (decide (a ∈ S)) := by
    unfold plainElem at hv
    rw [he] at hv
    cases v <;> simp at hv
    rename_i x
    rw [hv.1]
  rw [this]
theorem SetAt.update (h : SetAt P k e ev w b n S) (K : Keyed P k) (ht : P.underlying t = some (.map k e)) (he : P.underlying e = some .bool) (hn : n < maxLen) (hinj : ∀ x y, ev x = ev y → x = y)
    {a : α} {kl : Lit} (hkey : keyOf P k (ev a) = some kl) : ∃ w', (Instr.mapUpdate t (.map (some b)) (ev a) (.bool true)).run P w = .ok () w' ∧ SetAt P k e ev w' b (n + 1) (if a ∈ S then S else a :: S) ∧ w.grownBy w' (some b) := by
  obtain ⟨D, h1, h2, h3, h4⟩ := h
  obtain ⟨w', hrun, r1, r2⟩ := h1.update K ht hn hkey (plainElem_bool he true)
  have hT := h1.tidy K
  refine ⟨w', hrun, ⟨_, r1, fun a' kl' hk' => ?_, ?_, ?_⟩, r2⟩
  · by_cases e1 : a' = a
    · subst e1
      rw [hkey] at hk'
      cases hk'
      have hm : a' ∈ (if a' ∈ S then S else a' :: S) := by
        split
        · assumption
        · exact List.mem_cons_self ..
      rw [atKey_put_same hT.isMap (K.key hkey), has_put_same hT.isMap (K.key hkey)]
      simp [hm]
    · have hne : kl' ≠ kl := fun e2 => e1 (hinj _ _ (K.inj hk' (e2 ▸ hkey)))
      have hm : decide (a' ∈ (if a ∈ S then S else a :: S)) = decide (a' ∈ S) := by
        by_cases e2 : a ∈ S
        · rw [if_pos e2]
        · rw [if_neg e2]; simp [e1]
      rw [atKey_put_other hne, has_put_other hne, hm]
      exact h2 a' kl' hk'
  · rw [size_put hT, (h2 a kl hkey).2]
    by_cases e2 : a ∈ S
    · simp [e2, h3]
    · simp [e2, h3]
  · by_cases e2 : a ∈ S
    · rw [if_pos e2]; exact h4
    · rw [if_neg e2]; exact List.nodup_cons.2 ⟨e2, h4⟩
end

/-! ### The two keys of this program -/
theorem laidOut : laidOutB Try.prog = true := by kernel_rfl
theorem rowPl : (26 : TypeId) < Try.prog.types.size := of_decide_eq_true (by kernel_rfl)
theorem rowPr : (74 : TypeId) < Try.prog.types.size := of_decide_eq_true (by kernel_rfl)
theorem lawPl : Keyed Try.prog 26 := Keyed.of_law (deep_law_laid laidOut (m := 3) (by omega) rowPl (by kernel_rfl) (by rw [Try.underlying26]))
theorem lawPr : Keyed Try.prog 74 := Keyed.of_law (deep_law_laid laidOut (m := 4) (by omega) rowPr (by kernel_rfl) (by rw [Try.underlying74]))
def evPl (p : Pt) : Value := .agg #[.int .i64 p.1, .int .i64 p.2]
def evPr (p : Pt × Pt) : Value := .agg #[.int .i64 p.1.1, .int .i64 p.1.2, .int .i64 p.2.1, .int .i64 p.2.2]
theorem evPl_inj (x y : Pt) (h : evPl x = evPl y) : x = y := by
  unfold evPl at h
  simp at h
  exact Prod.ext h.1 h.2
theorem evPr_inj (x y : Pt × Pt) (h : evPr x = evPr y) : x = y := by
  unfold evPr at h
  simp at h
  obtain ⟨h1, h2, h3, h4⟩ := h
  exact Prod.ext (Prod.ext h1 h2) (Prod.ext h3 h4)
def Wf64 (a : Int) : Prop := (Lit.int .i64 a).wf = true
theorem cellsPl : Try.prog.cellsOf 26 = 2 := by kernel_rfl
theorem cellsInt : Try.prog.cellsOf 3 = 1 := by kernel_rfl
theorem cellsPr : Try.prog.cellsOf 74 = 4 := by kernel_rfl
theorem typesSz : ∃ m, Try.prog.types.size + 1 = m + 3 := ⟨Try.prog.types.size - 2, by
  have : 3 ≤ Try.prog.types.size := of_decide_eq_true (by kernel_rfl)
  omega⟩
theorem litsPl {p : Pt} (h1 : Wf64 p.1) (h2 : Wf64 p.2) (m : Nat) : Try.prog.keyLits (m + 2) 26 [.int .i64 p.1, .int .i64 p.2] = some [.int .i64 p.1, .int .i64 p.2] := by
  unfold Wf64 at h1 h2
  unfold Program.keyLits
  rw [Try.underlying26]
  simp [cellsPl, cellsInt, Program.keyLits, Try.underlying3, h1, h2]
theorem keyPl {p : Pt} (h1 : Wf64 p.1) (h2 : Wf64 p.2) : ∃ kl, keyOf Try.prog 26 (evPl p) = some kl := by
  obtain ⟨m, hm⟩ := typesSz
  have hk : Try.prog.keyType 26 = true := by kernel_rfl
  have hf : (evPl p).formed Try.prog 26 = true := by simp [evPl, Value.formed, Try.underlying26, cellsPl]
  have hl := litsPl h1 h2 (m + 1)
  unfold keyOf
  rw [Try.underlying26]
  simp only [hk, hf, hm]
  simp [evPl, Value.cells, hl]
theorem keyPr {p : Pt × Pt} (h1 : Wf64 p.1.1) (h2 : Wf64 p.1.2) (h3 : Wf64 p.2.1) (h4 : Wf64 p.2.2) : ∃ kl, keyOf Try.prog 74 (evPr p) = some kl := by
  obtain ⟨m, hm⟩ := typesSz
  have hk : Try.prog.keyType 74 = true := by kernel_rfl
  have hf : (evPr p).formed Try.prog 74 = true := by simp [evPr, Value.formed, Try.underlying74, cellsPr]
  have l1 := litsPl (p := p.1) h1 h2 m
  have l2 := litsPl (p := p.2) h3 h4 m
  have hl : Try.prog.keyLits (m + 3) 74 [.int .i64 p.1.1, .int .i64 p.1.2, .int .i64 p.2.1, .int .i64 p.2.2] = some [.int .i64 p.1.1, .int .i64 p.1.2, .int .i64 p.2.1, .int .i64 p.2.2] := by
    unfold Program.keyLits
    rw [Try.underlying74]
    simp [cellsPr, cellsPl, List.range_succ, l1, l2]
  unfold keyOf
  rw [Try.underlying74]
  simp only [hk, hf, hm]
  simp [evPr, Value.cells, hl]
theorem wf_inG {p : Pt} (h : InG p) : Wf64 p.1 ∧ Wf64 p.2 := by
  obtain ⟨h1, h2, h3, h4⟩ := h
  exact ⟨WalkArith.wf_i64 (by omega), WalkArith.wf_i64 (by omega)⟩
end Go.Proofs.Ytfigooilhnahfaa
