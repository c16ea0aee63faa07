/- Steps of the proof: QAfter, QChkR, QStepsR, QSame, QSameS, QSameP, QSameF, QFew. No conditions. -/
import Derived.Deep.OwnRows
import Derived.Test.YtnhbogmihnnpjaaGreatYB1
/- The references of strokes: Suits, After, Way. -/
namespace Go.Proofs.YtnhbogmihnnpjaaGreat
open Go.RowKit

theorem infoBool : (Tryz.prog.info? 4).map (fun i => (i.zero, i.size, i.bytes)) = some (some (.bool false), 1, 1) := by kernel_rfl
/-- truth values in a block of one's own -/
def BoolsAt (w : World) (p n : Nat) (e : Int → Bool) : Prop := ∀ k : Nat, k < n → w.cell? ⟨p, k, none⟩ = some (.bool (e k)) ∧ w.frozen? ⟨p, k, none⟩ = false
theorem BoolsAt.ext {w w' : World} {p n : Nat} {e : Int → Bool} (h : BoolsAt w p n e) (he : Ext w w') : BoolsAt w' p n e := fun k hk =>
  ⟨he.cell (h k hk).1, (Below.frozen (p := ⟨p, k, none⟩) he (cell_lt (h k hk).1)).trans (h k hk).2⟩
theorem BoolsAt.set {w : World} {p n : Nat} {e : Int → Bool} (h : BoolsAt w p n e) {a : Int} (h0 : 0 ≤ a) (_h6 : a < n) (b : Bool) : BoolsAt (w.setCell ⟨p, a.toNat, none⟩ (.bool b)) p n (fun i => if i = a then b else e i) := fun k hk => by
  refine ⟨?_, by rw [World.frozen?_setCell]; exact (h k hk).2⟩
  by_cases c : k = a.toNat
  · subst c
    rw [World.cell?_setCell_same _ _ _ (h _ hk).1]; show _ = some (Value.bool (if _ then _ else _)); rw [if_pos (by omega)]
  · rw [World.cell?_setCell_other _ _ _ _ (fun x => by simp only [Addr.mk.injEq] at x; omega), (h k hk).1]; show _ = some (Value.bool (if _ then _ else _)); rw [if_neg (by omega)]
theorem BoolsAt.cells {w : World} {p n : Nat} {f : Int → Bool} (h : BoolsAt w p n f) : CellsB w (some ⟨p, 0, none⟩) n f := fun i hi => ⟨p, 0, rfl, by rw [Nat.zero_add]; exact (h i hi).1⟩
def boolsL (n : Nat) (f : Int → Bool) : List Value := (List.range n).map fun i : Nat => Value.bool (f (i : Int))
theorem boolsL_get {n : Nat} {f : Int → Bool} {i : Nat} {u : Value} (h : (boolsL n f)[i]? = some u) : i < n ∧ u = .bool (f i) := by
  unfold boolsL at h
  rw [List.getElem?_map] at h
  by_cases hi : i < n
  · rw [List.getElem?_range hi] at h; exact ⟨hi, by simpa using h.symm⟩
  · rw [List.getElem?_eq_none (by simpa using hi)] at h; cases h
theorem boolsL_at {n : Nat} {f : Int → Bool} {i : Nat} (h : i < n) : (boolsL n f)[i]? = some (.bool (f i)) := by
  unfold boolsL
  rw [List.getElem?_map, List.getElem?_range h]; rfl

/-- a slice of truth values of the call's own is returned -/
def BoolsPost (n : Nat) (f : Int → Bool) (w : World) (r : Ending) (w' : World) : Prop := ∃ g c, r = .returned (.slice (some ⟨g, 0, none⟩) n c) ∧ BoolsAt w' g n f ∧ w.heap.size ≤ g ∧ Ext w w'
theorem rowBools {w : World} {v : Value} {n : Nat} {f : Int → Bool} (h0 : 0 < n) (h : w.ownsRow 0 4 1 v n (boolsL n f)) : ∃ g c, v = .slice (some ⟨g, 0, none⟩) n c ∧ v.ownBlock = some g ∧ BoolsAt w g n f := by
  obtain ⟨a, c, hv, _, hr⟩ := rowReads h
  obtain ⟨g, ha, hg, _, _⟩ := hr 0 _ (boolsL_at h0)
  subst ha
  refine ⟨g, c, hv, hg, fun i hi => ?_⟩
  obtain ⟨b, hb, _, h1, h2⟩ := hr i _ (boolsL_at hi)
  injection hb with hb
  injection hb with hb _ _
  subst hb
  exact ⟨h1, h2⟩

set_option maxHeartbeats 2000000 in
set_option maxRecDepth 100000 in
theorem AfterR_any (l : List Stk) (wait : Int) (a : Option Addr) (cap : Nat) (n : Nat) (f : Int → Bool) (eb eo ec : Nat) (w : World) (hl : l.length ≤ maxLen) (hc : CellsK w a l) (hn : n ≤ 6) (h0 : 0 < n) (he : CellsB w (some ⟨eb, eo, none⟩) n f) (hk : ∀ k, k < l.length → 0 ≤ (l.getD k stk0).1 ∧ (l.getD k stk0).1 < n) :
    Calls Tryz.prog 114 #[.agg #[.slice a l.length cap, .int .i64 wait], .slice (some ⟨eb, eo, none⟩) n ec] w (BoolsPost n (beh f l) w) := by
  have HC := Lib.hid hc
  have HE := Lib.hid he
  have HK := Lib.hid hk
  clear hc he hk
  unfold maxLen at hl
  obtain ⟨i0, hi, hi0, hi1, hi2⟩ := info_parts infoBool
  go_enter Tryz.func114, Tryz.ntmps114
  have E1 : Ext w ((w.alloc (.cells #[.slice a l.length cap, .int .i64 wait] 87)).alloc (.cells #[] 4)) := (by repeat (first | with_reducible exact Ext.refl _ | with_reducible assumption | with_reducible apply Ext.drewN | with_reducible apply Ext.drew | with_reducible apply Ext.alloc | ((with_reducible refine Ext.set ?_ ?_ _); rotate_left; first | omega | (simp; omega)) | (with_reducible refine Ext.trans ?_ (by with_reducible assumption))))
  have e1 : ((w.alloc (.cells #[.slice a l.length cap, .int .i64 wait] 87)).alloc (.cells #[] 4)).cell? ⟨w.heap.size, 0, none⟩ = some (.slice a l.length cap) := by go_simp
  have hown : ((w.alloc (.cells #[.slice a l.length cap, .int .i64 wait] 87)).alloc (.cells #[] 4)).ownsRow 0 4 1 (.slice (some ⟨w.heap.size + 1, 0, none⟩) 0 0) 0 [] := by
    have := World.ownsRow_made (w := w.alloc (.cells #[.slice a l.length cap, .int .i64 wait] 87)) (base := 0) (e := 4) (size := 1) #[] 0 (Nat.zero_le _) (Nat.zero_le _) rfl
    simpa using this
  have ez : ((w.alloc (.cells #[.slice a l.length cap, .int .i64 wait] 87)).alloc (.cells #[] 4)).heap.size = w.heap.size + 2 := by simp
  go_wp2_with (at_builtin; refine wpList_append1 _ rfl _ _ 79 rfl 4 i0 (.bool false) 1 1 Tryz.underlying79 hi hi0 hi1 hi2 rfl (by decide) (.slice (some ⟨w.heap.size + 1, 0, none⟩) 0 0) 0 [] rfl hown ⟨eb, eo, none⟩ n ec h0 (boolsL n f) rfl ?c0 ?c1 ?c2 ?c3 ?c4 ?c5)
  case c0 => simp [boolsL]
  case c1 =>
    intro j u hu
    obtain ⟨hj, rfl⟩ := boolsL_get hu
    obtain ⟨b, off, hb, hcell⟩ := HE.out.ext E1 j hj
    cases hb
    rw [Addr.add_lit]; exact hcell
  case c2 => intro u hu; unfold boolsL at hu; simp at hu; obtain ⟨i, _, rfl⟩ := hu; rfl
  case c3 => unfold maxLen; omega
  case c4 => omega
  case c5 =>
    intro v' w5 hown5 hend5
    obtain ⟨g, c, rfl, hg, hb⟩ := rowBools h0 hown5
    have B5 : Below (w.heap.size + 1) _ w5 := hend5.below (n := w.heap.size + 1) (by rw [ez]; omega) (fun b hb => by cases hb; exact Nat.le_refl _)
    have G5 := Lib.hid (hend5.ge (n := w.heap.size + 1) (by rw [ez]; omega) (fun b hb => by cases hb; exact Nat.le_refl _) g hg)
    have F5 : Ext w w5 := E1.trans' B5 (by omega)
    have e1 := cellB B5 (p := ⟨w.heap.size, 0, none⟩) (by show w.heap.size < _; omega) e1
    have HB := Lib.hid hb
    have Z5 := Lib.hid B5.size
    clear hown5 hend5 hg hb hown B5 E1 ez
    go_wp2
    go_loopw [6] (fun i wr => ∃ k : Nat, k ≤ l.length ∧ i = .int .i64 k ∧ Below (w.heap.size + 1) w5 wr ∧ Hid (BoolsAt wr g n (beh f (l.take k)))) (fun i _ => l.length - (intOf i).toNat)
    case atStart => exact ⟨0, Nat.zero_le _, rfl, Below.refl _ _, HB⟩
    case round =>
      obtain ⟨k, hk, rfl, hbe, D⟩ := hrel
      have F6 : Ext w wr := F5.trans' hbe (by omega)
      have d1 := cellB hbe (p := ⟨w.heap.size, 0, none⟩) (by show w.heap.size < _; omega) e1
      clear HB
      by_cases hlt : k < l.length
      · obtain ⟨b, off, ha, p1, p2⟩ := HC.out.ext F6 k hlt
        subst ha
        have hkn := HK.out k hlt
        have HB := Lib.hid (beh_take f l hlt)
        generalize l.getD k stk0 = y at p1 p2 hkn HB
        obtain ⟨ya, yo⟩ := y
        dsimp only at p1 p2 hkn HB
        obtain ⟨g0, g6⟩ := hkn
        obtain ⟨m1, m2⟩ := D.out ya.toNat (by omega)
        have hta : ya.toNat < n := by omega
        have z1 := cell_lt p1
        have z2 := cell_lt m1
        dsimp only at z1 z2
        have hG5 := G5.out
        have DN : Hid (BoolsAt (wr.setCell ⟨g, ya.toNat, none⟩ (.bool yo)).drew g n (beh f (l.take (k + 1)))) := by
          show BoolsAt _ _ _ _
          rw [HB.out]
          exact (D.out.set g0 g6 yo).ext (Ext.refl _).drew
        have BN : Below (w.heap.size + 1) w5 (wr.setCell ⟨g, ya.toNat, none⟩ (.bool yo)).drew := (hbe.setCell (p := ⟨g, ya.toNat, none⟩) hG5 _).drew
        go_wp2
        go_still_tail 14, (by kernel_rfl)
        go_wp2
        refine ⟨⟨k + 1, by omega, by go_num, BN, DN⟩, by simp [intOf]; omega⟩
      · have ht : l.take k = l := List.take_of_length_le (by omega)
        rw [ht] at D
        have hG5 := G5.out
        clear ht
        go_wp2
        go_ret
        exact ⟨g, c, rfl, D.out, by omega, F6⟩

theorem same_drop' {f : Int → Bool} {l : List Stk} {k : Nat} (h : k < l.length) {b : Bool} (e : anySame f (l.drop k) = b) : (f (l.getD k stk0).1 == (l.getD k stk0).2) = true ∧ b = true ∨ (f (l.getD k stk0).1 == (l.getD k stk0).2) = false ∧ anySame f (l.drop (k + 1)) = b := by
  have := same_drop h e
  cases c : (f (l.getD k stk0).1 == (l.getD k stk0).2)
  · rw [c, Bool.false_or] at this; exact .inr ⟨rfl, this⟩
  · rw [c, Bool.true_or] at this; exact .inl ⟨rfl, this.symm⟩
set_option maxHeartbeats 2000000 in
theorem SuitsR_any (l : List Stk) (wait : Int) (a : Option Addr) (cap : Nat) (n : Nat) (f : Int → Bool) (ea : Option Addr) (ec : Nat) (w : World) (hl : l.length ≤ maxLen) (hc : CellsK w a l) (_hn : n ≤ 6) (he : CellsB w ea n f) (hk : ∀ k, k < l.length → 0 ≤ (l.getD k stk0).1 ∧ (l.getD k stk0).1 < n) :
    Calls Tryz.prog 113 #[.agg #[.slice a l.length cap, .int .i64 wait], .slice ea n ec] w fun r w' => r = .returned (.bool (!anySame f l)) ∧ Ext w w' := by
  have HC := Lib.hid hc
  have HE := Lib.hid he
  have HK := Lib.hid hk
  clear hc he hk
  unfold maxLen at hl
  go_enter Tryz.func113, Tryz.ntmps113
  go_wp2
  have E1 : Ext w (w.alloc (.cells #[.slice a l.length cap, .int .i64 wait] 87)) := (by repeat (first | with_reducible exact Ext.refl _ | with_reducible assumption | with_reducible apply Ext.drewN | with_reducible apply Ext.drew | with_reducible apply Ext.alloc | ((with_reducible refine Ext.set ?_ ?_ _); rotate_left; first | omega | (simp; omega)) | (with_reducible refine Ext.trans ?_ (by with_reducible assumption))))
  have e1 : (w.alloc (.cells #[.slice a l.length cap, .int .i64 wait] 87)).cell? ⟨w.heap.size, 0, none⟩ = some (.slice a l.length cap) := by go_simp
  generalize w.alloc (.cells #[.slice a l.length cap, .int .i64 wait] 87) = W at E1 e1 ⊢
  go_loopw [5] (fun i wr => ∃ k : Nat, k ≤ l.length ∧ i = .int .i64 k ∧ Hid (anySame f (l.drop k) = anySame f l) ∧ Ext W wr) (fun i _ => l.length - (intOf i).toNat)
  case atStart => exact ⟨0, Nat.zero_le _, rfl, by show _ = _; rfl, Ext.refl _⟩
  case round =>
    obtain ⟨k, hk, rfl, hz, he⟩ := hrel
    have d1 := he.cell e1
    have y1 := cell_lt d1
    dsimp only at y1
    by_cases hlt : k < l.length
    · obtain ⟨b, off, ha, p1, p2⟩ := HC.out.ext (E1.trans he) k hlt
      subst ha
      have hkn := HK.out k hlt
      have HZ := Lib.hid (same_drop' hlt hz.out)
      clear hz
      generalize l.getD k stk0 = y at p1 p2 hkn HZ
      obtain ⟨ya, yo⟩ := y
      dsimp only at p1 p2 hkn HZ
      obtain ⟨g0, g6⟩ := hkn
      obtain ⟨b', off', hb', m1⟩ := HE.out.ext (E1.trans he) ya.toNat (by omega)
      subst hb'
      rw [Int.toNat_of_nonneg g0] at m1
      have z1 := cell_lt p1
      have z2 := cell_lt m1
      dsimp only at z1 z2
      have hng : decide ((n : Int) ≤ ya) = false := by simp; omega
      rcases HZ.out with ⟨h1, h2⟩ | ⟨h1, h2⟩
      · have H2 := Lib.hid h2
        clear h2 HZ
        go_wp2
        go_quiet (fail)
        go_wp2
        go_ret
        exact ⟨ret_bool (by rw [H2.out]; rfl), (by repeat (first | with_reducible exact Ext.refl _ | with_reducible assumption | with_reducible apply Ext.drewN | with_reducible apply Ext.drew | with_reducible apply Ext.alloc | ((with_reducible refine Ext.set ?_ ?_ _); rotate_left; first | omega | (simp; omega)) | (with_reducible refine Ext.trans ?_ (by with_reducible assumption))))⟩
      · have H2 := Lib.hid h2
        clear h2 HZ
        go_wp2
        go_quiet (fail)
        go_wp2
        refine ⟨⟨k + 1, by omega, by go_num, H2, (by repeat (first | with_reducible exact Ext.refl _ | with_reducible assumption | with_reducible apply Ext.drewN | with_reducible apply Ext.drew | with_reducible apply Ext.alloc | ((with_reducible refine Ext.set ?_ ?_ _); rotate_left; first | omega | (simp; omega)) | (with_reducible refine Ext.trans ?_ (by with_reducible assumption))))⟩, by simp [intOf]; omega⟩
    · have hz1 := hz.out
      rw [List.drop_eq_nil_of_le (by omega)] at hz1
      have H2 := Lib.hid hz1
      clear hz1 hz
      go_wp2
      go_ret
      exact ⟨ret_bool (by rw [← H2.out]; rfl), (by repeat (first | with_reducible exact Ext.refl _ | with_reducible assumption | with_reducible apply Ext.drewN | with_reducible apply Ext.drew | with_reducible apply Ext.alloc | ((with_reducible refine Ext.set ?_ ?_ _); rotate_left; first | omega | (simp; omega)) | (with_reducible refine Ext.trans ?_ (by with_reducible assumption))))⟩

/-- the way of an actuator among strokes -/
def wayL (a : Int) : List Stk → Int
  | [] => 0
  | y :: l => if y.1 = a then (if y.2 then 1 else -1) else wayL a l
theorem wayL_drop {a : Int} {l : List Stk} {k : Nat} (h : k < l.length) {r : Int} (e : wayL a (l.drop k) = r) : ((l.getD k stk0).1 = a ∧ r = if (l.getD k stk0).2 then 1 else -1) ∨ (((l.getD k stk0).1 == a) = false ∧ wayL a (l.drop (k + 1)) = r) := by
  rw [drop_cons l stk0 h] at e
  unfold wayL at e
  by_cases c : (l.getD k stk0).1 = a
  · rw [if_pos c] at e; exact .inl ⟨c, e.symm⟩
  · rw [if_neg c] at e; exact .inr ⟨by simpa using c, e⟩
set_option maxHeartbeats 2000000 in
theorem WayR_any (l : List Stk) (wait : Int) (x : Int) (a : Option Addr) (cap : Nat) (w : World) (hl : l.length ≤ maxLen) (hc : CellsK w a l) :
    Calls Tryz.prog 97 #[.agg #[.slice a l.length cap, .int .i64 wait], .int .i64 x] w fun r w' => r = .returned (.int .i64 (wayL x l)) ∧ Ext w w' := by
  have HC := Lib.hid hc
  clear hc
  unfold maxLen at hl
  go_enter Tryz.func97, Tryz.ntmps97
  go_wp2
  have E1 : Ext w (w.alloc (.cells #[.slice a l.length cap, .int .i64 wait] 87)) := (by repeat (first | with_reducible exact Ext.refl _ | with_reducible assumption | with_reducible apply Ext.drewN | with_reducible apply Ext.drew | with_reducible apply Ext.alloc | ((with_reducible refine Ext.set ?_ ?_ _); rotate_left; first | omega | (simp; omega)) | (with_reducible refine Ext.trans ?_ (by with_reducible assumption))))
  have e1 : (w.alloc (.cells #[.slice a l.length cap, .int .i64 wait] 87)).cell? ⟨w.heap.size, 0, none⟩ = some (.slice a l.length cap) := by go_simp
  generalize w.alloc (.cells #[.slice a l.length cap, .int .i64 wait] 87) = W at E1 e1 ⊢
  go_loopw [5] (fun i wr => ∃ k : Nat, k ≤ l.length ∧ i = .int .i64 k ∧ Hid (wayL x (l.drop k) = wayL x l) ∧ Ext W wr) (fun i _ => l.length - (intOf i).toNat)
  case atStart => exact ⟨0, Nat.zero_le _, rfl, by show _ = _; rfl, Ext.refl _⟩
  case round =>
    obtain ⟨k, hk, rfl, hz, he⟩ := hrel
    have d1 := he.cell e1
    by_cases hlt : k < l.length
    · obtain ⟨b, off, ha, p1, p2⟩ := HC.out.ext (E1.trans he) k hlt
      subst ha
      have HZ := Lib.hid (wayL_drop hlt hz.out)
      clear hz
      generalize l.getD k stk0 = y at p1 p2 HZ
      obtain ⟨ya, yo⟩ := y
      dsimp only at p1 p2 HZ
      have z1 := cell_lt p1
      dsimp only at z1
      rcases HZ.out with ⟨h1, h2⟩ | ⟨h1, h2⟩
      · subst h1
        have H2 := Lib.hid h2
        clear h2 HZ
        cases yo
        · go_wp2
          go_ret
          exact ⟨ret_int (by rw [H2.out]; rfl), (by repeat (first | with_reducible exact Ext.refl _ | with_reducible assumption | with_reducible apply Ext.drewN | with_reducible apply Ext.drew | with_reducible apply Ext.alloc | ((with_reducible refine Ext.set ?_ ?_ _); rotate_left; first | omega | (simp; omega)) | (with_reducible refine Ext.trans ?_ (by with_reducible assumption))))⟩
        · go_wp2
          go_ret
          exact ⟨ret_int (by rw [H2.out]; rfl), (by repeat (first | with_reducible exact Ext.refl _ | with_reducible assumption | with_reducible apply Ext.drewN | with_reducible apply Ext.drew | with_reducible apply Ext.alloc | ((with_reducible refine Ext.set ?_ ?_ _); rotate_left; first | omega | (simp; omega)) | (with_reducible refine Ext.trans ?_ (by with_reducible assumption))))⟩
      · have H2 := Lib.hid h2
        clear h2 HZ
        go_wp2
        refine ⟨⟨k + 1, by omega, by go_num, H2, (by repeat (first | with_reducible exact Ext.refl _ | with_reducible assumption | with_reducible apply Ext.drewN | with_reducible apply Ext.drew | with_reducible apply Ext.alloc | ((with_reducible refine Ext.set ?_ ?_ _); rotate_left; first | omega | (simp; omega)) | (with_reducible refine Ext.trans ?_ (by with_reducible assumption))))⟩, by simp [intOf]; omega⟩
    · have hz1 := hz.out
      rw [List.drop_eq_nil_of_le (by omega)] at hz1
      have H2 := Lib.hid hz1
      clear hz1 hz
      go_wp2
      go_ret
      exact ⟨ret_int (by rw [← H2.out]; rfl), (by repeat (first | with_reducible exact Ext.refl _ | with_reducible assumption | with_reducible apply Ext.drewN | with_reducible apply Ext.drew | with_reducible apply Ext.alloc | ((with_reducible refine Ext.set ?_ ?_ _); rotate_left; first | omega | (simp; omega)) | (with_reducible refine Ext.trans ?_ (by with_reducible assumption))))⟩
theorem wayL_moves (a : Int) (l : List Stk) : (wayL a l != 0) = movesL a l := by
  induction l with
  | nil => rfl
  | cons y l ih =>
    unfold wayL movesL
    rw [List.any_cons]
    by_cases c : y.1 = a
    · rw [if_pos c, c]
      cases y.2 <;> simp
    · have c' : (y.1 == a) = false := by simpa using c
      rw [if_neg c, c', Bool.false_or, ih]; rfl
end Go.Proofs.YtnhbogmihnnpjaaGreat
/- The reference's Check of sequences. -/
namespace Go.Proofs.YtnhbogmihnnpjaaGreat
open Go.RowKit

theorem makeBools (n : Nat) (hn : n ≤ 64) (w : World) : (Instr.makeSlice 79 (.int .i64 (n : Int)) (.int .i64 (n : Int))).run Tryz.prog w = .ok (.slice (some ⟨w.heap.size, 0, none⟩) n n) (w.alloc (.cells (madeCells #[.bool false] n) 4)) :=
  run_make_row' _ _ (.bool false) 1 Tryz.underlying79 infoBool rfl _ _ n (by omega) (by omega) w
theorem madeBools (w : World) (n : Nat) (t : TypeId) {p : Nat} (hp : w.heap.size = p) : BoolsAt (w.alloc (.cells (madeCells #[.bool false] n) t)) p n none6 := fun k hk => by
  subst hp
  refine ⟨?_, by simp [go_sem]⟩
  rw [World.cell?_alloc_new]
  simp [madeCells, hk, Nat.mod_one, none6]

theorem movedIn_drop {x : Int} {l : List Stp} {k : Nat} (h : k < l.length) {r : Bool} (e : movedIn x (l.drop k) = r) : ((wayL x (l.getD k stp0).1 != 0) = true ∧ r = true) ∨ ((wayL x (l.getD k stp0).1 != 0) = false ∧ movedIn x (l.drop (k + 1)) = r) := by
  rw [drop_cons l stp0 h] at e
  unfold movedIn at e
  rw [List.any_cons] at e
  rw [wayL_moves]
  have : movesIn x (l.getD k stp0) = movesL x (l.getD k stp0).1 := rfl
  rw [this] at e
  cases c : movesL x (l.getD k stp0).1
  · rw [c, Bool.false_or] at e; exact .inr ⟨rfl, e⟩
  · rw [c, Bool.true_or] at e; exact .inl ⟨rfl, e.symm⟩
set_option maxHeartbeats 2000000 in
theorem movesR_any (n : Value) (l : List Stp) (x : Int) (a : Option Addr) (cap : Nat) (w : World) (hl : l.length ≤ maxLen) (hc : CellsP w a l) :
    Calls Tryz.prog 86 #[.agg #[n, .slice a l.length cap], .int .i64 x] w fun r w' => r = .returned (.bool (movedIn x l)) ∧ Ext w w' := by
  have HC := Lib.hid hc
  clear hc
  unfold maxLen at hl
  go_enter Tryz.func86, Tryz.ntmps86
  go_wp2
  have E1 : Ext w (w.alloc (.cells #[n, .slice a l.length cap] 24)) := (by repeat (first | with_reducible exact Ext.refl _ | with_reducible assumption | with_reducible apply Ext.drewN | with_reducible apply Ext.drew | with_reducible apply Ext.alloc | ((with_reducible refine Ext.set ?_ ?_ _); rotate_left; first | omega | (simp; omega)) | (with_reducible refine Ext.trans ?_ (by with_reducible assumption))))
  have e1 : (w.alloc (.cells #[n, .slice a l.length cap] 24)).cell? ⟨w.heap.size, 1, none⟩ = some (.slice a l.length cap) := by go_simp
  generalize w.alloc (.cells #[n, .slice a l.length cap] 24) = W at E1 e1 ⊢
  go_loopw [5] (fun i wr => ∃ k : Nat, k ≤ l.length ∧ i = .int .i64 k ∧ Hid (movedIn x (l.drop k) = movedIn x l) ∧ Ext W wr) (fun i _ => l.length - (intOf i).toNat)
  case atStart => exact ⟨0, Nat.zero_le _, rfl, by show _ = _; rfl, Ext.refl _⟩
  case round =>
    obtain ⟨k, hk, rfl, hz, he⟩ := hrel
    have d1 := he.cell e1
    by_cases hlt : k < l.length
    · obtain ⟨b, off, v, ha, p1, hv, p2⟩ := HC.out.ext (E1.trans he) k hlt
      subst ha
      obtain ⟨sa, sc, rfl, hcs, hls⟩ := hv
      have HZ := Lib.hid (movedIn_drop hlt hz.out)
      have HCS := Lib.hid hcs
      have HLS := Lib.hid hls
      clear hz hcs hls
      generalize l.getD k stp0 = y at p1 p2 HCS HLS HZ
      obtain ⟨st, wait⟩ := y
      dsimp only at p1 p2 HCS HLS HZ
      have z1 := cell_lt p1
      dsimp only at z1
      rcases HZ.out with ⟨h1, h2⟩ | ⟨h1, h2⟩
      · have H2 := Lib.hid h2
        have H1 := Lib.hid h1
        clear h1 h2 HZ
        go_wp2_with fail
        refine (WayR_any st wait x sa sc _ HLS.out HCS.out).mono ?_
        rintro r w2 ⟨rfl, hE⟩
        have h1 := H1.out
        go_wp2
        go_ret
        exact ⟨ret_bool H2.out.symm, (by repeat (first | with_reducible exact Ext.refl _ | with_reducible assumption | with_reducible apply Ext.drewN | with_reducible apply Ext.drew | with_reducible apply Ext.alloc | ((with_reducible refine Ext.set ?_ ?_ _); rotate_left; first | omega | (simp; omega)) | (with_reducible refine Ext.trans ?_ (by with_reducible assumption))))⟩
      · have H2 := Lib.hid h2
        have H1 := Lib.hid h1
        clear h1 h2 HZ
        go_wp2_with fail
        refine (WayR_any st wait x sa sc _ HLS.out HCS.out).mono ?_
        rintro r w2 ⟨rfl, hE⟩
        have h1 := H1.out
        go_wp2
        refine ⟨⟨k + 1, by omega, by go_num, H2, (by repeat (first | with_reducible exact Ext.refl _ | with_reducible assumption | with_reducible apply Ext.drewN | with_reducible apply Ext.drew | with_reducible apply Ext.alloc | ((with_reducible refine Ext.set ?_ ?_ _); rotate_left; first | omega | (simp; omega)) | (with_reducible refine Ext.trans ?_ (by with_reducible assumption))))⟩, by simp [intOf]; omega⟩
    · have hz1 := hz.out
      rw [List.drop_eq_nil_of_le (by omega)] at hz1
      have H2 := Lib.hid hz1
      clear hz1 hz
      go_wp2
      go_ret
      exact ⟨ret_bool (by rw [← H2.out]; rfl), (by repeat (first | with_reducible exact Ext.refl _ | with_reducible assumption | with_reducible apply Ext.drewN | with_reducible apply Ext.drew | with_reducible apply Ext.alloc | ((with_reducible refine Ext.set ?_ ?_ _); rotate_left; first | omega | (simp; omega)) | (with_reducible refine Ext.trans ?_ (by with_reducible assumption))))⟩

/-- steps that can be carried out so far: their actuators are there -/
def Fine (n : Int) (l : List Stp) : Prop := ∀ k, k < l.length → ckStep (l.getD k stp0) = 0 ∧ ∀ j, j < (l.getD k stp0).1.length → 0 ≤ ((l.getD k stp0).1.getD j stk0).1 ∧ ((l.getD k stp0).1.getD j stk0).1 < n
theorem ckFit_fine {n : Int} {x : Stp} {e : Int → Bool} (h : ckFit n x e = 0) : ∀ j, j < x.1.length → 0 ≤ (x.1.getD j stk0).1 ∧ (x.1.getD j stk0).1 < n := fun j hj => by
  have hk := ckFit_ok h
  refine ⟨(ckStep_known hk.1 j hj).1, ?_⟩
  have h2 := hk.2.1
  unfold anyHigh at h2
  rw [List.any_eq_false] at h2
  have := h2 (x.1.getD j stk0) (by rw [List.getD_eq_getElem?_getD, List.getElem?_eq_getElem hj]; exact List.getElem_mem hj)
  simp at this
  exact this
theorem ckWalk_fine {n : Int} {l : List Stp} {e : Int → Bool} (h : ckWalk n e l = 0) : Fine n l := by
  induction l generalizing e with
  | nil => intro k hk; simp at hk
  | cons x l ih =>
    have hc := ckWalk_cons h
    by_cases hf : ckFit n x e = 0
    · intro k hk
      cases k with
      | zero => exact ⟨(ckFit_ok hf).1, ckFit_fine hf⟩
      | succ k => exact ih (hc.2 hf) k (by simpa using hk)
    · exact absurd (hc.1 hf).symm hf

set_option maxHeartbeats 2000000 in
theorem BehindR_any (n : Nat) (l : List Stp) (q : Nat) (a : Option Addr) (cap : Nat) (w : World) (hl : l.length ≤ maxLen) (hc : CellsP w a l) (h0 : 0 < n) (hn : n ≤ 6) (hq : q ≤ l.length) (hf : Fine n l) :
    Calls Tryz.prog 87 #[.agg #[.int .i64 (n : Int), .slice a l.length cap], .int .i64 (q : Int)] w (BoolsPost n (behAll none6 (l.take q)) w) := by
  have HC := Lib.hid hc
  have HF := Lib.hid hf
  clear hc hf
  unfold maxLen at hl
  have hmk := makeBools n (by omega)
  go_enter Tryz.func87, Tryz.ntmps87
  go_wp2
  have E1 : Ext w ((w.alloc (.cells #[.int .i64 (n : Int), .slice a l.length cap] 24)).alloc (.cells (madeCells #[.bool false] n) 4)) := (by repeat (first | with_reducible exact Ext.refl _ | with_reducible assumption | with_reducible apply Ext.drewN | with_reducible apply Ext.drew | with_reducible apply Ext.alloc | ((with_reducible refine Ext.set ?_ ?_ _); rotate_left; first | omega | (simp; omega)) | (with_reducible refine Ext.trans ?_ (by with_reducible assumption))))
  have e1 : ((w.alloc (.cells #[.int .i64 (n : Int), .slice a l.length cap] 24)).alloc (.cells (madeCells #[.bool false] n) 4)).cell? ⟨w.heap.size, 1, none⟩ = some (.slice a l.length cap) := by go_simp
  have hb : BoolsAt ((w.alloc (.cells #[.int .i64 (n : Int), .slice a l.length cap] 24)).alloc (.cells (madeCells #[.bool false] n) 4)) (w.heap.size + 1) n none6 := madeBools _ n _ (by simp)
  have HB := Lib.hid hb
  clear hb hmk
  generalize ((w.alloc (.cells #[.int .i64 (n : Int), .slice a l.length cap] 24)).alloc (.cells (madeCells #[.bool false] n) 4)) = W at E1 e1 HB ⊢
  go_loopw [6, 5] (fun i v wr => ∃ k : Nat, k ≤ q ∧ i = .int .i64 k ∧ (∃ g c, v = .slice (some ⟨g, 0, none⟩) n c ∧ w.heap.size ≤ g ∧ Hid (BoolsAt wr g n (behAll none6 (l.take k)))) ∧ Ext W wr) (fun i _ _ => q - (intOf i).toNat)
  case atStart => exact ⟨0, Nat.zero_le _, rfl, ⟨w.heap.size + 1, n, rfl, by omega, HB⟩, Ext.refl _⟩
  case round =>
    obtain ⟨k, hk, rfl, ⟨g, c, rfl, hg, D⟩, he⟩ := hrel
    clear HB
    have d1 := he.cell e1
    by_cases hlt : k < q
    · have hlt2 : k < l.length := by omega
      obtain ⟨b, off, v, ha, p1, hv, p2⟩ := HC.out.ext (E1.trans he) k hlt2
      subst ha
      obtain ⟨sa, sc, rfl, hcs, hls⟩ := hv
      have HFK := Lib.hid (HF.out k hlt2).2
      have HT := Lib.hid (behAll_take none6 l hlt2)
      have HCS := Lib.hid hcs
      have HLS := Lib.hid hls
      clear hcs hls
      generalize l.getD k stp0 = y at p1 p2 HCS HLS HFK HT
      obtain ⟨st, wait⟩ := y
      dsimp only at p1 p2 HCS HLS HFK HT
      have z1 := cell_lt p1
      dsimp only at z1
      go_wp2_with fail
      refine (AfterR_any st wait sa sc n (behAll none6 (l.take k)) g 0 c _ HLS.out HCS.out hn h0 D.out.cells HFK.out).mono ?_
      rintro r w2 ⟨g2, c2, rfl, hb2, hg2, hE⟩
      have hw := (E1.trans he).size
      have DN : Hid (BoolsAt w2 g2 n (behAll none6 (l.take (k + 1)))) := by show BoolsAt _ _ _ _; rw [HT.out]; exact hb2
      clear hb2 D
      go_wp2
      refine ⟨⟨k + 1, by omega, by go_num, ⟨g2, c2, rfl, by omega, DN⟩, (by repeat (first | with_reducible exact Ext.refl _ | with_reducible assumption | with_reducible apply Ext.drewN | with_reducible apply Ext.drew | with_reducible apply Ext.alloc | ((with_reducible refine Ext.set ?_ ?_ _); rotate_left; first | omega | (simp; omega)) | (with_reducible refine Ext.trans ?_ (by with_reducible assumption))))⟩, by simp [intOf]; omega⟩
    · have hkq : k = q := by omega
      subst hkq
      go_wp2
      go_ret
      exact ⟨g, c, rfl, D.out, hg, E1.trans he⟩
end Go.Proofs.YtnhbogmihnnpjaaGreat
/- The reference's Check of sequences: steps, and the whole. -/
namespace Go.Proofs.YtnhbogmihnnpjaaGreat
open Go.RowKit

theorem CellsB.at {w : World} {p n : Nat} {f : Int → Bool} (h : BoolsAt w p n f) {k : Nat} (hk : k < n) : w.cell? ⟨p, k, none⟩ = some (.bool (f k)) := (h k hk).1
def stepsE (n : Int) (l : List Stp) : Int := if ckWalk n none6 l ≠ 0 then ckWalk n none6 l else if (ints n).any (behAll none6 l) then 9 else 0
theorem ints_any_of {n : Nat} {f : Int → Bool} {k : Nat} (hk : k < n) (h : f k = true) : (ints (n : Int)).any f = true := by
  unfold ints
  rw [List.any_map, Int.toNat_natCast]
  exact List.any_eq_true.2 ⟨k, List.mem_range.2 hk, h⟩
theorem ints_any_none {n : Nat} {f : Int → Bool} (h : ∀ k : Nat, k < n → f k = false) : (ints (n : Int)).any f = false := by
  unfold ints
  rw [List.any_map, Int.toNat_natCast, List.any_eq_false]
  intro k hk
  simp [h k (List.mem_range.1 hk)]

set_option maxHeartbeats 4000000 in
set_option maxRecDepth 100000 in
theorem stepsR_any (n : Nat) (l : List Stp) (a : Option Addr) (cap : Nat) (w : World) (hl : l.length ≤ maxLen) (hc : CellsP w a l) (h0 : 0 < n) (hn : n ≤ 6) :
    Calls Tryz.prog 85 #[.agg #[.int .i64 (n : Int), .slice a l.length cap]] w fun r w' => r = .returned (.int .i64 (stepsE n l)) ∧ Ext w w' := by
  have HC := Lib.hid hc
  clear hc
  unfold maxLen at hl
  have hmk := makeBools n (by omega)
  go_enter Tryz.func85, Tryz.ntmps85
  go_wp2
  have E1 : Ext w ((w.alloc (.cells #[.int .i64 (n : Int), .slice a l.length cap] 24)).alloc (.cells (madeCells #[.bool false] n) 4)) := (by repeat (first | with_reducible exact Ext.refl _ | with_reducible assumption | with_reducible apply Ext.drewN | with_reducible apply Ext.drew | with_reducible apply Ext.alloc | ((with_reducible refine Ext.set ?_ ?_ _); rotate_left; first | omega | (simp; omega)) | (with_reducible refine Ext.trans ?_ (by with_reducible assumption))))
  have e0 : ((w.alloc (.cells #[.int .i64 (n : Int), .slice a l.length cap] 24)).alloc (.cells (madeCells #[.bool false] n) 4)).cell? ⟨w.heap.size, 0, none⟩ = some (.int .i64 (n : Int)) := by go_simp
  have e1 : ((w.alloc (.cells #[.int .i64 (n : Int), .slice a l.length cap] 24)).alloc (.cells (madeCells #[.bool false] n) 4)).cell? ⟨w.heap.size, 1, none⟩ = some (.slice a l.length cap) := by go_simp
  have hb : BoolsAt ((w.alloc (.cells #[.int .i64 (n : Int), .slice a l.length cap] 24)).alloc (.cells (madeCells #[.bool false] n) 4)) (w.heap.size + 1) n none6 := madeBools _ n _ (by simp)
  have HB := Lib.hid hb
  clear hb hmk
  generalize ((w.alloc (.cells #[.int .i64 (n : Int), .slice a l.length cap] 24)).alloc (.cells (madeCells #[.bool false] n) 4)) = W at E1 e0 e1 HB ⊢
  go_loopw [4, 3] (fun i v wr => ∃ k : Nat, k ≤ l.length ∧ i = .int .i64 k ∧ (∃ g c, v = .slice (some ⟨g, 0, none⟩) n c ∧ Hid (BoolsAt wr g n (behAll none6 (l.take k)))) ∧ Hid (ckWalk n (behAll none6 (l.take k)) (l.drop k) = ckWalk n none6 l) ∧ Ext W wr) (fun i _ _ => l.length - (intOf i).toNat)
  case atStart => exact ⟨0, Nat.zero_le _, rfl, ⟨w.heap.size + 1, n, rfl, HB⟩, by show _ = _; rfl, Ext.refl _⟩
  case round =>
    obtain ⟨k, hk, rfl, ⟨g, c, rfl, D⟩, hz, he⟩ := hrel
    clear HB
    have d0 := he.cell e0
    have d1 := he.cell e1
    have y1 := cell_lt d1
    dsimp only at y1
    by_cases hlt : k < l.length
    · obtain ⟨b, off, v, ha, p1, hv, p2⟩ := HC.out.ext (E1.trans he) k hlt
      subst ha
      obtain ⟨sa, sc, rfl, hcs, hls⟩ := hv
      have hz1 := hz.out
      rw [drop_cons l stp0 hlt] at hz1
      have HZ := Lib.hid (ckWalk_cons hz1)
      have HT := Lib.hid (behAll_take none6 l hlt)
      have HCS := Lib.hid hcs
      have HLS := Lib.hid hls
      clear hcs hls hz1 hz
      generalize l.getD k stp0 = y at p1 p2 HCS HLS HZ HT
      obtain ⟨st, wait⟩ := y
      dsimp only at p1 p2 HCS HLS HZ HT
      generalize hee : behAll none6 (l.take k) = ee at D HZ HT
      have HEE := Lib.hid hee
      clear hee
      have z1 := cell_lt p1
      dsimp only at z1
      go_wp2_with fail
      have F1 : Ext w (wr.alloc (.cells #[.slice sa st.length sc, .int .i64 wait] 87)) := (by repeat (first | with_reducible exact Ext.refl _ | with_reducible assumption | with_reducible apply Ext.drewN | with_reducible apply Ext.drew | with_reducible apply Ext.alloc | ((with_reducible refine Ext.set ?_ ?_ _); rotate_left; first | omega | (simp; omega)) | (with_reducible refine Ext.trans ?_ (by with_reducible assumption))))
      have f0 := ((Ext.refl wr).alloc (.cells #[.slice sa st.length sc, .int .i64 wait] 87)).cell d0
      have f1 : (wr.alloc (.cells #[.slice sa st.length sc, .int .i64 wait] 87)).cell? ⟨wr.heap.size, 0, none⟩ = some (.slice sa st.length sc) := by go_simp
      have f2 : (wr.alloc (.cells #[.slice sa st.length sc, .int .i64 wait] 87)).cell? ⟨wr.heap.size, 1, none⟩ = some (.int .i64 wait) := by go_simp
      have ER : Ext wr (wr.alloc (.cells #[.slice sa st.length sc, .int .i64 wait] 87)) := (by repeat (first | with_reducible exact Ext.refl _ | with_reducible assumption | with_reducible apply Ext.drewN | with_reducible apply Ext.drew | with_reducible apply Ext.alloc | ((with_reducible refine Ext.set ?_ ?_ _); rotate_left; first | omega | (simp; omega)) | (with_reducible refine Ext.trans ?_ (by with_reducible assumption))))
      generalize wr.alloc (.cells #[.slice sa st.length sc, .int .i64 wait] 87) = W1 at F1 ER f0 f1 f2 ⊢
      refine (CheckStepR_any st wait sa sc _ HLS.out (HCS.out.ext ER)).mono ?_
      rintro r w2 ⟨rfl, hE⟩
      have F2 := ER.trans hE
      have f0 := hE.cell f0
      have f1 := hE.cell f1
      have f2 := hE.cell f2
      have HLS6 := HLS.out
      unfold maxLen at HLS6
      by_cases h1 : ckStep (st, wait) = 0
      · rw [h1]
        have HFIT : Hid (ckFit n (st, wait) ee = if anyHigh n st then 6 else if anySame ee st then 14 else 0) := by show _ = _; unfold ckFit; rw [if_neg (by simp [h1])]
        have HS := Lib.hid (ckStep_known h1)
        have h6 : st.length ≤ 6 := (ckStep_strokes h1).2.1
        clear h1
        go_wp2
        obtain ⟨wo, rfl⟩ : ∃ wo : World, wo = wr := ⟨_, rfl⟩
        go_loopw [7] (fun j wr => ∃ q : Nat, q ≤ st.length ∧ j = .int .i64 q ∧ Hid (anyHigh n (st.drop q) = anyHigh n st) ∧ Hid (∀ i, i < q → (st.getD i stk0).1 < n) ∧ Ext w2 wr) (fun j _ => st.length - (intOf j).toNat)
        case atStart => exact ⟨0, Nat.zero_le _, rfl, by show _ = _; rfl, fun i hi => by omega, Ext.refl _⟩
        case round =>
          obtain ⟨q, hq, rfl, hzq, hlow, he2⟩ := hrel
          have g0 := he2.cell f0
          have g1 := he2.cell f1
          have g2 := he2.cell f2
          have FW := F2.trans he2
          by_cases hltq : q < st.length
          · obtain ⟨b', off', ha', q1, q2⟩ := HCS.out.ext FW q hltq
            subst ha'
            have HQ := Lib.hid (high_drop hltq hzq.out)
            have HY : Hid (∀ x, (st.getD q stk0).1 = x → x < n → ∀ i, i < q + 1 → (st.getD i stk0).1 < n) := fun x hx hxn i hi => by
              rcases Nat.lt_or_eq_of_le (Nat.le_of_lt_succ hi) with h | rfl
              · exact hlow.out i h
              · rw [hx]; exact hxn
            clear hzq
            generalize st.getD q stk0 = y at q1 q2 HQ HY
            obtain ⟨ya, yo⟩ := y
            dsimp only at q1 q2 HQ HY
            have zq := cell_lt q1
            dsimp only at zq
            by_cases hh : (n : Int) ≤ ya
            · have HR : Hid (stepsE n l = 6) := by
                show _ = _
                have h := HQ.out
                rw [decide_eq_true hh, Bool.true_or] at h
                have hf := HFIT.out
                rw [if_pos h.symm] at hf
                have h3 := HZ.out.1 (by rw [hf]; decide)
                unfold stepsE
                rw [h3, hf]; rfl
              clear HQ
              go_wp2
              go_quiet (fail)
              go_wp2
              go_ret
              exact ⟨ret_int HR.out.symm, (by repeat (first | with_reducible exact Ext.refl _ | with_reducible assumption | with_reducible apply Ext.drewN | with_reducible apply Ext.drew | with_reducible apply Ext.alloc | ((with_reducible refine Ext.set ?_ ?_ _); rotate_left; first | omega | (simp; omega)) | (with_reducible refine Ext.trans ?_ (by with_reducible assumption))))⟩
            · have HQ2 : Hid (anyHigh n (st.drop (q + 1)) = anyHigh n st) := by
                show _ = _
                have h := HQ.out
                rw [decide_eq_false hh, Bool.false_or] at h
                exact h
              have HL2 : Hid (∀ i, i < q + 1 → (st.getD i stk0).1 < n) := HY.out ya rfl (by omega)
              clear HQ
              go_wp2
              go_quiet (fail)
              go_wp2
              refine ⟨⟨q + 1, by omega, by go_num, HQ2, HL2, (by repeat (first | with_reducible exact Ext.refl _ | with_reducible assumption | with_reducible apply Ext.drewN | with_reducible apply Ext.drew | with_reducible apply Ext.alloc | ((with_reducible refine Ext.set ?_ ?_ _); rotate_left; first | omega | (simp; omega)) | (with_reducible refine Ext.trans ?_ (by with_reducible assumption))))⟩, by simp [intOf]; omega⟩
          · have hqe : q = st.length := by omega
            have HFL : Hid (∀ j, j < st.length → 0 ≤ (st.getD j stk0).1 ∧ (st.getD j stk0).1 < n) := fun j hj => ⟨(HS.out j hj).1, hlow.out j (by omega)⟩
            have HF3 : Hid (ckFit n (st, wait) ee = if anySame ee st then 14 else 0) := by
              show _ = _
              have h := hzq.out
              rw [List.drop_eq_nil_of_le (by omega)] at h
              rw [HFIT.out, ← h]; rfl
            clear hzq hlow HFIT hqe
            cases hsame : anySame ee st
            · have HF4 : Hid (ckFit n (st, wait) ee = 0) := by show _ = _; rw [HF3.out, hsame]; rfl
              have HSM := Lib.hid hsame
              clear hsame HF3
              go_wp2_with fail
              refine (SuitsR_any st wait sa sc n ee _ c _ HLS.out (HCS.out.ext FW) hn (D.out.ext FW).cells HFL.out).mono ?_
              rintro r w3 ⟨rfl, hE3⟩
              rw [HSM.out]
              have g1 := hE3.cell g1
              have g2 := hE3.cell g2
              have FW3 := FW.trans hE3
              go_wp2_with fail
              refine (AfterR_any st wait sa sc n ee g 0 c _ HLS.out (HCS.out.ext FW3) hn h0 (D.out.ext FW3).cells HFL.out).mono ?_
              rintro r w4 ⟨g4, c4, rfl, hb4, hg4, hE4⟩
              have DN : Hid (BoolsAt w4 g4 n (behAll none6 (l.take (k + 1)))) := by show BoolsAt _ _ _ _; rw [HT.out]; exact hb4
              have ZN : Hid (ckWalk n (behAll none6 (l.take (k + 1))) (l.drop (k + 1)) = ckWalk n none6 l) := by show _ = _; rw [HT.out]; exact HZ.out.2 HF4.out
              clear hb4 D
              go_wp2
              refine ⟨⟨k + 1, by omega, by go_num, ⟨g4, c4, rfl, DN⟩, ZN, (by repeat (first | with_reducible exact Ext.refl _ | with_reducible assumption | with_reducible apply Ext.drewN | with_reducible apply Ext.drew | with_reducible apply Ext.alloc | ((with_reducible refine Ext.set ?_ ?_ _); rotate_left; first | omega | (simp; omega)) | (with_reducible refine Ext.trans ?_ (by with_reducible assumption))))⟩, by simp [intOf]; omega⟩
            · have HR : Hid (stepsE n l = 14) := by
                show _ = _
                have hf := HF3.out
                rw [if_pos hsame] at hf
                have h3 := HZ.out.1 (by rw [hf]; decide)
                unfold stepsE
                rw [h3, hf]; rfl
              have HSM := Lib.hid hsame
              clear hsame HF3
              go_wp2_with fail
              refine (SuitsR_any st wait sa sc n ee _ c _ HLS.out (HCS.out.ext FW) hn (D.out.ext FW).cells HFL.out).mono ?_
              rintro r w3 ⟨rfl, hE3⟩
              rw [HSM.out]
              go_wp2
              go_ret
              exact ⟨ret_int HR.out.symm, (by repeat (first | with_reducible exact Ext.refl _ | with_reducible assumption | with_reducible apply Ext.drewN | with_reducible apply Ext.drew | with_reducible apply Ext.alloc | ((with_reducible refine Ext.set ?_ ?_ _); rotate_left; first | omega | (simp; omega)) | (with_reducible refine Ext.trans ?_ (by with_reducible assumption))))⟩
      · have h1' : (ckStep (st, wait) != 0) = true := by simp [h1]
        have HR : Hid (stepsE n l = ckStep (st, wait)) := by
          show _ = _
          have hf : ckFit n (st, wait) ee = ckStep (st, wait) := by unfold ckFit; rw [if_pos h1]
          have h3 := HZ.out.1 (by rw [hf]; exact h1)
          unfold stepsE
          rw [h3, hf, if_pos h1]
        clear h1
        generalize ckStep (st, wait) = cs at h1' HR
        go_wp2
        go_ret
        exact ⟨ret_int HR.out.symm, (by repeat (first | with_reducible exact Ext.refl _ | with_reducible assumption | with_reducible apply Ext.drewN | with_reducible apply Ext.drew | with_reducible apply Ext.alloc | ((with_reducible refine Ext.set ?_ ?_ _); rotate_left; first | omega | (simp; omega)) | (with_reducible refine Ext.trans ?_ (by with_reducible assumption))))⟩
    · have hlt' : l.take k = l := List.take_of_length_le (by omega)
      have hz1 := hz.out
      rw [List.drop_eq_nil_of_le (by omega)] at hz1
      have HE : Hid (stepsE n l = if (ints n).any (behAll none6 l) then 9 else 0) := by
        show _ = _
        unfold stepsE
        rw [← hz1]; rfl
      rw [hlt'] at D
      clear hz1 hz hlt'
      generalize behAll none6 l = ee at D HE
      go_wp2
      obtain ⟨wo, rfl⟩ : ∃ wo : World, wo = wr := ⟨_, rfl⟩
      go_loopw [8] (fun j wr => ∃ q : Nat, q ≤ n ∧ j = .int .i64 q ∧ Hid (∀ i : Nat, i < q → ee i = false) ∧ wo = wr) (fun j _ => n - (intOf j).toNat)
      case atStart => exact ⟨0, Nat.zero_le _, rfl, fun i hi => by omega, rfl⟩
      case round =>
        obtain ⟨q, hq, rfl, hlow, rfl⟩ := hrel
        by_cases hltq : q < n
        · have m1 := (D.out q hltq).1
          cases hq1 : ee q
          · have HN : Hid (∀ i : Nat, i < q + 1 → ee i = false) := fun i hi => by
              rcases Nat.lt_or_eq_of_le (Nat.le_of_lt_succ hi) with h | rfl
              · exact hlow.out i h
              · exact hq1
            rw [hq1] at m1
            clear hq1
            go_wp2
            refine ⟨⟨q + 1, by omega, by go_num, HN, trivial⟩, by simp [intOf]; omega⟩
          · have HR : Hid (stepsE n l = 9) := by show _ = _; rw [HE.out, if_pos (ints_any_of hltq hq1)]
            rw [hq1] at m1
            clear hq1
            go_wp2
            go_ret
            exact ⟨ret_int HR.out.symm, (by repeat (first | with_reducible exact Ext.refl _ | with_reducible assumption | with_reducible apply Ext.drewN | with_reducible apply Ext.drew | with_reducible apply Ext.alloc | ((with_reducible refine Ext.set ?_ ?_ _); rotate_left; first | omega | (simp; omega)) | (with_reducible refine Ext.trans ?_ (by with_reducible assumption))))⟩
        · have HR : Hid (stepsE n l = 0) := by
            show _ = _
            rw [HE.out, ints_any_none (fun i hi => hlow.out i (by omega))]; rfl
          go_wp2
          go_ret
          exact ⟨ret_int HR.out.symm, (by repeat (first | with_reducible exact Ext.refl _ | with_reducible assumption | with_reducible apply Ext.drewN | with_reducible apply Ext.drew | with_reducible apply Ext.alloc | ((with_reducible refine Ext.set ?_ ?_ _); rotate_left; first | omega | (simp; omega)) | (with_reducible refine Ext.trans ?_ (by with_reducible assumption))))⟩

set_option maxHeartbeats 4000000 in
theorem CheckR_any (n : Int) (l : List Stp) (a : Option Addr) (cap : Nat) (w : World) (hl : l.length ≤ maxLen) (hc : CellsP w a l) :
    Calls Tryz.prog 48 #[.agg #[.int .i64 n, .slice a l.length cap]] w fun r w' => r = .returned (.int .i64 (ckSeq (n, l))) ∧ Ext w w' := by
  have HC := Lib.hid hc
  have HL := Lib.hid hl
  unfold maxLen at hl
  clear hc
  by_cases h1 : n < 1
  · have hf : Hid (ckSeq (n, l) = 2) := by show _ = _; unfold ckSeq; rw [if_pos (Or.inl h1)]
    go_enter Tryz.func48, Tryz.ntmps48
    go_wp2
    all_goals go_ret
    all_goals exact ⟨ret_int hf.out.symm, (by repeat (first | with_reducible exact Ext.refl _ | with_reducible assumption | with_reducible apply Ext.drewN | with_reducible apply Ext.drew | with_reducible apply Ext.alloc | ((with_reducible refine Ext.set ?_ ?_ _); rotate_left; first | omega | (simp; omega)) | (with_reducible refine Ext.trans ?_ (by with_reducible assumption))))⟩
  by_cases h2 : 6 < n
  · have hf : Hid (ckSeq (n, l) = 2) := by show _ = _; unfold ckSeq; rw [if_pos (Or.inr h2)]
    go_enter Tryz.func48, Tryz.ntmps48
    go_wp2
    all_goals go_ret
    all_goals exact ⟨ret_int hf.out.symm, (by repeat (first | with_reducible exact Ext.refl _ | with_reducible assumption | with_reducible apply Ext.drewN | with_reducible apply Ext.drew | with_reducible apply Ext.alloc | ((with_reducible refine Ext.set ?_ ?_ _); rotate_left; first | omega | (simp; omega)) | (with_reducible refine Ext.trans ?_ (by with_reducible assumption))))⟩
  by_cases h0 : l.length = 0
  · have hf : Hid (ckSeq (n, l) = 13) := by show _ = _; unfold ckSeq; rw [if_neg (by dsimp only; omega), if_pos h0]
    have h0' : ((l.length : Int) == 0) = true := by simp [h0]
    have h0b : (l.length == 0) = true := by simp [h0]
    go_enter Tryz.func48, Tryz.ntmps48
    go_wp2
    all_goals go_ret
    all_goals exact ⟨ret_int hf.out.symm, (by repeat (first | with_reducible exact Ext.refl _ | with_reducible assumption | with_reducible apply Ext.drewN | with_reducible apply Ext.drew | with_reducible apply Ext.alloc | ((with_reducible refine Ext.set ?_ ?_ _); rotate_left; first | omega | (simp; omega)) | (with_reducible refine Ext.trans ?_ (by with_reducible assumption))))⟩
  have h0' : ((l.length : Int) == 0) = false := beq_eq_false_iff_ne.2 (by omega)
  have h0b : (l.length == 0) = false := beq_eq_false_iff_ne.2 h0
  by_cases h6 : 64 < l.length
  · have hf : Hid (ckSeq (n, l) = 5) := by show _ = _; unfold ckSeq; rw [if_neg (by dsimp only; omega), if_neg h0, if_pos h6]
    go_enter Tryz.func48, Tryz.ntmps48
    go_wp2
    all_goals go_ret
    all_goals exact ⟨ret_int hf.out.symm, (by repeat (first | with_reducible exact Ext.refl _ | with_reducible assumption | with_reducible apply Ext.drewN | with_reducible apply Ext.drew | with_reducible apply Ext.alloc | ((with_reducible refine Ext.set ?_ ?_ _); rotate_left; first | omega | (simp; omega)) | (with_reducible refine Ext.trans ?_ (by with_reducible assumption))))⟩
  obtain ⟨N, rfl⟩ := Int.eq_ofNat_of_zero_le (show 0 ≤ n by omega)
  have hf : Hid (ckSeq ((N : Int), l) = if stepsE N l ≠ 0 then stepsE N l else if (ints N).any (fun a => !movedIn a l) then 13 else 0) := by
    show _ = _
    unfold ckSeq stepsE
    rw [if_neg (by dsimp only; omega), if_neg h0, if_neg h6]
    dsimp only
    by_cases c1 : ckWalk N none6 l ≠ 0
    · rw [if_pos c1, if_pos c1, if_pos c1]
    · rw [if_neg c1, if_neg c1]
      by_cases c2 : (ints N).any (behAll none6 l) = true
      · rw [if_pos c2, if_pos c2]; rfl
      · rw [if_neg c2, if_neg c2]; rfl
  clear h0
  have hN1 : 0 < N := by omega
  have hN6 : N ≤ 6 := by omega
  go_enter Tryz.func48, Tryz.ntmps48
  go_wp2_with fail
  have E1 : Ext w (w.alloc (.cells #[.int .i64 (N : Int), .slice a l.length cap] 24)) := (by repeat (first | with_reducible exact Ext.refl _ | with_reducible assumption | with_reducible apply Ext.drewN | with_reducible apply Ext.drew | with_reducible apply Ext.alloc | ((with_reducible refine Ext.set ?_ ?_ _); rotate_left; first | omega | (simp; omega)) | (with_reducible refine Ext.trans ?_ (by with_reducible assumption))))
  have e0 : (w.alloc (.cells #[.int .i64 (N : Int), .slice a l.length cap] 24)).cell? ⟨w.heap.size, 0, none⟩ = some (.int .i64 (N : Int)) := by go_simp
  have e1 : (w.alloc (.cells #[.int .i64 (N : Int), .slice a l.length cap] 24)).cell? ⟨w.heap.size, 1, none⟩ = some (.slice a l.length cap) := by go_simp
  generalize w.alloc (.cells #[.int .i64 (N : Int), .slice a l.length cap] 24) = W at E1 e0 e1 ⊢
  refine (stepsR_any N l a cap _ HL.out (HC.out.ext E1) hN1 hN6).mono ?_
  rintro r w2 ⟨rfl, hE⟩
  have F2 := E1.trans hE
  have e0 := hE.cell e0
  have e1 := hE.cell e1
  by_cases hs : stepsE N l = 0
  · have HF : Hid (ckSeq ((N : Int), l) = if (ints N).any (fun a => !movedIn a l) then 13 else 0) := by show _ = _; rw [hf.out, if_neg (by simp [hs])]
    rw [hs]
    clear hs hf
    go_wp2
    go_loopw [4] (fun j wr => ∃ q : Nat, q ≤ N ∧ j = .int .i64 q ∧ Hid (∀ i : Nat, i < q → movedIn i l = true) ∧ Ext w2 wr) (fun j _ => N - (intOf j).toNat)
    case atStart => exact ⟨0, Nat.zero_le _, rfl, fun i hi => by omega, Ext.refl _⟩
    case round =>
      obtain ⟨q, hq, rfl, hlow, he⟩ := hrel
      have g0 := he.cell e0
      have g1 := he.cell e1
      by_cases hltq : q < N
      · cases hm : movedIn q l
        · have HR : Hid (ckSeq ((N : Int), l) = 13) := by show _ = _; rw [HF.out, if_pos (ints_any_of hltq (by simp [hm]))]
          have HM := Lib.hid hm
          clear hm
          go_wp2_with fail
          refine (movesR_any _ l q a cap _ HL.out (HC.out.ext (F2.trans he))).mono ?_
          rintro r w3 ⟨rfl, hE3⟩
          rw [HM.out]
          go_wp2
          go_ret
          exact ⟨ret_int HR.out.symm, (by repeat (first | with_reducible exact Ext.refl _ | with_reducible assumption | with_reducible apply Ext.drewN | with_reducible apply Ext.drew | with_reducible apply Ext.alloc | ((with_reducible refine Ext.set ?_ ?_ _); rotate_left; first | omega | (simp; omega)) | (with_reducible refine Ext.trans ?_ (by with_reducible assumption))))⟩
        · have HN : Hid (∀ i : Nat, i < q + 1 → movedIn i l = true) := fun i hi => by
            rcases Nat.lt_or_eq_of_le (Nat.le_of_lt_succ hi) with h | rfl
            · exact hlow.out i h
            · exact hm
          have HM := Lib.hid hm
          clear hm
          go_wp2_with fail
          refine (movesR_any _ l q a cap _ HL.out (HC.out.ext (F2.trans he))).mono ?_
          rintro r w3 ⟨rfl, hE3⟩
          rw [HM.out]
          go_wp2
          refine ⟨⟨q + 1, by omega, by go_num, HN, (by repeat (first | with_reducible exact Ext.refl _ | with_reducible assumption | with_reducible apply Ext.drewN | with_reducible apply Ext.drew | with_reducible apply Ext.alloc | ((with_reducible refine Ext.set ?_ ?_ _); rotate_left; first | omega | (simp; omega)) | (with_reducible refine Ext.trans ?_ (by with_reducible assumption))))⟩, by simp [intOf]; omega⟩
      · have HR : Hid (ckSeq ((N : Int), l) = 0) := by
          show _ = _
          rw [HF.out, ints_any_none (fun i hi => by simp [hlow.out i (by omega)])]; rfl
        go_wp2
        go_ret
        exact ⟨ret_int HR.out.symm, (by repeat (first | with_reducible exact Ext.refl _ | with_reducible assumption | with_reducible apply Ext.drewN | with_reducible apply Ext.drew | with_reducible apply Ext.alloc | ((with_reducible refine Ext.set ?_ ?_ _); rotate_left; first | omega | (simp; omega)) | (with_reducible refine Ext.trans ?_ (by with_reducible assumption))))⟩
  · have hs' : (stepsE N l != 0) = true := by simp [hs]
    have HR : Hid (ckSeq ((N : Int), l) = stepsE N l) := by show _ = _; rw [hf.out, if_pos hs]
    clear hs hf
    generalize stepsE N l = x at hs' HR ⊢
    go_wp2
    go_ret
    exact ⟨ret_int HR.out.symm, (by repeat (first | with_reducible exact Ext.refl _ | with_reducible assumption | with_reducible apply Ext.drewN | with_reducible apply Ext.drew | with_reducible apply Ext.alloc | ((with_reducible refine Ext.set ?_ ?_ _); rotate_left; first | omega | (simp; omega)) | (with_reducible refine Ext.trans ?_ (by with_reducible assumption))))⟩
end Go.Proofs.YtnhbogmihnnpjaaGreat
/- Equality of strokes, steps, sequences; few. -/
namespace Go.Proofs.YtnhbogmihnnpjaaGreat
open Go.RowKit

theorem eqStk (d : Nat) (x y : Stk) (w : World) : (Op.equalIn (d + 2) 73 (.agg #[.int .i64 x.1, .bool x.2]) (.agg #[.int .i64 y.1, .bool y.2])).run Tryz.prog w = .ok (decide (x = y)) w := by
  obtain ⟨a, b⟩ := x
  obtain ⟨c, e⟩ := y
  by_cases h1 : a = c
  · subst h1
    by_cases h2 : b = e
    · subst h2
      rw [decide_eq_true rfl]
      go_simp
    · have h3 : (b == e) = false := by simpa using h2
      rw [decide_eq_false (fun h => h2 (by simpa using congrArg Prod.snd h))]
      go_simp
  · have h3 : (a == c) = false := by simpa using h1
    rw [decide_eq_false (fun h => h1 (by simpa using congrArg Prod.fst h))]
    go_simp
theorem neqStk (x y : Stk) (w : World) : (binOp .neq 73 (.agg #[.int .i64 x.1, .bool x.2]) (.agg #[.int .i64 y.1, .bool y.2])).run Tryz.prog w = .ok (.bool (!decide (x = y))) w := by
  rw [run_neq_struct]
  have h := eqStk 9998 x y w
  rw [h]
  rfl
theorem eqlStk (x y : Stk) (w : World) : (binOp .eql 73 (.agg #[.int .i64 x.1, .bool x.2]) (.agg #[.int .i64 y.1, .bool y.2])).run Tryz.prog w = .ok (.bool (decide (x = y))) w := by
  rw [run_eql_struct]
  have h := eqStk 9998 x y w
  rw [h]
  rfl
theorem list_ext_getD {α : Type} (d : α) {l m : List α} (hl : l.length = m.length) (h : ∀ j, j < l.length → l.getD j d = m.getD j d) : l = m := by
  apply List.ext_getElem hl
  intro i h1 h2
  have := h i h1
  rw [List.getD_eq_getElem?_getD, List.getD_eq_getElem?_getD, List.getElem?_eq_getElem h1, List.getElem?_eq_getElem h2] at this
  simpa using this

set_option maxHeartbeats 2000000 in
theorem SameStrokes_any (l m : List Stk) (a b : Option Addr) (ca cb : Nat) (w : World) (hl : l.length ≤ maxLen) (hc : CellsK w a l) (hm : m.length ≤ maxLen) (hd : CellsK w b m) :
    Calls Tryz.prog 115 #[.slice a l.length ca, .slice b m.length cb] w fun r w' => r = .returned (.bool (decide (l = m))) ∧ Ext w w' := by
  have HC := Lib.hid hc
  have HD := Lib.hid hd
  clear hc hd
  unfold maxLen at hl hm
  by_cases hlen : l.length = m.length
  · have HLEN := Lib.hid hlen
    have hne : ((l.length : Int) != (m.length : Int)) = false := by simp [hlen]
    have hne2 : (l.length != m.length) = false := by simp [hlen]
    clear hlen
    go_enter Tryz.func115, Tryz.ntmps115
    go_wp2
    go_loopw [5] (fun i wr => ∃ k : Nat, k ≤ l.length ∧ i = .int .i64 k ∧ Hid (∀ j, j < k → l.getD j stk0 = m.getD j stk0) ∧ Ext w wr) (fun i _ => l.length - (intOf i).toNat)
    case atStart => exact ⟨0, Nat.zero_le _, rfl, fun j hj => by omega, Ext.refl _⟩
    case round =>
      obtain ⟨k, hk, rfl, hz, he⟩ := hrel
      by_cases hlt : k < l.length
      · have hlt2 : k < m.length := by have := HLEN.out; omega
        obtain ⟨b1, o1, ha1, p1, p2⟩ := HC.out.ext he k hlt
        obtain ⟨b2, o2, ha2, q1, q2⟩ := HD.out.ext he k hlt2
        subst ha1
        subst ha2
        by_cases hx : l.getD k stk0 = m.getD k stk0
        · have HN : Hid (∀ j, j < k + 1 → l.getD j stk0 = m.getD j stk0) := fun j hj => by
            rcases Nat.lt_or_eq_of_le (Nat.le_of_lt_succ hj) with h | rfl
            · exact hz.out j h
            · exact hx
          have hq := fun w => neqStk (l.getD k stk0) (m.getD k stk0) w
          rw [decide_eq_true hx] at hq
          clear hx hz
          generalize l.getD k stk0 = x at p1 p2 hq
          generalize m.getD k stk0 = y at q1 q2 hq
          go_wp2
          go_quiet (fail)
          go_wp2
          refine ⟨⟨k + 1, by omega, by go_num, HN, (by repeat (first | with_reducible exact Ext.refl _ | with_reducible assumption | with_reducible apply Ext.drewN | with_reducible apply Ext.drew | with_reducible apply Ext.alloc | ((with_reducible refine Ext.set ?_ ?_ _); rotate_left; first | omega | (simp; omega)) | (with_reducible refine Ext.trans ?_ (by with_reducible assumption))))⟩, by simp [intOf]; omega⟩
        · have HN : Hid (decide (l = m) = false) := by
            show _ = _
            rw [decide_eq_false_iff_not]
            rintro rfl
            exact hx rfl
          have hq := fun w => neqStk (l.getD k stk0) (m.getD k stk0) w
          rw [decide_eq_false hx] at hq
          clear hx hz
          generalize l.getD k stk0 = x at p1 p2 hq
          generalize m.getD k stk0 = y at q1 q2 hq
          go_wp2
          go_quiet (fail)
          go_wp2
          go_ret
          exact ⟨ret_bool HN.out.symm, (by repeat (first | with_reducible exact Ext.refl _ | with_reducible assumption | with_reducible apply Ext.drewN | with_reducible apply Ext.drew | with_reducible apply Ext.alloc | ((with_reducible refine Ext.set ?_ ?_ _); rotate_left; first | omega | (simp; omega)) | (with_reducible refine Ext.trans ?_ (by with_reducible assumption))))⟩
      · have HN : Hid (decide (l = m) = true) := by
          show _ = _
          rw [decide_eq_true_eq]
          exact list_ext_getD stk0 HLEN.out (fun j hj => hz.out j (by omega))
        go_wp2
        go_ret
        exact ⟨ret_bool HN.out.symm, (by repeat (first | with_reducible exact Ext.refl _ | with_reducible assumption | with_reducible apply Ext.drewN | with_reducible apply Ext.drew | with_reducible apply Ext.alloc | ((with_reducible refine Ext.set ?_ ?_ _); rotate_left; first | omega | (simp; omega)) | (with_reducible refine Ext.trans ?_ (by with_reducible assumption))))⟩
  · have hne : ((l.length : Int) != (m.length : Int)) = true := by rw [bne_iff_ne]; omega
    have hne2 : (l.length != m.length) = true := by rw [bne_iff_ne]; exact hlen
    have HN : Hid (decide (l = m) = false) := by
      show _ = _
      rw [decide_eq_false_iff_not]
      rintro rfl
      exact hlen rfl
    clear hlen
    go_enter Tryz.func115, Tryz.ntmps115
    go_wp2
    all_goals go_ret
    all_goals exact ⟨ret_bool HN.out.symm, (by repeat (first | with_reducible exact Ext.refl _ | with_reducible assumption | with_reducible apply Ext.drewN | with_reducible apply Ext.drew | with_reducible apply Ext.alloc | ((with_reducible refine Ext.set ?_ ?_ _); rotate_left; first | omega | (simp; omega)) | (with_reducible refine Ext.trans ?_ (by with_reducible assumption))))⟩

set_option maxHeartbeats 2000000 in
theorem SameR_any (l m : List Stk) (u v : Int) (a b : Option Addr) (ca cb : Nat) (w : World) (hl : l.length ≤ maxLen) (hc : CellsK w a l) (hm : m.length ≤ maxLen) (hd : CellsK w b m) :
    Calls Tryz.prog 90 #[.agg #[.slice a l.length ca, .int .i64 u], .agg #[.slice b m.length cb, .int .i64 v]] w fun r w' => r = .returned (.bool (decide ((l, u) = (m, v)))) ∧ Ext w w' := by
  have HC := Lib.hid hc
  have HD := Lib.hid hd
  have HL := Lib.hid hl
  have HM := Lib.hid hm
  clear hc hd
  unfold maxLen at hl hm
  by_cases h : u = v
  · have HR : Hid (decide ((l, u) = (m, v)) = decide (l = m)) := by show _ = _; subst h; simp
    have h1 : (u == v) = true := by simp [h]
    clear h
    go_enter Tryz.func90, Tryz.ntmps90
    go_wp2_with fail
    have E1 : Ext w ((w.alloc (.cells #[.slice a l.length ca, .int .i64 u] 87)).alloc (.cells #[.slice b m.length cb, .int .i64 v] 87)) := (by repeat (first | with_reducible exact Ext.refl _ | with_reducible assumption | with_reducible apply Ext.drewN | with_reducible apply Ext.drew | with_reducible apply Ext.alloc | ((with_reducible refine Ext.set ?_ ?_ _); rotate_left; first | omega | (simp; omega)) | (with_reducible refine Ext.trans ?_ (by with_reducible assumption))))
    refine (SameStrokes_any l m a b ca cb _ HL.out (HC.out.ext E1) HM.out (HD.out.ext E1)).mono ?_
    rintro r w2 ⟨rfl, hE⟩
    go_wp2
    all_goals go_ret
    all_goals exact ⟨ret_bool (by rw [HR.out]), (by repeat (first | with_reducible exact Ext.refl _ | with_reducible assumption | with_reducible apply Ext.drewN | with_reducible apply Ext.drew | with_reducible apply Ext.alloc | ((with_reducible refine Ext.set ?_ ?_ _); rotate_left; first | omega | (simp; omega)) | (with_reducible refine Ext.trans ?_ (by with_reducible assumption))))⟩
  · have HR : Hid (decide ((l, u) = (m, v)) = false) := by show _ = _; simp; intro _; exact h
    have h1 : (u == v) = false := by simpa using h
    clear h
    go_enter Tryz.func90, Tryz.ntmps90
    go_wp2
    all_goals go_ret
    all_goals exact ⟨ret_bool HR.out.symm, (by repeat (first | with_reducible exact Ext.refl _ | with_reducible assumption | with_reducible apply Ext.drewN | with_reducible apply Ext.drew | with_reducible apply Ext.alloc | ((with_reducible refine Ext.set ?_ ?_ _); rotate_left; first | omega | (simp; omega)) | (with_reducible refine Ext.trans ?_ (by with_reducible assumption))))⟩
end Go.Proofs.YtnhbogmihnnpjaaGreat
/- Equality of lists of steps and of sequences. -/
namespace Go.Proofs.YtnhbogmihnnpjaaGreat
open Go.RowKit

set_option maxHeartbeats 4000000 in
theorem SameSteps_any (l m : List Stp) (a b : Option Addr) (ca cb : Nat) (w : World) (hl : l.length ≤ maxLen) (hc : CellsP w a l) (hm : m.length ≤ maxLen) (hd : CellsP w b m) :
    Calls Tryz.prog 53 #[.slice a l.length ca, .slice b m.length cb] w fun r w' => r = .returned (.bool (decide (l = m))) ∧ Ext w w' := by
  have HC := Lib.hid hc
  have HD := Lib.hid hd
  clear hc hd
  unfold maxLen at hl hm
  by_cases hlen : l.length = m.length
  · have HLEN := Lib.hid hlen
    have hne : ((l.length : Int) != (m.length : Int)) = false := by simp [hlen]
    have hne2 : (l.length != m.length) = false := by simp [hlen]
    clear hlen
    go_enter Tryz.func53, Tryz.ntmps53
    go_wp2
    go_loopw [5] (fun i wr => ∃ k : Nat, k ≤ l.length ∧ i = .int .i64 k ∧ Hid (∀ j, j < k → l.getD j stp0 = m.getD j stp0) ∧ Ext w wr) (fun i _ => l.length - (intOf i).toNat)
    case atStart => exact ⟨0, Nat.zero_le _, rfl, fun j hj => by omega, Ext.refl _⟩
    case round =>
      obtain ⟨k, hk, rfl, hz, he⟩ := hrel
      by_cases hlt : k < l.length
      · have hlt2 : k < m.length := by have := HLEN.out; omega
        obtain ⟨b1, o1, v1, ha1, p1, hv1, p2⟩ := HC.out.ext he k hlt
        obtain ⟨b2, o2, v2, ha2, q1, hv2, q2⟩ := HD.out.ext he k hlt2
        subst ha1
        subst ha2
        obtain ⟨sa, sc, rfl, hcs, hls⟩ := hv1
        obtain ⟨ta, tc, rfl, hct, hlt'⟩ := hv2
        have HCS := Lib.hid hcs
        have HLS := Lib.hid hls
        have HCT := Lib.hid hct
        have HLT := Lib.hid hlt'
        clear hcs hls hct hlt'
        by_cases hx : l.getD k stp0 = m.getD k stp0
        · have HN : Hid (∀ j, j < k + 1 → l.getD j stp0 = m.getD j stp0) := fun j hj => by
            rcases Nat.lt_or_eq_of_le (Nat.le_of_lt_succ hj) with h | rfl
            · exact hz.out j h
            · exact hx
          have HX := Lib.hid (decide_eq_true hx)
          clear hx hz
          generalize l.getD k stp0 = x at p1 p2 HX HCS HLS
          generalize m.getD k stp0 = y at q1 q2 HX HCT HLT
          obtain ⟨x1, x2⟩ := x
          obtain ⟨y1, y2⟩ := y
          dsimp only at p1 p2 q1 q2 HX HCS HLS HCT HLT
          have z1 := cell_lt p1
          have z2 := cell_lt q1
          dsimp only at z1 z2
          go_wp2
          go_region_held3 (fun w' => Sees wr w') ((repeat (first | exact Sees.refl _ | assumption | apply Sees.drew | apply Sees.alloc | (refine Sees.ext ?_ (by assumption))))) (first | (go_at_call 90; refine (SameR_any x1 y1 x2 y2 sa ta sc tc _ HLS.out (HCS.out.ext (by exact (show Sees wr _ by assumption).2.2)) HLT.out (HCT.out.ext (by exact (show Sees wr _ by assumption).2.2))).mono ?_; rintro e w' ⟨rfl, hE⟩; rw [HX.out]))
          go_wp2
          refine ⟨⟨k + 1, by omega, by go_num, HN, he.trans (show Sees wr _ by assumption).2.2⟩, by simp [intOf]; omega⟩
        · have HN : Hid (decide (l = m) = false) := by
            show _ = _
            rw [decide_eq_false_iff_not]
            rintro rfl
            exact hx rfl
          have HX := Lib.hid (decide_eq_false hx)
          clear hx hz
          generalize l.getD k stp0 = x at p1 p2 HX HCS HLS
          generalize m.getD k stp0 = y at q1 q2 HX HCT HLT
          obtain ⟨x1, x2⟩ := x
          obtain ⟨y1, y2⟩ := y
          dsimp only at p1 p2 q1 q2 HX HCS HLS HCT HLT
          have z1 := cell_lt p1
          have z2 := cell_lt q1
          dsimp only at z1 z2
          go_wp2
          go_region_held3 (fun w' => Sees wr w') ((repeat (first | exact Sees.refl _ | assumption | apply Sees.drew | apply Sees.alloc | (refine Sees.ext ?_ (by assumption))))) (first | (go_at_call 90; refine (SameR_any x1 y1 x2 y2 sa ta sc tc _ HLS.out (HCS.out.ext (by exact (show Sees wr _ by assumption).2.2)) HLT.out (HCT.out.ext (by exact (show Sees wr _ by assumption).2.2))).mono ?_; rintro e w' ⟨rfl, hE⟩; rw [HX.out]))
          go_wp2
          go_ret
          exact ⟨ret_bool HN.out.symm, he.trans (show Sees wr _ by assumption).2.2⟩
      · have HN : Hid (decide (l = m) = true) := by
          show _ = _
          rw [decide_eq_true_eq]
          exact list_ext_getD stp0 HLEN.out (fun j hj => hz.out j (by omega))
        go_wp2
        go_ret
        exact ⟨ret_bool HN.out.symm, (by repeat (first | with_reducible exact Ext.refl _ | with_reducible assumption | with_reducible apply Ext.drewN | with_reducible apply Ext.drew | with_reducible apply Ext.alloc | ((with_reducible refine Ext.set ?_ ?_ _); rotate_left; first | omega | (simp; omega)) | (with_reducible refine Ext.trans ?_ (by with_reducible assumption))))⟩
  · have hne : ((l.length : Int) != (m.length : Int)) = true := by rw [bne_iff_ne]; omega
    have hne2 : (l.length != m.length) = true := by rw [bne_iff_ne]; exact hlen
    have HN : Hid (decide (l = m) = false) := by
      show _ = _
      rw [decide_eq_false_iff_not]
      rintro rfl
      exact hlen rfl
    clear hlen
    go_enter Tryz.func53, Tryz.ntmps53
    go_wp2
    all_goals go_ret
    all_goals exact ⟨ret_bool HN.out.symm, (by repeat (first | with_reducible exact Ext.refl _ | with_reducible assumption | with_reducible apply Ext.drewN | with_reducible apply Ext.drew | with_reducible apply Ext.alloc | ((with_reducible refine Ext.set ?_ ?_ _); rotate_left; first | omega | (simp; omega)) | (with_reducible refine Ext.trans ?_ (by with_reducible assumption))))⟩

set_option maxHeartbeats 2000000 in
theorem SameQ_any (u v : Int) (l m : List Stp) (a b : Option Addr) (ca cb : Nat) (w : World) (hl : l.length ≤ maxLen) (hc : CellsP w a l) (hm : m.length ≤ maxLen) (hd : CellsP w b m) :
    Calls Tryz.prog 18 #[.agg #[.int .i64 u, .slice a l.length ca], .agg #[.int .i64 v, .slice b m.length cb]] w fun r w' => r = .returned (.bool (decide ((u, l) = (v, m)))) ∧ Ext w w' := by
  have HC := Lib.hid hc
  have HD := Lib.hid hd
  have HL := Lib.hid hl
  have HM := Lib.hid hm
  clear hc hd
  unfold maxLen at hl hm
  by_cases h : u = v
  · have HR : Hid (decide ((u, l) = (v, m)) = decide (l = m)) := by show _ = _; subst h; simp
    have h1 : (u == v) = true := by simp [h]
    clear h
    go_enter Tryz.func18, Tryz.ntmps18
    go_wp2_with fail
    have E1 : Ext w ((w.alloc (.cells #[.int .i64 u, .slice a l.length ca] 24)).alloc (.cells #[.int .i64 v, .slice b m.length cb] 24)) := (by repeat (first | with_reducible exact Ext.refl _ | with_reducible assumption | with_reducible apply Ext.drewN | with_reducible apply Ext.drew | with_reducible apply Ext.alloc | ((with_reducible refine Ext.set ?_ ?_ _); rotate_left; first | omega | (simp; omega)) | (with_reducible refine Ext.trans ?_ (by with_reducible assumption))))
    refine (SameSteps_any l m a b ca cb _ HL.out (HC.out.ext E1) HM.out (HD.out.ext E1)).mono ?_
    rintro r w2 ⟨rfl, hE⟩
    go_wp2
    all_goals go_ret
    all_goals exact ⟨ret_bool (by rw [HR.out]), (by repeat (first | with_reducible exact Ext.refl _ | with_reducible assumption | with_reducible apply Ext.drewN | with_reducible apply Ext.drew | with_reducible apply Ext.alloc | ((with_reducible refine Ext.set ?_ ?_ _); rotate_left; first | omega | (simp; omega)) | (with_reducible refine Ext.trans ?_ (by with_reducible assumption))))⟩
  · have HR : Hid (decide ((u, l) = (v, m)) = false) := by show _ = _; simp; intro h2; exact absurd h2 h
    have h1 : (u == v) = false := by simpa using h
    clear h
    go_enter Tryz.func18, Tryz.ntmps18
    go_wp2
    all_goals go_ret
    all_goals exact ⟨ret_bool HR.out.symm, (by repeat (first | with_reducible exact Ext.refl _ | with_reducible assumption | with_reducible apply Ext.drewN | with_reducible apply Ext.drew | with_reducible apply Ext.alloc | ((with_reducible refine Ext.set ?_ ?_ _); rotate_left; first | omega | (simp; omega)) | (with_reducible refine Ext.trans ?_ (by with_reducible assumption))))⟩
end Go.Proofs.YtnhbogmihnnpjaaGreat
/- Equality of strokes, steps and sequences in the program; of lists of ints. -/
namespace Go.Proofs.YtnhbogmihnnpjaaGreat
open Go.RowKit

def CellsI (w : World) (a : Option Addr) (l : List Int) : Prop := ∀ i, i < l.length → ∃ b off, a = some ⟨b, off, none⟩ ∧ w.cell? ⟨b, off + i, none⟩ = some (.int .i64 (l.getD i 0))
theorem CellsI.ext {w w' : World} {a : Option Addr} {l : List Int} (h : CellsI w a l) (he : Ext w w') : CellsI w' a l := fun i hi => by
  obtain ⟨b, off, h1, h2⟩ := h i hi
  exact ⟨b, off, h1, he.cell h2⟩
theorem CellsI.nil (w : World) (a : Option Addr) : CellsI w a [] := fun i hi => by simp at hi
set_option maxHeartbeats 2000000 in
theorem EqualStk_any (l m : List Stk) (a b : Option Addr) (ca cb : Nat) (w : World) (hl : l.length ≤ maxLen) (hc : CellsK w a l) (hm : m.length ≤ maxLen) (hd : CellsK w b m) :
    Calls Tryz.prog 119 #[.slice a l.length ca, .slice b m.length cb] w fun r w' => r = .returned (.bool (decide (l = m))) ∧ Ext w w' := by
  have HC := Lib.hid hc
  have HD := Lib.hid hd
  clear hc hd
  unfold maxLen at hl hm
  by_cases hlen : l.length = m.length
  · have HLEN := Lib.hid hlen
    have hne : ((l.length : Int) != (m.length : Int)) = false := by simp [hlen]
    have hne2 : (l.length != m.length) = false := by simp [hlen]
    clear hlen
    go_enter Tryz.func119, Tryz.ntmps119
    go_wp2
    go_loopw [13] (fun i wr => ∃ k : Nat, k ≤ l.length ∧ i = .int .i64 k ∧ Hid (∀ j, j < k → l.getD j stk0 = m.getD j stk0) ∧ Ext w wr) (fun i _ => l.length - (intOf i).toNat)
    case atStart => exact ⟨0, Nat.zero_le _, rfl, fun j hj => by omega, Ext.refl _⟩
    case round =>
      obtain ⟨k, hk, rfl, hz, he⟩ := hrel
      by_cases hlt : k < l.length
      · have hlt2 : k < m.length := by have := HLEN.out; omega
        obtain ⟨b1, o1, ha1, p1, p2⟩ := HC.out.ext he k hlt
        obtain ⟨b2, o2, ha2, q1, q2⟩ := HD.out.ext he k hlt2
        subst ha1
        subst ha2
        by_cases hx : l.getD k stk0 = m.getD k stk0
        · have HN : Hid (∀ j, j < k + 1 → l.getD j stk0 = m.getD j stk0) := fun j hj => by
            rcases Nat.lt_or_eq_of_le (Nat.le_of_lt_succ hj) with h | rfl
            · exact hz.out j h
            · exact hx
          have hq := fun w => neqStk (l.getD k stk0) (m.getD k stk0) w
          rw [decide_eq_true hx] at hq
          clear hx hz
          generalize l.getD k stk0 = x at p1 p2 hq
          generalize m.getD k stk0 = y at q1 q2 hq
          go_wp2
          go_quiet (fail)
          go_wp2
          refine ⟨⟨k + 1, by omega, by go_num, HN, (by repeat (first | with_reducible exact Ext.refl _ | with_reducible assumption | with_reducible apply Ext.drewN | with_reducible apply Ext.drew | with_reducible apply Ext.alloc | ((with_reducible refine Ext.set ?_ ?_ _); rotate_left; first | omega | (simp; omega)) | (with_reducible refine Ext.trans ?_ (by with_reducible assumption))))⟩, by simp [intOf]; omega⟩
        · have HN : Hid (decide (l = m) = false) := by
            show _ = _
            rw [decide_eq_false_iff_not]
            rintro rfl
            exact hx rfl
          have hq := fun w => neqStk (l.getD k stk0) (m.getD k stk0) w
          rw [decide_eq_false hx] at hq
          clear hx hz
          generalize l.getD k stk0 = x at p1 p2 hq
          generalize m.getD k stk0 = y at q1 q2 hq
          go_wp2
          go_quiet (fail)
          go_wp2
          go_ret
          exact ⟨ret_bool HN.out.symm, (by repeat (first | with_reducible exact Ext.refl _ | with_reducible assumption | with_reducible apply Ext.drewN | with_reducible apply Ext.drew | with_reducible apply Ext.alloc | ((with_reducible refine Ext.set ?_ ?_ _); rotate_left; first | omega | (simp; omega)) | (with_reducible refine Ext.trans ?_ (by with_reducible assumption))))⟩
      · have HN : Hid (decide (l = m) = true) := by
          show _ = _
          rw [decide_eq_true_eq]
          exact list_ext_getD stk0 HLEN.out (fun j hj => hz.out j (by omega))
        go_wp2
        go_ret
        exact ⟨ret_bool HN.out.symm, (by repeat (first | with_reducible exact Ext.refl _ | with_reducible assumption | with_reducible apply Ext.drewN | with_reducible apply Ext.drew | with_reducible apply Ext.alloc | ((with_reducible refine Ext.set ?_ ?_ _); rotate_left; first | omega | (simp; omega)) | (with_reducible refine Ext.trans ?_ (by with_reducible assumption))))⟩
  · have hne : ((l.length : Int) != (m.length : Int)) = true := by rw [bne_iff_ne]; omega
    have hne2 : (l.length != m.length) = true := by rw [bne_iff_ne]; exact hlen
    have HN : Hid (decide (l = m) = false) := by
      show _ = _
      rw [decide_eq_false_iff_not]
      rintro rfl
      exact hlen rfl
    clear hlen
    go_enter Tryz.func119, Tryz.ntmps119
    go_wp2
    all_goals go_ret
    all_goals exact ⟨ret_bool HN.out.symm, (by repeat (first | with_reducible exact Ext.refl _ | with_reducible assumption | with_reducible apply Ext.drewN | with_reducible apply Ext.drew | with_reducible apply Ext.alloc | ((with_reducible refine Ext.set ?_ ?_ _); rotate_left; first | omega | (simp; omega)) | (with_reducible refine Ext.trans ?_ (by with_reducible assumption))))⟩
set_option maxHeartbeats 2000000 in
theorem SameP_any (l m : List Stk) (u v : Int) (a b : Option Addr) (ca cb : Nat) (w : World) (hl : l.length ≤ maxLen) (hc : CellsK w a l) (hm : m.length ≤ maxLen) (hd : CellsK w b m) :
    Calls Tryz.prog 101 #[.agg #[.slice a l.length ca, .int .i64 u], .agg #[.slice b m.length cb, .int .i64 v]] w fun r w' => r = .returned (.bool (decide ((l, u) = (m, v)))) ∧ Ext w w' := by
  have HC := Lib.hid hc
  have HD := Lib.hid hd
  have HL := Lib.hid hl
  have HM := Lib.hid hm
  clear hc hd
  unfold maxLen at hl hm
  by_cases h : u = v
  · have HR : Hid (decide ((l, u) = (m, v)) = decide (l = m)) := by show _ = _; subst h; simp
    have h1 : (u == v) = true := by simp [h]
    clear h
    go_enter Tryz.func101, Tryz.ntmps101
    go_wp2_with fail
    have E1 : Ext w ((w.alloc (.cells #[.slice a l.length ca, .int .i64 u] 87)).alloc (.cells #[.slice b m.length cb, .int .i64 v] 87)) := (by repeat (first | with_reducible exact Ext.refl _ | with_reducible assumption | with_reducible apply Ext.drewN | with_reducible apply Ext.drew | with_reducible apply Ext.alloc | ((with_reducible refine Ext.set ?_ ?_ _); rotate_left; first | omega | (simp; omega)) | (with_reducible refine Ext.trans ?_ (by with_reducible assumption))))
    refine (EqualStk_any l m a b ca cb _ HL.out (HC.out.ext E1) HM.out (HD.out.ext E1)).mono ?_
    rintro r w2 ⟨rfl, hE⟩
    go_wp2
    all_goals go_ret
    all_goals exact ⟨ret_bool (by rw [HR.out]), (by repeat (first | with_reducible exact Ext.refl _ | with_reducible assumption | with_reducible apply Ext.drewN | with_reducible apply Ext.drew | with_reducible apply Ext.alloc | ((with_reducible refine Ext.set ?_ ?_ _); rotate_left; first | omega | (simp; omega)) | (with_reducible refine Ext.trans ?_ (by with_reducible assumption))))⟩
  · have HR : Hid (decide ((l, u) = (m, v)) = false) := by show _ = _; simp; intro _; exact h
    have h1 : (u == v) = false := by simpa using h
    clear h
    go_enter Tryz.func101, Tryz.ntmps101
    go_wp2
    all_goals go_ret
    all_goals exact ⟨ret_bool HR.out.symm, (by repeat (first | with_reducible exact Ext.refl _ | with_reducible assumption | with_reducible apply Ext.drewN | with_reducible apply Ext.drew | with_reducible apply Ext.alloc | ((with_reducible refine Ext.set ?_ ?_ _); rotate_left; first | omega | (simp; omega)) | (with_reducible refine Ext.trans ?_ (by with_reducible assumption))))⟩
set_option maxHeartbeats 2000000 in
theorem SameInts_any (l m : List Int) (a b : Option Addr) (ca cb : Nat) (w : World) (hl : l.length ≤ maxLen) (hc : CellsI w a l) (hm : m.length ≤ maxLen) (hd : CellsI w b m) :
    Calls Tryz.prog 103 #[.slice a l.length ca, .slice b m.length cb] w fun r w' => r = .returned (.bool (decide (l = m))) ∧ Ext w w' := by
  have HC := Lib.hid hc
  have HD := Lib.hid hd
  clear hc hd
  unfold maxLen at hl hm
  by_cases hlen : l.length = m.length
  · have HLEN := Lib.hid hlen
    have hne : ((l.length : Int) != (m.length : Int)) = false := by simp [hlen]
    have hne2 : (l.length != m.length) = false := by simp [hlen]
    clear hlen
    go_enter Tryz.func103, Tryz.ntmps103
    go_wp2
    go_loopw [5] (fun i wr => ∃ k : Nat, k ≤ l.length ∧ i = .int .i64 k ∧ Hid (∀ j, j < k → l.getD j 0 = m.getD j 0) ∧ Ext w wr) (fun i _ => l.length - (intOf i).toNat)
    case atStart => exact ⟨0, Nat.zero_le _, rfl, fun j hj => by omega, Ext.refl _⟩
    case round =>
      obtain ⟨k, hk, rfl, hz, he⟩ := hrel
      by_cases hlt : k < l.length
      · have hlt2 : k < m.length := by have := HLEN.out; omega
        obtain ⟨b1, o1, ha1, p1⟩ := HC.out.ext he k hlt
        obtain ⟨b2, o2, ha2, q1⟩ := HD.out.ext he k hlt2
        subst ha1
        subst ha2
        by_cases hx : l.getD k 0 = m.getD k 0
        · have HN : Hid (∀ j, j < k + 1 → l.getD j 0 = m.getD j 0) := fun j hj => by
            rcases Nat.lt_or_eq_of_le (Nat.le_of_lt_succ hj) with h | rfl
            · exact hz.out j h
            · exact hx
          have hq : (l.getD k 0 != m.getD k 0) = false := by rw [hx]; simp
          clear hx hz
          generalize l.getD k 0 = x at p1 hq
          generalize m.getD k 0 = y at q1 hq
          go_wp2
          go_quiet (fail)
          go_wp2
          refine ⟨⟨k + 1, by omega, by go_num, HN, (by repeat (first | with_reducible exact Ext.refl _ | with_reducible assumption | with_reducible apply Ext.drewN | with_reducible apply Ext.drew | with_reducible apply Ext.alloc | ((with_reducible refine Ext.set ?_ ?_ _); rotate_left; first | omega | (simp; omega)) | (with_reducible refine Ext.trans ?_ (by with_reducible assumption))))⟩, by simp [intOf]; omega⟩
        · have HN : Hid (decide (l = m) = false) := by
            show _ = _
            rw [decide_eq_false_iff_not]
            rintro rfl
            exact hx rfl
          have hq : (l.getD k 0 != m.getD k 0) = true := by rw [bne_iff_ne]; exact hx
          clear hx hz
          generalize l.getD k 0 = x at p1 hq
          generalize m.getD k 0 = y at q1 hq
          go_wp2
          go_quiet (fail)
          go_wp2
          go_ret
          exact ⟨ret_bool HN.out.symm, (by repeat (first | with_reducible exact Ext.refl _ | with_reducible assumption | with_reducible apply Ext.drewN | with_reducible apply Ext.drew | with_reducible apply Ext.alloc | ((with_reducible refine Ext.set ?_ ?_ _); rotate_left; first | omega | (simp; omega)) | (with_reducible refine Ext.trans ?_ (by with_reducible assumption))))⟩
      · have HN : Hid (decide (l = m) = true) := by
          show _ = _
          rw [decide_eq_true_eq]
          exact list_ext_getD 0 HLEN.out (fun j hj => hz.out j (by omega))
        go_wp2
        go_ret
        exact ⟨ret_bool HN.out.symm, (by repeat (first | with_reducible exact Ext.refl _ | with_reducible assumption | with_reducible apply Ext.drewN | with_reducible apply Ext.drew | with_reducible apply Ext.alloc | ((with_reducible refine Ext.set ?_ ?_ _); rotate_left; first | omega | (simp; omega)) | (with_reducible refine Ext.trans ?_ (by with_reducible assumption))))⟩
  · have hne : ((l.length : Int) != (m.length : Int)) = true := by rw [bne_iff_ne]; omega
    have hne2 : (l.length != m.length) = true := by rw [bne_iff_ne]; exact hlen
    have HN : Hid (decide (l = m) = false) := by
      show _ = _
      rw [decide_eq_false_iff_not]
      rintro rfl
      exact hlen rfl
    clear hlen
    go_enter Tryz.func103, Tryz.ntmps103
    go_wp2
    all_goals go_ret
    all_goals exact ⟨ret_bool HN.out.symm, (by repeat (first | with_reducible exact Ext.refl _ | with_reducible assumption | with_reducible apply Ext.drewN | with_reducible apply Ext.drew | with_reducible apply Ext.alloc | ((with_reducible refine Ext.set ?_ ?_ _); rotate_left; first | omega | (simp; omega)) | (with_reducible refine Ext.trans ?_ (by with_reducible assumption))))⟩
set_option maxHeartbeats 2000000 in
theorem EqualInt_any (l m : List Int) (a b : Option Addr) (ca cb : Nat) (w : World) (hl : l.length ≤ maxLen) (hc : CellsI w a l) (hm : m.length ≤ maxLen) (hd : CellsI w b m) :
    Calls Tryz.prog 17 #[.slice a l.length ca, .slice b m.length cb] w fun r w' => r = .returned (.bool (decide (l = m))) ∧ Ext w w' := by
  have HC := Lib.hid hc
  have HD := Lib.hid hd
  clear hc hd
  unfold maxLen at hl hm
  by_cases hlen : l.length = m.length
  · have HLEN := Lib.hid hlen
    have hne : ((l.length : Int) != (m.length : Int)) = false := by simp [hlen]
    have hne2 : (l.length != m.length) = false := by simp [hlen]
    clear hlen
    go_enter Tryz.func17, Tryz.ntmps17
    go_wp2
    go_loopw [13] (fun i wr => ∃ k : Nat, k ≤ l.length ∧ i = .int .i64 k ∧ Hid (∀ j, j < k → l.getD j 0 = m.getD j 0) ∧ Ext w wr) (fun i _ => l.length - (intOf i).toNat)
    case atStart => exact ⟨0, Nat.zero_le _, rfl, fun j hj => by omega, Ext.refl _⟩
    case round =>
      obtain ⟨k, hk, rfl, hz, he⟩ := hrel
      by_cases hlt : k < l.length
      · have hlt2 : k < m.length := by have := HLEN.out; omega
        obtain ⟨b1, o1, ha1, p1⟩ := HC.out.ext he k hlt
        obtain ⟨b2, o2, ha2, q1⟩ := HD.out.ext he k hlt2
        subst ha1
        subst ha2
        by_cases hx : l.getD k 0 = m.getD k 0
        · have HN : Hid (∀ j, j < k + 1 → l.getD j 0 = m.getD j 0) := fun j hj => by
            rcases Nat.lt_or_eq_of_le (Nat.le_of_lt_succ hj) with h | rfl
            · exact hz.out j h
            · exact hx
          have hq : (l.getD k 0 != m.getD k 0) = false := by rw [hx]; simp
          clear hx hz
          generalize l.getD k 0 = x at p1 hq
          generalize m.getD k 0 = y at q1 hq
          go_wp2
          go_quiet (fail)
          go_wp2
          refine ⟨⟨k + 1, by omega, by go_num, HN, (by repeat (first | with_reducible exact Ext.refl _ | with_reducible assumption | with_reducible apply Ext.drewN | with_reducible apply Ext.drew | with_reducible apply Ext.alloc | ((with_reducible refine Ext.set ?_ ?_ _); rotate_left; first | omega | (simp; omega)) | (with_reducible refine Ext.trans ?_ (by with_reducible assumption))))⟩, by simp [intOf]; omega⟩
        · have HN : Hid (decide (l = m) = false) := by
            show _ = _
            rw [decide_eq_false_iff_not]
            rintro rfl
            exact hx rfl
          have hq : (l.getD k 0 != m.getD k 0) = true := by rw [bne_iff_ne]; exact hx
          clear hx hz
          generalize l.getD k 0 = x at p1 hq
          generalize m.getD k 0 = y at q1 hq
          go_wp2
          go_quiet (fail)
          go_wp2
          go_ret
          exact ⟨ret_bool HN.out.symm, (by repeat (first | with_reducible exact Ext.refl _ | with_reducible assumption | with_reducible apply Ext.drewN | with_reducible apply Ext.drew | with_reducible apply Ext.alloc | ((with_reducible refine Ext.set ?_ ?_ _); rotate_left; first | omega | (simp; omega)) | (with_reducible refine Ext.trans ?_ (by with_reducible assumption))))⟩
      · have HN : Hid (decide (l = m) = true) := by
          show _ = _
          rw [decide_eq_true_eq]
          exact list_ext_getD 0 HLEN.out (fun j hj => hz.out j (by omega))
        go_wp2
        go_ret
        exact ⟨ret_bool HN.out.symm, (by repeat (first | with_reducible exact Ext.refl _ | with_reducible assumption | with_reducible apply Ext.drewN | with_reducible apply Ext.drew | with_reducible apply Ext.alloc | ((with_reducible refine Ext.set ?_ ?_ _); rotate_left; first | omega | (simp; omega)) | (with_reducible refine Ext.trans ?_ (by with_reducible assumption))))⟩
  · have hne : ((l.length : Int) != (m.length : Int)) = true := by rw [bne_iff_ne]; omega
    have hne2 : (l.length != m.length) = true := by rw [bne_iff_ne]; exact hlen
    have HN : Hid (decide (l = m) = false) := by
      show _ = _
      rw [decide_eq_false_iff_not]
      rintro rfl
      exact hlen rfl
    clear hlen
    go_enter Tryz.func17, Tryz.ntmps17
    go_wp2
    all_goals go_ret
    all_goals exact ⟨ret_bool HN.out.symm, (by repeat (first | with_reducible exact Ext.refl _ | with_reducible assumption | with_reducible apply Ext.drewN | with_reducible apply Ext.drew | with_reducible apply Ext.alloc | ((with_reducible refine Ext.set ?_ ?_ _); rotate_left; first | omega | (simp; omega)) | (with_reducible refine Ext.trans ?_ (by with_reducible assumption))))⟩
end Go.Proofs.YtnhbogmihnnpjaaGreat
/- sequence.Same; lists of sequences; few. -/
namespace Go.Proofs.YtnhbogmihnnpjaaGreat
open Go.RowKit

set_option maxHeartbeats 4000000 in
theorem EqualFunc_any (l m : List Stp) (a b : Option Addr) (ca cb : Nat) (w : World) (hl : l.length ≤ maxLen) (hc : CellsP w a l) (hm : m.length ≤ maxLen) (hd : CellsP w b m) :
    Calls Tryz.prog 100 #[.slice a l.length ca, .slice b m.length cb, .func (.func 101) #[] #[]] w fun r w' => r = .returned (.bool (decide (l = m))) ∧ Ext w w' := by
  have HC := Lib.hid hc
  have HD := Lib.hid hd
  clear hc hd
  unfold maxLen at hl hm
  by_cases hlen : l.length = m.length
  · have HLEN := Lib.hid hlen
    have hne : ((l.length : Int) != (m.length : Int)) = false := by simp [hlen]
    have hne2 : (l.length != m.length) = false := by simp [hlen]
    clear hlen
    go_enter Tryz.func100, Tryz.ntmps100
    go_wp2
    go_loopw [17] (fun i wr => ∃ k : Nat, k ≤ l.length ∧ i = .int .i64 k ∧ Hid (∀ j, j < k → l.getD j stp0 = m.getD j stp0) ∧ Ext w wr) (fun i _ => l.length - (intOf i).toNat)
    case atStart => exact ⟨0, Nat.zero_le _, rfl, fun j hj => by omega, Ext.refl _⟩
    case round =>
      obtain ⟨k, hk, rfl, hz, he⟩ := hrel
      by_cases hlt : k < l.length
      · have hlt2 : k < m.length := by have := HLEN.out; omega
        obtain ⟨b1, o1, v1, ha1, p1, hv1, p2⟩ := HC.out.ext he k hlt
        obtain ⟨b2, o2, v2, ha2, q1, hv2, q2⟩ := HD.out.ext he k hlt2
        subst ha1
        subst ha2
        obtain ⟨sa, sc, rfl, hcs, hls⟩ := hv1
        obtain ⟨ta, tc, rfl, hct, hlt'⟩ := hv2
        have HCS := Lib.hid hcs
        have HLS := Lib.hid hls
        have HCT := Lib.hid hct
        have HLT := Lib.hid hlt'
        clear hcs hls hct hlt'
        have HE0 := Lib.hid (Ext.refl wr)
        by_cases hx : l.getD k stp0 = m.getD k stp0
        · have HN : Hid (∀ j, j < k + 1 → l.getD j stp0 = m.getD j stp0) := fun j hj => by
            rcases Nat.lt_or_eq_of_le (Nat.le_of_lt_succ hj) with h | rfl
            · exact hz.out j h
            · exact hx
          have HX := Lib.hid (decide_eq_true hx)
          clear hx hz
          generalize l.getD k stp0 = x at p1 p2 HX HCS HLS
          generalize m.getD k stp0 = y at q1 q2 HX HCT HLT
          obtain ⟨x1, x2⟩ := x
          obtain ⟨y1, y2⟩ := y
          dsimp only at p1 p2 q1 q2 HX HCS HLS HCT HLT
          have z1 := cell_lt p1
          have z2 := cell_lt q1
          dsimp only at z1 z2
          go_wp2_with fail
          refine (SameP_any x1 y1 x2 y2 sa ta sc tc _ HLS.out (HCS.out.ext ((HE0.out.alloc _).alloc _)) HLT.out (HCT.out.ext ((HE0.out.alloc _).alloc _))).mono ?_
          rintro e w2 ⟨rfl, hE⟩
          rw [HX.out]
          go_wp2
          refine ⟨⟨k + 1, by omega, by go_num, HN, (by repeat (first | with_reducible exact Ext.refl _ | with_reducible assumption | with_reducible apply Ext.drewN | with_reducible apply Ext.drew | with_reducible apply Ext.alloc | ((with_reducible refine Ext.set ?_ ?_ _); rotate_left; first | omega | (simp; omega)) | (with_reducible refine Ext.trans ?_ (by with_reducible assumption))))⟩, by simp [intOf]; omega⟩
        · have HN : Hid (decide (l = m) = false) := by
            show _ = _
            rw [decide_eq_false_iff_not]
            rintro rfl
            exact hx rfl
          have HX := Lib.hid (decide_eq_false hx)
          clear hx hz
          generalize l.getD k stp0 = x at p1 p2 HX HCS HLS
          generalize m.getD k stp0 = y at q1 q2 HX HCT HLT
          obtain ⟨x1, x2⟩ := x
          obtain ⟨y1, y2⟩ := y
          dsimp only at p1 p2 q1 q2 HX HCS HLS HCT HLT
          have z1 := cell_lt p1
          have z2 := cell_lt q1
          dsimp only at z1 z2
          go_wp2_with fail
          refine (SameP_any x1 y1 x2 y2 sa ta sc tc _ HLS.out (HCS.out.ext ((HE0.out.alloc _).alloc _)) HLT.out (HCT.out.ext ((HE0.out.alloc _).alloc _))).mono ?_
          rintro e w2 ⟨rfl, hE⟩
          rw [HX.out]
          go_wp2
          go_ret
          exact ⟨ret_bool HN.out.symm, (by repeat (first | with_reducible exact Ext.refl _ | with_reducible assumption | with_reducible apply Ext.drewN | with_reducible apply Ext.drew | with_reducible apply Ext.alloc | ((with_reducible refine Ext.set ?_ ?_ _); rotate_left; first | omega | (simp; omega)) | (with_reducible refine Ext.trans ?_ (by with_reducible assumption))))⟩
      · have HN : Hid (decide (l = m) = true) := by
          show _ = _
          rw [decide_eq_true_eq]
          exact list_ext_getD stp0 HLEN.out (fun j hj => hz.out j (by omega))
        go_wp2
        go_ret
        exact ⟨ret_bool HN.out.symm, (by repeat (first | with_reducible exact Ext.refl _ | with_reducible assumption | with_reducible apply Ext.drewN | with_reducible apply Ext.drew | with_reducible apply Ext.alloc | ((with_reducible refine Ext.set ?_ ?_ _); rotate_left; first | omega | (simp; omega)) | (with_reducible refine Ext.trans ?_ (by with_reducible assumption))))⟩
  · have hne : ((l.length : Int) != (m.length : Int)) = true := by rw [bne_iff_ne]; omega
    have hne2 : (l.length != m.length) = true := by rw [bne_iff_ne]; exact hlen
    have HN : Hid (decide (l = m) = false) := by
      show _ = _
      rw [decide_eq_false_iff_not]
      rintro rfl
      exact hlen rfl
    clear hlen
    go_enter Tryz.func100, Tryz.ntmps100
    go_wp2
    all_goals go_ret
    all_goals exact ⟨ret_bool HN.out.symm, (by repeat (first | with_reducible exact Ext.refl _ | with_reducible assumption | with_reducible apply Ext.drewN | with_reducible apply Ext.drew | with_reducible apply Ext.alloc | ((with_reducible refine Ext.set ?_ ?_ _); rotate_left; first | omega | (simp; omega)) | (with_reducible refine Ext.trans ?_ (by with_reducible assumption))))⟩
set_option maxHeartbeats 2000000 in
theorem SeqSame_any (u v : Int) (l m : List Stp) (a b : Option Addr) (ca cb : Nat) (w : World) (hl : l.length ≤ maxLen) (hc : CellsP w a l) (hm : m.length ≤ maxLen) (hd : CellsP w b m) :
    Calls Tryz.prog 67 #[.agg #[.int .i64 u, .slice a l.length ca], .agg #[.int .i64 v, .slice b m.length cb]] w fun r w' => r = .returned (.bool (decide ((u, l) = (v, m)))) ∧ Ext w w' := by
  have HC := Lib.hid hc
  have HD := Lib.hid hd
  have HL := Lib.hid hl
  have HM := Lib.hid hm
  clear hc hd
  unfold maxLen at hl hm
  by_cases h : u = v
  · have HR : Hid (decide ((u, l) = (v, m)) = decide (l = m)) := by show _ = _; subst h; simp
    have h1 : (u == v) = true := by simp [h]
    clear h
    go_enter Tryz.func67, Tryz.ntmps67
    go_wp2_with fail
    have E1 : Ext w ((w.alloc (.cells #[.int .i64 u, .slice a l.length ca] 24)).alloc (.cells #[.int .i64 v, .slice b m.length cb] 24)) := (by repeat (first | with_reducible exact Ext.refl _ | with_reducible assumption | with_reducible apply Ext.drewN | with_reducible apply Ext.drew | with_reducible apply Ext.alloc | ((with_reducible refine Ext.set ?_ ?_ _); rotate_left; first | omega | (simp; omega)) | (with_reducible refine Ext.trans ?_ (by with_reducible assumption))))
    refine (EqualFunc_any l m a b ca cb _ HL.out (HC.out.ext E1) HM.out (HD.out.ext E1)).mono ?_
    rintro r w2 ⟨rfl, hE⟩
    go_wp2
    all_goals go_ret
    all_goals exact ⟨ret_bool (by rw [HR.out]), (by repeat (first | with_reducible exact Ext.refl _ | with_reducible assumption | with_reducible apply Ext.drewN | with_reducible apply Ext.drew | with_reducible apply Ext.alloc | ((with_reducible refine Ext.set ?_ ?_ _); rotate_left; first | omega | (simp; omega)) | (with_reducible refine Ext.trans ?_ (by with_reducible assumption))))⟩
  · have HR : Hid (decide ((u, l) = (v, m)) = false) := by show _ = _; simp; intro h2; exact absurd h2 h
    have h1 : (u == v) = false := by simpa using h
    clear h
    go_enter Tryz.func67, Tryz.ntmps67
    go_wp2
    all_goals go_ret
    all_goals exact ⟨ret_bool HR.out.symm, (by repeat (first | with_reducible exact Ext.refl _ | with_reducible assumption | with_reducible apply Ext.drewN | with_reducible apply Ext.drew | with_reducible apply Ext.alloc | ((with_reducible refine Ext.set ?_ ?_ _); rotate_left; first | omega | (simp; omega)) | (with_reducible refine Ext.trans ?_ (by with_reducible assumption))))⟩

def sq0 : Sq := (0, [])
/-- a list of sequences in memory -/
def CellsQ (w : World) (a : Option Addr) (l : List Sq) : Prop :=
  ∀ i, i < l.length → ∃ b off v, a = some ⟨b, off, none⟩ ∧ w.cell? ⟨b, off + i * 2, none⟩ = some (.int .i64 (l.getD i sq0).1) ∧ w.cell? ⟨b, off + i * 2 + 1, none⟩ = some v ∧ SliceP w v (l.getD i sq0).2
theorem CellsQ.ext {w w' : World} {a : Option Addr} {l : List Sq} (h : CellsQ w a l) (he : Ext w w') : CellsQ w' a l := fun i hi => by
  obtain ⟨b, off, v, h1, h2, h3, h4⟩ := h i hi
  exact ⟨b, off, v, h1, he.cell h2, he.cell h3, h4.ext he⟩

set_option maxHeartbeats 4000000 in
theorem SameAll_any (l m : List Sq) (a b : Option Addr) (ca cb : Nat) (w : World) (hl : l.length ≤ maxLen) (hc : CellsQ w a l) (hm : m.length ≤ maxLen) (hd : CellsQ w b m) :
    Calls Tryz.prog 25 #[.slice a l.length ca, .slice b m.length cb] w fun r w' => r = .returned (.bool (decide (l = m))) ∧ Ext w w' := by
  have HC := Lib.hid hc
  have HD := Lib.hid hd
  clear hc hd
  unfold maxLen at hl hm
  by_cases hlen : l.length = m.length
  · have HLEN := Lib.hid hlen
    have hne : ((l.length : Int) != (m.length : Int)) = false := by simp [hlen]
    have hne2 : (l.length != m.length) = false := by simp [hlen]
    clear hlen
    go_enter Tryz.func25, Tryz.ntmps25
    go_wp2
    go_loopw [5] (fun i wr => ∃ k : Nat, k ≤ l.length ∧ i = .int .i64 k ∧ Hid (∀ j, j < k → l.getD j sq0 = m.getD j sq0) ∧ Ext w wr) (fun i _ => l.length - (intOf i).toNat)
    case atStart => exact ⟨0, Nat.zero_le _, rfl, fun j hj => by omega, Ext.refl _⟩
    case round =>
      obtain ⟨k, hk, rfl, hz, he⟩ := hrel
      by_cases hlt : k < l.length
      · have hlt2 : k < m.length := by have := HLEN.out; omega
        obtain ⟨b1, o1, v1, ha1, p1, p2, hv1⟩ := HC.out.ext he k hlt
        obtain ⟨b2, o2, v2, ha2, q1, q2, hv2⟩ := HD.out.ext he k hlt2
        subst ha1
        subst ha2
        obtain ⟨sa, sc, rfl, hcs, hls⟩ := hv1
        obtain ⟨ta, tc, rfl, hct, hlt'⟩ := hv2
        have HCS := Lib.hid hcs
        have HLS := Lib.hid hls
        have HCT := Lib.hid hct
        have HLT := Lib.hid hlt'
        clear hcs hls hct hlt'
        by_cases hx : l.getD k sq0 = m.getD k sq0
        · have HN : Hid (∀ j, j < k + 1 → l.getD j sq0 = m.getD j sq0) := fun j hj => by
            rcases Nat.lt_or_eq_of_le (Nat.le_of_lt_succ hj) with h | rfl
            · exact hz.out j h
            · exact hx
          have HX := Lib.hid (decide_eq_true hx)
          clear hx hz
          generalize l.getD k sq0 = x at p1 p2 HX HCS HLS
          generalize m.getD k sq0 = y at q1 q2 HX HCT HLT
          obtain ⟨x1, x2⟩ := x
          obtain ⟨y1, y2⟩ := y
          dsimp only at p1 p2 q1 q2 HX HCS HLS HCT HLT
          have z1 := cell_lt p1
          have z2 := cell_lt q1
          dsimp only at z1 z2
          go_wp2
          go_region_held3 (fun w' => Sees wr w') ((repeat (first | exact Sees.refl _ | assumption | apply Sees.drew | apply Sees.alloc | (refine Sees.ext ?_ (by assumption))))) (first | (go_at_call 18; refine (SameQ_any x1 y1 x2 y2 sa ta sc tc _ HLS.out (HCS.out.ext (by exact (show Sees wr _ by assumption).2.2)) HLT.out (HCT.out.ext (by exact (show Sees wr _ by assumption).2.2))).mono ?_; rintro e w' ⟨rfl, hE⟩; rw [HX.out]))
          go_wp2
          refine ⟨⟨k + 1, by omega, by go_num, HN, he.trans (show Sees wr _ by assumption).2.2⟩, by simp [intOf]; omega⟩
        · have HN : Hid (decide (l = m) = false) := by
            show _ = _
            rw [decide_eq_false_iff_not]
            rintro rfl
            exact hx rfl
          have HX := Lib.hid (decide_eq_false hx)
          clear hx hz
          generalize l.getD k sq0 = x at p1 p2 HX HCS HLS
          generalize m.getD k sq0 = y at q1 q2 HX HCT HLT
          obtain ⟨x1, x2⟩ := x
          obtain ⟨y1, y2⟩ := y
          dsimp only at p1 p2 q1 q2 HX HCS HLS HCT HLT
          have z1 := cell_lt p1
          have z2 := cell_lt q1
          dsimp only at z1 z2
          go_wp2
          go_region_held3 (fun w' => Sees wr w') ((repeat (first | exact Sees.refl _ | assumption | apply Sees.drew | apply Sees.alloc | (refine Sees.ext ?_ (by assumption))))) (first | (go_at_call 18; refine (SameQ_any x1 y1 x2 y2 sa ta sc tc _ HLS.out (HCS.out.ext (by exact (show Sees wr _ by assumption).2.2)) HLT.out (HCT.out.ext (by exact (show Sees wr _ by assumption).2.2))).mono ?_; rintro e w' ⟨rfl, hE⟩; rw [HX.out]))
          go_wp2
          go_ret
          exact ⟨ret_bool HN.out.symm, he.trans (show Sees wr _ by assumption).2.2⟩
      · have HN : Hid (decide (l = m) = true) := by
          show _ = _
          rw [decide_eq_true_eq]
          exact list_ext_getD sq0 HLEN.out (fun j hj => hz.out j (by omega))
        go_wp2
        go_ret
        exact ⟨ret_bool HN.out.symm, (by repeat (first | with_reducible exact Ext.refl _ | with_reducible assumption | with_reducible apply Ext.drewN | with_reducible apply Ext.drew | with_reducible apply Ext.alloc | ((with_reducible refine Ext.set ?_ ?_ _); rotate_left; first | omega | (simp; omega)) | (with_reducible refine Ext.trans ?_ (by with_reducible assumption))))⟩
  · have hne : ((l.length : Int) != (m.length : Int)) = true := by rw [bne_iff_ne]; omega
    have hne2 : (l.length != m.length) = true := by rw [bne_iff_ne]; exact hlen
    have HN : Hid (decide (l = m) = false) := by
      show _ = _
      rw [decide_eq_false_iff_not]
      rintro rfl
      exact hlen rfl
    clear hlen
    go_enter Tryz.func25, Tryz.ntmps25
    go_wp2
    all_goals go_ret
    all_goals exact ⟨ret_bool HN.out.symm, (by repeat (first | with_reducible exact Ext.refl _ | with_reducible assumption | with_reducible apply Ext.drewN | with_reducible apply Ext.drew | with_reducible apply Ext.alloc | ((with_reducible refine Ext.set ?_ ?_ _); rotate_left; first | omega | (simp; omega)) | (with_reducible refine Ext.trans ?_ (by with_reducible assumption))))⟩
end Go.Proofs.YtnhbogmihnnpjaaGreat
/- few: not too many steps. -/
namespace Go.Proofs.YtnhbogmihnnpjaaGreat
open Go.RowKit

def fewSt (l : List Stp) : Bool := l.all fun x => decide (x.1.length ≤ 40)
def fewB (l : List Stp) : Bool := decide (l.length ≤ 128) && fewSt l
theorem fewSt_drop {l : List Stp} {k : Nat} (h : k < l.length) {b : Bool} (e : fewSt (l.drop k) = b) : (40 < (l.getD k stp0).1.length ∧ b = false) ∨ ((l.getD k stp0).1.length ≤ 40 ∧ fewSt (l.drop (k + 1)) = b) := by
  rw [drop_cons l stp0 h] at e
  unfold fewSt at e
  rw [List.all_cons] at e
  by_cases c : (l.getD k stp0).1.length ≤ 40
  · rw [decide_eq_true c, Bool.true_and] at e; exact .inr ⟨c, e⟩
  · rw [decide_eq_false c, Bool.false_and] at e; exact .inl ⟨by omega, e.symm⟩
set_option maxHeartbeats 2000000 in
theorem Few_any (n : Value) (l : List Stp) (a : Option Addr) (cap : Nat) (w : World) (hl : l.length ≤ maxLen) (hc : CellsP w a l) :
    Calls Tryz.prog 44 #[.agg #[n, .slice a l.length cap]] w fun r w' => r = .returned (.bool (fewB l)) ∧ Ext w w' := by
  have HC := Lib.hid hc
  clear hc
  unfold maxLen at hl
  by_cases h1 : 128 < l.length
  · have HR : Hid (fewB l = false) := by show _ = _; unfold fewB; rw [decide_eq_false (by omega)]; rfl
    go_enter Tryz.func44, Tryz.ntmps44
    go_wp2
    all_goals go_ret
    all_goals exact ⟨ret_bool HR.out.symm, (by repeat (first | with_reducible exact Ext.refl _ | with_reducible assumption | with_reducible apply Ext.drewN | with_reducible apply Ext.drew | with_reducible apply Ext.alloc | ((with_reducible refine Ext.set ?_ ?_ _); rotate_left; first | omega | (simp; omega)) | (with_reducible refine Ext.trans ?_ (by with_reducible assumption))))⟩
  · have HR : Hid (fewB l = fewSt l) := by show _ = _; unfold fewB; rw [decide_eq_true (by omega)]; rfl
    go_enter Tryz.func44, Tryz.ntmps44
    go_wp2
    have E1 : Ext w (w.alloc (.cells #[n, .slice a l.length cap] 24)) := (by repeat (first | with_reducible exact Ext.refl _ | with_reducible assumption | with_reducible apply Ext.drewN | with_reducible apply Ext.drew | with_reducible apply Ext.alloc | ((with_reducible refine Ext.set ?_ ?_ _); rotate_left; first | omega | (simp; omega)) | (with_reducible refine Ext.trans ?_ (by with_reducible assumption))))
    have e1 : (w.alloc (.cells #[n, .slice a l.length cap] 24)).cell? ⟨w.heap.size, 1, none⟩ = some (.slice a l.length cap) := by go_simp
    generalize w.alloc (.cells #[n, .slice a l.length cap] 24) = W at E1 e1 ⊢
    go_loopw [3] (fun i wr => ∃ k : Nat, k ≤ l.length ∧ i = .int .i64 k ∧ Hid (fewSt (l.drop k) = fewSt l) ∧ Ext W wr) (fun i _ => l.length - (intOf i).toNat)
    case atStart => exact ⟨0, Nat.zero_le _, rfl, by show _ = _; rfl, Ext.refl _⟩
    case round =>
      obtain ⟨k, hk, rfl, hz, he⟩ := hrel
      have d1 := he.cell e1
      by_cases hlt : k < l.length
      · obtain ⟨b, off, v, ha, p1, hv, p2⟩ := HC.out.ext (E1.trans he) k hlt
        subst ha
        obtain ⟨sa, sc, rfl, hcs, hls⟩ := hv
        unfold maxLen at hls
        have HZ := fewSt_drop hlt hz.out
        clear hz hcs
        generalize l.getD k stp0 = y at p1 p2 hls HZ
        obtain ⟨st, wait⟩ := y
        dsimp only at p1 p2 hls HZ
        rcases HZ with ⟨g1, g2⟩ | ⟨g1, g2⟩
        · have G2 := Lib.hid g2
          clear g2
          go_wp2
          go_ret
          exact ⟨ret_bool (by rw [HR.out, G2.out]), (by repeat (first | with_reducible exact Ext.refl _ | with_reducible assumption | with_reducible apply Ext.drewN | with_reducible apply Ext.drew | with_reducible apply Ext.alloc | ((with_reducible refine Ext.set ?_ ?_ _); rotate_left; first | omega | (simp; omega)) | (with_reducible refine Ext.trans ?_ (by with_reducible assumption))))⟩
        · have G2 := Lib.hid g2
          clear g2
          go_wp2
          refine ⟨⟨k + 1, by omega, by go_num, G2, (by repeat (first | with_reducible exact Ext.refl _ | with_reducible assumption | with_reducible apply Ext.drewN | with_reducible apply Ext.drew | with_reducible apply Ext.alloc | ((with_reducible refine Ext.set ?_ ?_ _); rotate_left; first | omega | (simp; omega)) | (with_reducible refine Ext.trans ?_ (by with_reducible assumption))))⟩, by simp [intOf]; omega⟩
      · have hz1 := hz.out
        rw [List.drop_eq_nil_of_le (by omega)] at hz1
        have H2 := Lib.hid hz1
        clear hz1 hz
        go_wp2
        go_ret
        exact ⟨ret_bool (by rw [HR.out, ← H2.out]; rfl), (by repeat (first | with_reducible exact Ext.refl _ | with_reducible assumption | with_reducible apply Ext.drewN | with_reducible apply Ext.drew | with_reducible apply Ext.alloc | ((with_reducible refine Ext.set ?_ ?_ _); rotate_left; first | omega | (simp; omega)) | (with_reducible refine Ext.trans ?_ (by with_reducible assumption))))⟩
theorem fewC_any (n : Value) (l : List Stp) (a : Option Addr) (cap : Nat) (w : World) (hl : l.length ≤ maxLen) (hc : CellsP w a l) :
    Calls Tryz.prog 43 #[.agg #[n, .slice a l.length cap]] w fun r w' => r = .returned (.bool (!fewB l)) ∧ Ext w w' := by
  have HC := Lib.hid hc
  have HL := Lib.hid hl
  clear hc hl
  go_enter Tryz.func43, Tryz.ntmps43
  go_wp2_with fail
  refine (Few_any n l a cap _ HL.out (HC.out.ext ((Ext.refl _).alloc _))).mono ?_
  rintro r w2 ⟨rfl, hE⟩
  go_wp2
  all_goals go_ret
  all_goals exact ⟨ret_bool rfl, (by repeat (first | with_reducible exact Ext.refl _ | with_reducible assumption | with_reducible apply Ext.drewN | with_reducible apply Ext.drew | with_reducible apply Ext.alloc | ((with_reducible refine Ext.set ?_ ?_ _); rotate_left; first | omega | (simp; omega)) | (with_reducible refine Ext.trans ?_ (by with_reducible assumption))))⟩

def badQ (s : Sq) : Bool := !fewB s.2
def AnyPost (b : Bool) (w : World) (e : Ending) (w' : World) : Prop := ∃ r : Int, e = .returned (.int .i64 r) ∧ decide (0 ≤ r) = b ∧ Ext w w'
set_option maxHeartbeats 2000000 in
theorem IndexQ_any (l : List Sq) (a : Option Addr) (cap : Nat) (w : World) (hl : l.length ≤ maxLen) (hc : CellsQ w a l) :
    Calls Tryz.prog 80 #[.slice a l.length cap, .func (.func 43) #[] #[]] w (AnyPost (l.any badQ) w) := by
  unfold maxLen at hl
  have HC := Lib.hid hc
  clear hc
  go_enter Tryz.func80, Tryz.ntmps80
  go_wp2
  go_loopw [8] (fun i wr => ∃ k : Nat, k ≤ l.length ∧ i = .int .i64 k ∧ Hid (∀ j, j < k → badQ (l.getD j sq0) = false) ∧ Ext w wr) (fun i _ => l.length - (intOf i).toNat)
  case atStart => exact ⟨0, Nat.zero_le _, rfl, fun j hj => by omega, Ext.refl _⟩
  case round =>
    obtain ⟨k, hk, rfl, hnn, he⟩ := hrel
    by_cases hlt : k < l.length
    · obtain ⟨b, off, v, ha, p1, p2, hv⟩ := HC.out.ext he k hlt
      subst ha
      obtain ⟨sa, sc, rfl, hcs, hls⟩ := hv
      have HCS := Lib.hid hcs
      have HLS := Lib.hid hls
      have HM : Hid (l.getD k sq0 ∈ l) := by
        show _ ∈ _
        rw [List.getD_eq_getElem?_getD, List.getElem?_eq_getElem hlt]; simp
      clear hcs hls
      generalize hx : l.getD k sq0 = x at p1 p2 HCS HLS HM
      have HX := Lib.hid hx
      clear hx
      obtain ⟨x1, x2⟩ := x
      dsimp only at p1 p2 HCS HLS
      have z1 := cell_lt p1
      dsimp only at z1
      go_wp2_with fail
      refine (fewC_any (.int .i64 x1) x2 sa sc _ HLS.out HCS.out).mono ?_
      rintro e w1 ⟨rfl, hE⟩
      have E1 := he.trans hE
      cases hp : fewB x2
      · have HP := Lib.hid hp
        have HA : Hid (l.any badQ = true) := List.any_eq_true.2 ⟨(x1, x2), HM.out, by unfold badQ; rw [HP.out]; rfl⟩
        go_wp2
        go_ret
        exact ⟨(k : Int), rfl, by rw [HA.out]; simp, E1⟩
      · have HP := Lib.hid hp
        go_wp2
        refine ⟨⟨k + 1, by omega, by go_num, fun j hj => ?_, E1⟩, by simp [intOf]; omega⟩
        rcases Nat.lt_or_eq_of_le (Nat.le_of_lt_succ hj) with h | rfl
        · exact hnn.out j h
        · rw [HX.out]; unfold badQ; rw [HP.out]; rfl
    · have HA : Hid (l.any badQ = false) := by
        show _ = _
        rw [List.any_eq_false]
        intro x hx
        obtain ⟨i, hi, e⟩ := List.mem_iff_getElem.1 hx
        have := hnn.out i (by omega)
        rw [List.getD_eq_getElem?_getD, List.getElem?_eq_getElem hi] at this
        simp at this
        rw [← e, this]; simp
      go_wp2
      go_ret
      exact ⟨-1, rfl, by rw [HA.out]; simp, he⟩
theorem few_any (l : List Sq) (a : Option Addr) (cap : Nat) (w : World) (hl : l.length ≤ maxLen) (hc : CellsQ w a l) :
    Calls Tryz.prog 11 #[.slice a l.length cap] w fun r w' => r = .returned (.bool (!l.any badQ)) ∧ Ext w w' := by
  have HC := Lib.hid hc
  have HL := Lib.hid hl
  clear hc hl
  go_enter Tryz.func11, Tryz.ntmps11
  go_wp2_with fail
  have key : Calls Tryz.prog 42 #[.slice a l.length cap, .func (.func 43) #[] #[]] w fun r w' => r = .returned (.bool (l.any badQ)) ∧ Ext w w' := by
    go_enter Tryz.func42, Tryz.ntmps42
    go_wp2_with fail
    refine (IndexQ_any l a cap _ HL.out HC.out).mono ?_
    rintro e w1 ⟨r, rfl, hr, hE⟩
    have HR := Lib.hid hr
    clear hr
    go_wp2
    all_goals go_ret
    all_goals exact ⟨ret_bool HR.out, hE⟩
  refine key.mono ?_
  rintro r w2 ⟨rfl, hE⟩
  go_wp2
  all_goals go_ret
  all_goals exact ⟨ret_bool rfl, hE⟩
end Go.Proofs.YtnhbogmihnnpjaaGreat
