/- Steps of the proof: QAfter, QChkR, QStepsR, QSame, QSameS, QSameP, QSameF, QFew, QAlong, QEnds, QPauses, QOwnK, AOwK, AWrd, ACyP, ACyc, ATMem, QMapped, QMap, QCopied, QConcat, QConcatP, QFrom, QFromR, QTurnR, QFromRR. No conditions. -/
import Derived.Deep.OwnRows
import Derived.OwnWalk
import Derived.Lib.SliceRun
import Derived.Lib.AppendZeros
import Derived.Test.YtbpjbhbbkonjlaaGreatDoorZTB1
import Derived.Test.YtbpjbhbbkonjlaaGreatDoorZTB2
import Derived.Test.YtbpjbhbbkonjlaaGreatDoorZTB3
import Derived.Test.YtbpjbhbbkonjlaaGreatDoorZTB4
import Derived.Test.YtbpjbhbbkonjlaaGreatDoorZTB5
import Derived.Test.YtbpjbhbbkonjlaaGreatDoorZTB6
import Derived.Test.YtbpjbhbbkonjlaaGreatDoorZTB7
import Derived.Test.YtbpjbhbbkonjlaaGreatDoorZTB8
import Derived.Test.YtbpjbhbbkonjlaaGreatDoorZTB9
namespace Go.Proofs.YtbpjbhbbkonjlaaGreatDoor
open Go.RowKit
theorem infoBool : (Tryz.prog.info? 4).map (fun i => (i.zero, i.size, i.bytes)) = some (some (.bool false), 1, 1) := by kernel_rfl
def BoolsAt (w : World) (p n : Nat) (e : Int → Bool) : Prop := ∀ k : Nat, k < n → w.cell? ⟨p, k, none⟩ = some (.bool (e k)) ∧ w.frozen? ⟨p, k, none⟩ = false
theorem BoolsAt.ext {w w' : World} {p n : Nat} {e : Int → Bool} (h : BoolsAt w p n e) (he : Ext w w') : BoolsAt w' p n e := fun k hk =>
  ⟨he.cell (h k hk).1, (Below.frozen (p := ⟨p, k, none⟩) he (cell_lt (h k hk).1)).trans (h k hk).2⟩
theorem BoolsAt.set {w : World} {p n : Nat} {e : Int → Bool} (h : BoolsAt w p n e) {a : Int} (h0 : 0 ≤ a) (_h6 : a < n) (b : Bool) : BoolsAt (w.setCell ⟨p, a.toNat, none⟩ (.bool b)) p n (fun i => if i = a then b else e i) := fun k hk => by
  refine ⟨?_, by rw [World.frozen?_setCell]; exact (h k hk).2⟩
  by_cases c : k = a.toNat
  · subst c
    rw [World.cell?_setCell_same _ _ _ (h _ hk).1]; show _ = some (Value.bool (if _ then _ else _)); rw [if_pos (by omega)]
  · rw [World.cell?_setCell_other _ _ _ _ (fun x => by simp only [Addr.mk.injEq] at x; omega), (h k hk).1]; show _ = some (Value.bool (if _ then _ else _)); rw [if_neg (by omega)]
theorem BoolsAt.cells {w : World} {p n : Nat} {f : Int → Bool} (h : BoolsAt w p n f) : CellsB w (some ⟨p, 0, none⟩) n f := fun i hi => ⟨p, 0, rfl, by rw [Nat.zero_add]; exact (h i hi).1⟩
def boolsL (n : Nat) (f : Int → Bool) : List Value := (List.range n).map fun i : Nat => Value.bool (f (i : Int))
theorem boolsL_get {n : Nat} {f : Int → Bool} {i : Nat} {u : Value} (h : (boolsL n f)[i]? = some u) : i < n ∧ u = .bool (f i) := by
  unfold boolsL at h
  rw [List.getElem?_map] at h
  by_cases hi : i < n
  · rw [List.getElem?_range hi] at h; exact ⟨hi, by simpa using h.symm⟩
  · rw [List.getElem?_eq_none (by simpa using hi)] at h; cases h
theorem boolsL_at {n : Nat} {f : Int → Bool} {i : Nat} (h : i < n) : (boolsL n f)[i]? = some (.bool (f i)) := by
  unfold boolsL
  rw [List.getElem?_map, List.getElem?_range h]; rfl
def BoolsPost (n : Nat) (f : Int → Bool) (w : World) (r : Ending) (w' : World) : Prop := ∃ g c, r = .returned (.slice (some ⟨g, 0, none⟩) n c) ∧ BoolsAt w' g n f ∧ w.heap.size ≤ g ∧ Ext w w'
theorem rowBools {w : World} {v : Value} {n : Nat} {f : Int → Bool} (h0 : 0 < n) (h : w.ownsRow 0 4 1 v n (boolsL n f)) : ∃ g c, v = .slice (some ⟨g, 0, none⟩) n c ∧ v.ownBlock = some g ∧ BoolsAt w g n f := by
  obtain ⟨a, c, hv, _, hr⟩ := rowReads h
  obtain ⟨g, ha, hg, _, _⟩ := hr 0 _ (boolsL_at h0)
  subst ha
  refine ⟨g, c, hv, hg, fun i hi => ?_⟩
  obtain ⟨b, hb, _, h1, h2⟩ := hr i _ (boolsL_at hi)
  injection hb with hb
  injection hb with hb _ _
  subst hb
  exact ⟨h1, h2⟩
set_option maxHeartbeats 2000000 in
set_option maxRecDepth 100000 in
theorem AfterR_any (l : List Stk) (wait : Int) (a : Option Addr) (cap : Nat) (n : Nat) (f : Int → Bool) (eb eo ec : Nat) (w : World) (hl : l.length ≤ maxLen) (hc : CellsK w a l) (hn : n ≤ 6) (h0 : 0 < n) (he : CellsB w (some ⟨eb, eo, none⟩) n f) (hk : ∀ k, k < l.length → 0 ≤ (l.getD k stk0).1 ∧ (l.getD k stk0).1 < n) :
    Calls Tryz.prog 38 #[.agg #[.slice a l.length cap, .int .i64 wait], .slice (some ⟨eb, eo, none⟩) n ec] w (BoolsPost n (beh f l) w) := by
  have HC := Lib.hid hc
  have HE := Lib.hid he
  have HK := Lib.hid hk
  clear hc he hk
  unfold maxLen at hl
  obtain ⟨i0, hi, hi0, hi1, hi2⟩ := info_parts infoBool
  go_enter Tryz.func38, Tryz.ntmps38
  have E1 : Ext w ((w.alloc (.cells #[.slice a l.length cap, .int .i64 wait] 69)).alloc (.cells #[] 4)) := extA
  have e1 : ((w.alloc (.cells #[.slice a l.length cap, .int .i64 wait] 69)).alloc (.cells #[] 4)).cell? ⟨w.heap.size, 0, none⟩ = some (.slice a l.length cap) := by go_simp
  have hown : ((w.alloc (.cells #[.slice a l.length cap, .int .i64 wait] 69)).alloc (.cells #[] 4)).ownsRow 0 4 1 (.slice (some ⟨w.heap.size + 1, 0, none⟩) 0 0) 0 [] := by
    have := World.ownsRow_made (w := w.alloc (.cells #[.slice a l.length cap, .int .i64 wait] 69)) (base := 0) (e := 4) (size := 1) #[] 0 (Nat.zero_le _) (Nat.zero_le _) rfl
    simpa using this
  have ez : ((w.alloc (.cells #[.slice a l.length cap, .int .i64 wait] 69)).alloc (.cells #[] 4)).heap.size = w.heap.size + 2 := by simp
  go_wp2_with (at_builtin; refine wpList_append1 _ rfl _ _ 80 rfl 4 i0 (.bool false) 1 1 Tryz.underlying80 hi hi0 hi1 hi2 rfl (by decide) (.slice (some ⟨w.heap.size + 1, 0, none⟩) 0 0) 0 [] rfl hown ⟨eb, eo, none⟩ n ec h0 (boolsL n f) rfl ?c0 ?c1 ?c2 ?c3 ?c4 ?c5)
  case c0 => simp [boolsL]
  case c1 =>
    intro j u hu
    obtain ⟨hj, rfl⟩ := boolsL_get hu
    obtain ⟨b, off, hb, hcell⟩ := HE.out.ext E1 j hj
    cases hb
    rw [Addr.add_lit]; exact hcell
  case c2 => intro u hu; unfold boolsL at hu; simp at hu; obtain ⟨i, _, rfl⟩ := hu; rfl
  case c3 => unfold maxLen; omega
  case c4 => omega
  case c5 =>
    intro v' w5 hown5 hend5
    obtain ⟨g, c, rfl, hg, hb⟩ := rowBools h0 hown5
    have B5 : Below (w.heap.size + 1) _ w5 := hend5.below (n := w.heap.size + 1) (by rw [ez]; omega) (fun b hb => by cases hb; exact Nat.le_refl _)
    have G5 := Lib.hid (hend5.ge (n := w.heap.size + 1) (by rw [ez]; omega) (fun b hb => by cases hb; exact Nat.le_refl _) g hg)
    have F5 : Ext w w5 := E1.trans' B5 (by omega)
    have e1 := cellB B5 (p := ⟨w.heap.size, 0, none⟩) (by show w.heap.size < _; omega) e1
    have HB := Lib.hid hb
    have Z5 := Lib.hid B5.size
    clear hown5 hend5 hg hb hown B5 E1 ez
    go_wp2
    go_loopw [6] (fun i wr => ∃ k : Nat, k ≤ l.length ∧ i = .int .i64 k ∧ Below (w.heap.size + 1) w5 wr ∧ Hid (BoolsAt wr g n (beh f (l.take k)))) (fun i _ => l.length - (intOf i).toNat)
    case atStart => exact ⟨0, Nat.zero_le _, rfl, Below.refl _ _, HB⟩
    case round =>
      obtain ⟨k, hk, rfl, hbe, D⟩ := hrel
      have F6 : Ext w wr := F5.trans' hbe (by omega)
      have d1 := cellB hbe (p := ⟨w.heap.size, 0, none⟩) (by show w.heap.size < _; omega) e1
      clear HB
      by_cases hlt : k < l.length
      · obtain ⟨b, off, ha, p1, p2⟩ := HC.out.ext F6 k hlt
        subst ha
        have hkn := HK.out k hlt
        have HB := Lib.hid (beh_take f l hlt)
        generalize l.getD k stk0 = y at p1 p2 hkn HB
        obtain ⟨ya, yo⟩ := y
        dsimp only at p1 p2 hkn HB
        obtain ⟨g0, g6⟩ := hkn
        obtain ⟨m1, m2⟩ := D.out ya.toNat (by omega)
        have hta : ya.toNat < n := by omega
        have z1 := cell_lt p1
        have z2 := cell_lt m1
        dsimp only at z1 z2
        have hG5 := G5.out
        have DN : Hid (BoolsAt (wr.setCell ⟨g, ya.toNat, none⟩ (.bool yo)).drew g n (beh f (l.take (k + 1)))) := by
          show BoolsAt _ _ _ _
          rw [HB.out]
          exact (D.out.set g0 g6 yo).ext (Ext.refl _).drew
        have BN : Below (w.heap.size + 1) w5 (wr.setCell ⟨g, ya.toNat, none⟩ (.bool yo)).drew := (hbe.setCell (p := ⟨g, ya.toNat, none⟩) hG5 _).drew
        go_wp2
        go_still_tail 14, (by kernel_rfl)
        go_wp2
        refine ⟨⟨k + 1, by omega, by go_num, BN, DN⟩, by simp [intOf]; omega⟩
      · have ht : l.take k = l := List.take_of_length_le (by omega)
        rw [ht] at D
        have hG5 := G5.out
        clear ht
        go_wp2
        go_ret
        exact ⟨g, c, rfl, D.out, by omega, F6⟩
theorem same_drop' {f : Int → Bool} {l : List Stk} {k : Nat} (h : k < l.length) {b : Bool} (e : anySame f (l.drop k) = b) : (f (l.getD k stk0).1 == (l.getD k stk0).2) = true ∧ b = true ∨ (f (l.getD k stk0).1 == (l.getD k stk0).2) = false ∧ anySame f (l.drop (k + 1)) = b := by
  have := same_drop h e
  cases c : (f (l.getD k stk0).1 == (l.getD k stk0).2)
  · rw [c, Bool.false_or] at this; exact .inr ⟨rfl, this⟩
  · rw [c, Bool.true_or] at this; exact .inl ⟨rfl, this.symm⟩
set_option maxHeartbeats 2000000 in
theorem SuitsR_any (l : List Stk) (wait : Int) (a : Option Addr) (cap : Nat) (n : Nat) (f : Int → Bool) (ea : Option Addr) (ec : Nat) (w : World) (hl : l.length ≤ maxLen) (hc : CellsK w a l) (_hn : n ≤ 6) (he : CellsB w ea n f) (hk : ∀ k, k < l.length → 0 ≤ (l.getD k stk0).1 ∧ (l.getD k stk0).1 < n) :
    Calls Tryz.prog 37 #[.agg #[.slice a l.length cap, .int .i64 wait], .slice ea n ec] w fun r w' => r = .returned (.bool (!anySame f l)) ∧ Ext w w' := by
  have HC := Lib.hid hc
  have HE := Lib.hid he
  have HK := Lib.hid hk
  clear hc he hk
  unfold maxLen at hl
  go_enter Tryz.func37, Tryz.ntmps37
  go_wp2
  have E1 : Ext w (w.alloc (.cells #[.slice a l.length cap, .int .i64 wait] 69)) := extA
  have e1 : (w.alloc (.cells #[.slice a l.length cap, .int .i64 wait] 69)).cell? ⟨w.heap.size, 0, none⟩ = some (.slice a l.length cap) := by go_simp
  generalize w.alloc (.cells #[.slice a l.length cap, .int .i64 wait] 69) = W at E1 e1 ⊢
  go_loopw [5] (fun i wr => ∃ k : Nat, k ≤ l.length ∧ i = .int .i64 k ∧ Hid (anySame f (l.drop k) = anySame f l) ∧ Ext W wr) (fun i _ => l.length - (intOf i).toNat)
  case atStart => exact ⟨0, Nat.zero_le _, rfl, by show _ = _; rfl, Ext.refl _⟩
  case round =>
    obtain ⟨k, hk, rfl, hz, he⟩ := hrel
    have d1 := he.cell e1
    have y1 := cell_lt d1
    dsimp only at y1
    by_cases hlt : k < l.length
    · obtain ⟨b, off, ha, p1, p2⟩ := HC.out.ext (E1.trans he) k hlt
      subst ha
      have hkn := HK.out k hlt
      have HZ := Lib.hid (same_drop' hlt hz.out)
      clear hz
      generalize l.getD k stk0 = y at p1 p2 hkn HZ
      obtain ⟨ya, yo⟩ := y
      dsimp only at p1 p2 hkn HZ
      obtain ⟨g0, g6⟩ := hkn
      obtain ⟨b', off', hb', m1⟩ := HE.out.ext (E1.trans he) ya.toNat (by omega)
      subst hb'
      rw [Int.toNat_of_nonneg g0] at m1
      have z1 := cell_lt p1
      have z2 := cell_lt m1
      dsimp only at z1 z2
      have hng : decide ((n : Int) ≤ ya) = false := by simp; omega
      rcases HZ.out with ⟨h1, h2⟩ | ⟨h1, h2⟩
      · have H2 := Lib.hid h2
        clear h2 HZ
        go_wp2
        go_quiet (fail)
        go_wp2
        go_ret
        exact ⟨ret_bool (by rw [H2.out]; rfl), extA⟩
      · have H2 := Lib.hid h2
        clear h2 HZ
        go_wp2
        go_quiet (fail)
        go_wp2
        refine ⟨⟨k + 1, by omega, by go_num, H2, extA⟩, by simp [intOf]; omega⟩
    · have hz1 := hz.out
      rw [List.drop_eq_nil_of_le (by omega)] at hz1
      have H2 := Lib.hid hz1
      clear hz1 hz
      go_wp2
      go_ret
      exact ⟨ret_bool (by rw [← H2.out]; rfl), extA⟩
def wayL (a : Int) : List Stk → Int
  | [] => 0
  | y :: l => if y.1 = a then (if y.2 then 1 else -1) else wayL a l
theorem wayL_drop {a : Int} {l : List Stk} {k : Nat} (h : k < l.length) {r : Int} (e : wayL a (l.drop k) = r) : ((l.getD k stk0).1 = a ∧ r = if (l.getD k stk0).2 then 1 else -1) ∨ (((l.getD k stk0).1 == a) = false ∧ wayL a (l.drop (k + 1)) = r) := by
  rw [drop_cons l stk0 h] at e
  unfold wayL at e
  by_cases c : (l.getD k stk0).1 = a
  · rw [if_pos c] at e; exact .inl ⟨c, e.symm⟩
  · rw [if_neg c] at e; exact .inr ⟨by simpa using c, e⟩
set_option maxHeartbeats 2000000 in
theorem WayR_any (l : List Stk) (wait : Int) (x : Int) (a : Option Addr) (cap : Nat) (w : World) (hl : l.length ≤ maxLen) (hc : CellsK w a l) :
    Calls Tryz.prog 39 #[.agg #[.slice a l.length cap, .int .i64 wait], .int .i64 x] w fun r w' => r = .returned (.int .i64 (wayL x l)) ∧ Ext w w' := by
  have HC := Lib.hid hc
  clear hc
  unfold maxLen at hl
  go_enter Tryz.func39, Tryz.ntmps39
  go_wp2
  have E1 : Ext w (w.alloc (.cells #[.slice a l.length cap, .int .i64 wait] 69)) := extA
  have e1 : (w.alloc (.cells #[.slice a l.length cap, .int .i64 wait] 69)).cell? ⟨w.heap.size, 0, none⟩ = some (.slice a l.length cap) := by go_simp
  generalize w.alloc (.cells #[.slice a l.length cap, .int .i64 wait] 69) = W at E1 e1 ⊢
  go_loopw [5] (fun i wr => ∃ k : Nat, k ≤ l.length ∧ i = .int .i64 k ∧ Hid (wayL x (l.drop k) = wayL x l) ∧ Ext W wr) (fun i _ => l.length - (intOf i).toNat)
  case atStart => exact ⟨0, Nat.zero_le _, rfl, by show _ = _; rfl, Ext.refl _⟩
  case round =>
    obtain ⟨k, hk, rfl, hz, he⟩ := hrel
    have d1 := he.cell e1
    by_cases hlt : k < l.length
    · obtain ⟨b, off, ha, p1, p2⟩ := HC.out.ext (E1.trans he) k hlt
      subst ha
      have HZ := Lib.hid (wayL_drop hlt hz.out)
      clear hz
      generalize l.getD k stk0 = y at p1 p2 HZ
      obtain ⟨ya, yo⟩ := y
      dsimp only at p1 p2 HZ
      have z1 := cell_lt p1
      dsimp only at z1
      rcases HZ.out with ⟨h1, h2⟩ | ⟨h1, h2⟩
      · subst h1
        have H2 := Lib.hid h2
        clear h2 HZ
        cases yo
        · go_wp2
          go_ret
          exact ⟨ret_int (by rw [H2.out]; rfl), extA⟩
        · go_wp2
          go_ret
          exact ⟨ret_int (by rw [H2.out]; rfl), extA⟩
      · have H2 := Lib.hid h2
        clear h2 HZ
        go_wp2
        refine ⟨⟨k + 1, by omega, by go_num, H2, extA⟩, by simp [intOf]; omega⟩
    · have hz1 := hz.out
      rw [List.drop_eq_nil_of_le (by omega)] at hz1
      have H2 := Lib.hid hz1
      clear hz1 hz
      go_wp2
      go_ret
      exact ⟨ret_int (by rw [← H2.out]; rfl), extA⟩
theorem wayL_moves (a : Int) (l : List Stk) : (wayL a l != 0) = movesL a l := by
  induction l with
  | nil => rfl
  | cons y l ih =>
    unfold wayL movesL
    rw [List.any_cons]
    by_cases c : y.1 = a
    · rw [if_pos c, c]
      cases y.2 <;> simp
    · have c' : (y.1 == a) = false := by simpa using c
      rw [if_neg c, c', Bool.false_or, ih]; rfl
end Go.Proofs.YtbpjbhbbkonjlaaGreatDoor
namespace Go.Proofs.YtbpjbhbbkonjlaaGreatDoor
open Go.RowKit
theorem makeBools (n : Nat) (hn : n ≤ 64) (w : World) : (Instr.makeSlice 80 (.int .i64 (n : Int)) (.int .i64 (n : Int))).run Tryz.prog w = .ok (.slice (some ⟨w.heap.size, 0, none⟩) n n) (w.alloc (.cells (madeCells #[.bool false] n) 4)) :=
  run_make_row' _ _ (.bool false) 1 Tryz.underlying80 infoBool rfl _ _ n (by omega) (by omega) w
theorem madeBools (w : World) (n : Nat) (t : TypeId) {p : Nat} (hp : w.heap.size = p) : BoolsAt (w.alloc (.cells (madeCells #[.bool false] n) t)) p n none6 := fun k hk => by
  subst hp
  refine ⟨?_, by simp [go_sem]⟩
  rw [World.cell?_alloc_new]
  simp [madeCells, hk, Nat.mod_one, none6]
theorem movedIn_drop {x : Int} {l : List Stp} {k : Nat} (h : k < l.length) {r : Bool} (e : movedIn x (l.drop k) = r) : ((wayL x (l.getD k stp0).1 != 0) = true ∧ r = true) ∨ ((wayL x (l.getD k stp0).1 != 0) = false ∧ movedIn x (l.drop (k + 1)) = r) := by
  rw [drop_cons l stp0 h] at e
  unfold movedIn at e
  rw [List.any_cons] at e
  rw [wayL_moves]
  have : movesIn x (l.getD k stp0) = movesL x (l.getD k stp0).1 := rfl
  rw [this] at e
  cases c : movesL x (l.getD k stp0).1
  · rw [c, Bool.false_or] at e; exact .inr ⟨rfl, e⟩
  · rw [c, Bool.true_or] at e; exact .inl ⟨rfl, e.symm⟩
set_option maxHeartbeats 2000000 in
theorem movesR_any (n : Value) (l : List Stp) (x : Int) (a : Option Addr) (cap : Nat) (w : World) (hl : l.length ≤ maxLen) (hc : CellsP w a l) :
    Calls Tryz.prog 17 #[.agg #[n, .slice a l.length cap], .int .i64 x] w fun r w' => r = .returned (.bool (movedIn x l)) ∧ Ext w w' := by
  have HC := Lib.hid hc
  clear hc
  unfold maxLen at hl
  go_enter Tryz.func17, Tryz.ntmps17
  go_wp2
  have E1 : Ext w (w.alloc (.cells #[n, .slice a l.length cap] 24)) := extA
  have e1 : (w.alloc (.cells #[n, .slice a l.length cap] 24)).cell? ⟨w.heap.size, 1, none⟩ = some (.slice a l.length cap) := by go_simp
  generalize w.alloc (.cells #[n, .slice a l.length cap] 24) = W at E1 e1 ⊢
  go_loopw [5] (fun i wr => ∃ k : Nat, k ≤ l.length ∧ i = .int .i64 k ∧ Hid (movedIn x (l.drop k) = movedIn x l) ∧ Ext W wr) (fun i _ => l.length - (intOf i).toNat)
  case atStart => exact ⟨0, Nat.zero_le _, rfl, by show _ = _; rfl, Ext.refl _⟩
  case round =>
    obtain ⟨k, hk, rfl, hz, he⟩ := hrel
    have d1 := he.cell e1
    by_cases hlt : k < l.length
    · obtain ⟨b, off, v, ha, p1, hv, p2⟩ := HC.out.ext (E1.trans he) k hlt
      subst ha
      obtain ⟨sa, sc, rfl, hcs, hls⟩ := hv
      have HZ := Lib.hid (movedIn_drop hlt hz.out)
      have HCS := Lib.hid hcs
      have HLS := Lib.hid hls
      clear hz hcs hls
      generalize l.getD k stp0 = y at p1 p2 HCS HLS HZ
      obtain ⟨st, wait⟩ := y
      dsimp only at p1 p2 HCS HLS HZ
      have z1 := cell_lt p1
      dsimp only at z1
      rcases HZ.out with ⟨h1, h2⟩ | ⟨h1, h2⟩
      · have H2 := Lib.hid h2
        have H1 := Lib.hid h1
        clear h1 h2 HZ
        go_wp2_with fail
        refine (WayR_any st wait x sa sc _ HLS.out HCS.out).mono ?_
        rintro r w2 ⟨rfl, hE⟩
        have h1 := H1.out
        go_wp2
        go_ret
        exact ⟨ret_bool H2.out.symm, extA⟩
      · have H2 := Lib.hid h2
        have H1 := Lib.hid h1
        clear h1 h2 HZ
        go_wp2_with fail
        refine (WayR_any st wait x sa sc _ HLS.out HCS.out).mono ?_
        rintro r w2 ⟨rfl, hE⟩
        have h1 := H1.out
        go_wp2
        refine ⟨⟨k + 1, by omega, by go_num, H2, extA⟩, by simp [intOf]; omega⟩
    · have hz1 := hz.out
      rw [List.drop_eq_nil_of_le (by omega)] at hz1
      have H2 := Lib.hid hz1
      clear hz1 hz
      go_wp2
      go_ret
      exact ⟨ret_bool (by rw [← H2.out]; rfl), extA⟩
def Fine (n : Int) (l : List Stp) : Prop := ∀ k, k < l.length → ckStep (l.getD k stp0) = 0 ∧ ∀ j, j < (l.getD k stp0).1.length → 0 ≤ ((l.getD k stp0).1.getD j stk0).1 ∧ ((l.getD k stp0).1.getD j stk0).1 < n
theorem ckFit_fine {n : Int} {x : Stp} {e : Int → Bool} (h : ckFit n x e = 0) : ∀ j, j < x.1.length → 0 ≤ (x.1.getD j stk0).1 ∧ (x.1.getD j stk0).1 < n := fun j hj => by
  have hk := ckFit_ok h
  refine ⟨(ckStep_known hk.1 j hj).1, ?_⟩
  have h2 := hk.2.1
  unfold anyHigh at h2
  rw [List.any_eq_false] at h2
  have := h2 (x.1.getD j stk0) (by rw [List.getD_eq_getElem?_getD, List.getElem?_eq_getElem hj]; exact List.getElem_mem hj)
  simp at this
  exact this
theorem ckWalk_fine {n : Int} {l : List Stp} {e : Int → Bool} (h : ckWalk n e l = 0) : Fine n l := by
  induction l generalizing e with
  | nil => intro k hk; simp at hk
  | cons x l ih =>
    have hc := ckWalk_cons h
    by_cases hf : ckFit n x e = 0
    · intro k hk
      cases k with
      | zero => exact ⟨(ckFit_ok hf).1, ckFit_fine hf⟩
      | succ k => exact ih (hc.2 hf) k (by simpa using hk)
    · exact absurd (hc.1 hf).symm hf
end Go.Proofs.YtbpjbhbbkonjlaaGreatDoor
namespace Go.Proofs.YtbpjbhbbkonjlaaGreatDoor
open Go.RowKit
theorem CellsB.at {w : World} {p n : Nat} {f : Int → Bool} (h : BoolsAt w p n f) {k : Nat} (hk : k < n) : w.cell? ⟨p, k, none⟩ = some (.bool (f k)) := (h k hk).1
def stepsE (n : Int) (l : List Stp) : Int := if ckWalk n none6 l ≠ 0 then ckWalk n none6 l else if (ints n).any (behAll none6 l) then 9 else 0
theorem ints_any_of {n : Nat} {f : Int → Bool} {k : Nat} (hk : k < n) (h : f k = true) : (ints (n : Int)).any f = true := by
  unfold ints
  rw [List.any_map, Int.toNat_natCast]
  exact List.any_eq_true.2 ⟨k, List.mem_range.2 hk, h⟩
theorem ints_any_none {n : Nat} {f : Int → Bool} (h : ∀ k : Nat, k < n → f k = false) : (ints (n : Int)).any f = false := by
  unfold ints
  rw [List.any_map, Int.toNat_natCast, List.any_eq_false]
  intro k hk
  simp [h k (List.mem_range.1 hk)]
set_option maxHeartbeats 4000000 in
set_option maxRecDepth 100000 in
theorem stepsR_any (n : Nat) (l : List Stp) (a : Option Addr) (cap : Nat) (w : World) (hl : l.length ≤ maxLen) (hc : CellsP w a l) (h0 : 0 < n) (hn : n ≤ 6) :
    Calls Tryz.prog 16 #[.agg #[.int .i64 (n : Int), .slice a l.length cap]] w fun r w' => r = .returned (.int .i64 (stepsE n l)) ∧ Ext w w' := by
  have HC := Lib.hid hc
  clear hc
  unfold maxLen at hl
  have hmk := makeBools n (by omega)
  go_enter Tryz.func16, Tryz.ntmps16
  go_wp2
  have E1 : Ext w ((w.alloc (.cells #[.int .i64 (n : Int), .slice a l.length cap] 24)).alloc (.cells (madeCells #[.bool false] n) 4)) := extA
  have e0 : ((w.alloc (.cells #[.int .i64 (n : Int), .slice a l.length cap] 24)).alloc (.cells (madeCells #[.bool false] n) 4)).cell? ⟨w.heap.size, 0, none⟩ = some (.int .i64 (n : Int)) := by go_simp
  have e1 : ((w.alloc (.cells #[.int .i64 (n : Int), .slice a l.length cap] 24)).alloc (.cells (madeCells #[.bool false] n) 4)).cell? ⟨w.heap.size, 1, none⟩ = some (.slice a l.length cap) := by go_simp
  have hb : BoolsAt ((w.alloc (.cells #[.int .i64 (n : Int), .slice a l.length cap] 24)).alloc (.cells (madeCells #[.bool false] n) 4)) (w.heap.size + 1) n none6 := madeBools _ n _ (by simp)
  have HB := Lib.hid hb
  clear hb hmk
  generalize ((w.alloc (.cells #[.int .i64 (n : Int), .slice a l.length cap] 24)).alloc (.cells (madeCells #[.bool false] n) 4)) = W at E1 e0 e1 HB ⊢
  go_loopw [4, 3] (fun i v wr => ∃ k : Nat, k ≤ l.length ∧ i = .int .i64 k ∧ (∃ g c, v = .slice (some ⟨g, 0, none⟩) n c ∧ Hid (BoolsAt wr g n (behAll none6 (l.take k)))) ∧ Hid (ckWalk n (behAll none6 (l.take k)) (l.drop k) = ckWalk n none6 l) ∧ Ext W wr) (fun i _ _ => l.length - (intOf i).toNat)
  case atStart => exact ⟨0, Nat.zero_le _, rfl, ⟨w.heap.size + 1, n, rfl, HB⟩, by show _ = _; rfl, Ext.refl _⟩
  case round =>
    obtain ⟨k, hk, rfl, ⟨g, c, rfl, D⟩, hz, he⟩ := hrel
    clear HB
    have d0 := he.cell e0
    have d1 := he.cell e1
    have y1 := cell_lt d1
    dsimp only at y1
    by_cases hlt : k < l.length
    · obtain ⟨b, off, v, ha, p1, hv, p2⟩ := HC.out.ext (E1.trans he) k hlt
      subst ha
      obtain ⟨sa, sc, rfl, hcs, hls⟩ := hv
      have hz1 := hz.out
      rw [drop_cons l stp0 hlt] at hz1
      have HZ := Lib.hid (ckWalk_cons hz1)
      have HT := Lib.hid (behAll_take none6 l hlt)
      have HCS := Lib.hid hcs
      have HLS := Lib.hid hls
      clear hcs hls hz1 hz
      generalize l.getD k stp0 = y at p1 p2 HCS HLS HZ HT
      obtain ⟨st, wait⟩ := y
      dsimp only at p1 p2 HCS HLS HZ HT
      generalize hee : behAll none6 (l.take k) = ee at D HZ HT
      have HEE := Lib.hid hee
      clear hee
      have z1 := cell_lt p1
      dsimp only at z1
      go_wp2_with fail
      have F1 : Ext w (wr.alloc (.cells #[.slice sa st.length sc, .int .i64 wait] 69)) := extA
      have f0 := ((Ext.refl wr).alloc (.cells #[.slice sa st.length sc, .int .i64 wait] 69)).cell d0
      have f1 : (wr.alloc (.cells #[.slice sa st.length sc, .int .i64 wait] 69)).cell? ⟨wr.heap.size, 0, none⟩ = some (.slice sa st.length sc) := by go_simp
      have f2 : (wr.alloc (.cells #[.slice sa st.length sc, .int .i64 wait] 69)).cell? ⟨wr.heap.size, 1, none⟩ = some (.int .i64 wait) := by go_simp
      have ER : Ext wr (wr.alloc (.cells #[.slice sa st.length sc, .int .i64 wait] 69)) := extA
      generalize wr.alloc (.cells #[.slice sa st.length sc, .int .i64 wait] 69) = W1 at F1 ER f0 f1 f2 ⊢
      refine (CheckStepR_any st wait sa sc _ HLS.out (HCS.out.ext ER)).mono ?_
      rintro r w2 ⟨rfl, hE⟩
      have F2 := ER.trans hE
      have f0 := hE.cell f0
      have f1 := hE.cell f1
      have f2 := hE.cell f2
      have HLS6 := HLS.out
      unfold maxLen at HLS6
      by_cases h1 : ckStep (st, wait) = 0
      · rw [h1]
        have HFIT : Hid (ckFit n (st, wait) ee = if anyHigh n st then 6 else if anySame ee st then 14 else 0) := by show _ = _; unfold ckFit; rw [if_neg (by simp [h1])]
        have HS := Lib.hid (ckStep_known h1)
        have h6 : st.length ≤ 6 := (ckStep_strokes h1).2.1
        clear h1
        go_wp2
        obtain ⟨wo, rfl⟩ : ∃ wo : World, wo = wr := ⟨_, rfl⟩
        go_loopw [7] (fun j wr => ∃ q : Nat, q ≤ st.length ∧ j = .int .i64 q ∧ Hid (anyHigh n (st.drop q) = anyHigh n st) ∧ Hid (∀ i, i < q → (st.getD i stk0).1 < n) ∧ Ext w2 wr) (fun j _ => st.length - (intOf j).toNat)
        case atStart => exact ⟨0, Nat.zero_le _, rfl, by show _ = _; rfl, fun i hi => by omega, Ext.refl _⟩
        case round =>
          obtain ⟨q, hq, rfl, hzq, hlow, he2⟩ := hrel
          have g0 := he2.cell f0
          have g1 := he2.cell f1
          have g2 := he2.cell f2
          have FW := F2.trans he2
          by_cases hltq : q < st.length
          · obtain ⟨b', off', ha', q1, q2⟩ := HCS.out.ext FW q hltq
            subst ha'
            have HQ := Lib.hid (high_drop hltq hzq.out)
            have HY : Hid (∀ x, (st.getD q stk0).1 = x → x < n → ∀ i, i < q + 1 → (st.getD i stk0).1 < n) := fun x hx hxn i hi => by
              rcases Nat.lt_or_eq_of_le (Nat.le_of_lt_succ hi) with h | rfl
              · exact hlow.out i h
              · rw [hx]; exact hxn
            clear hzq
            generalize st.getD q stk0 = y at q1 q2 HQ HY
            obtain ⟨ya, yo⟩ := y
            dsimp only at q1 q2 HQ HY
            have zq := cell_lt q1
            dsimp only at zq
            by_cases hh : (n : Int) ≤ ya
            · have HR : Hid (stepsE n l = 6) := by
                show _ = _
                have h := HQ.out
                rw [decide_eq_true hh, Bool.true_or] at h
                have hf := HFIT.out
                rw [if_pos h.symm] at hf
                have h3 := HZ.out.1 (by rw [hf]; decide)
                unfold stepsE
                rw [h3, hf]; rfl
              clear HQ
              go_wp2
              go_quiet (fail)
              go_wp2
              go_ret
              exact ⟨ret_int HR.out.symm, extA⟩
            · have HQ2 : Hid (anyHigh n (st.drop (q + 1)) = anyHigh n st) := by
                show _ = _
                have h := HQ.out
                rw [decide_eq_false hh, Bool.false_or] at h
                exact h
              have HL2 : Hid (∀ i, i < q + 1 → (st.getD i stk0).1 < n) := HY.out ya rfl (by omega)
              clear HQ
              go_wp2
              go_quiet (fail)
              go_wp2
              refine ⟨⟨q + 1, by omega, by go_num, HQ2, HL2, extA⟩, by simp [intOf]; omega⟩
          · have hqe : q = st.length := by omega
            have HFL : Hid (∀ j, j < st.length → 0 ≤ (st.getD j stk0).1 ∧ (st.getD j stk0).1 < n) := fun j hj => ⟨(HS.out j hj).1, hlow.out j (by omega)⟩
            have HF3 : Hid (ckFit n (st, wait) ee = if anySame ee st then 14 else 0) := by
              show _ = _
              have h := hzq.out
              rw [List.drop_eq_nil_of_le (by omega)] at h
              rw [HFIT.out, ← h]; rfl
            clear hzq hlow HFIT hqe
            cases hsame : anySame ee st
            · have HF4 : Hid (ckFit n (st, wait) ee = 0) := by show _ = _; rw [HF3.out, hsame]; rfl
              have HSM := Lib.hid hsame
              clear hsame HF3
              go_wp2_with fail
              refine (SuitsR_any st wait sa sc n ee _ c _ HLS.out (HCS.out.ext FW) hn (D.out.ext FW).cells HFL.out).mono ?_
              rintro r w3 ⟨rfl, hE3⟩
              rw [HSM.out]
              have g1 := hE3.cell g1
              have g2 := hE3.cell g2
              have FW3 := FW.trans hE3
              go_wp2_with fail
              refine (AfterR_any st wait sa sc n ee g 0 c _ HLS.out (HCS.out.ext FW3) hn h0 (D.out.ext FW3).cells HFL.out).mono ?_
              rintro r w4 ⟨g4, c4, rfl, hb4, hg4, hE4⟩
              have DN : Hid (BoolsAt w4 g4 n (behAll none6 (l.take (k + 1)))) := by show BoolsAt _ _ _ _; rw [HT.out]; exact hb4
              have ZN : Hid (ckWalk n (behAll none6 (l.take (k + 1))) (l.drop (k + 1)) = ckWalk n none6 l) := by show _ = _; rw [HT.out]; exact HZ.out.2 HF4.out
              clear hb4 D
              go_wp2
              refine ⟨⟨k + 1, by omega, by go_num, ⟨g4, c4, rfl, DN⟩, ZN, extA⟩, by simp [intOf]; omega⟩
            · have HR : Hid (stepsE n l = 14) := by
                show _ = _
                have hf := HF3.out
                rw [if_pos hsame] at hf
                have h3 := HZ.out.1 (by rw [hf]; decide)
                unfold stepsE
                rw [h3, hf]; rfl
              have HSM := Lib.hid hsame
              clear hsame HF3
              go_wp2_with fail
              refine (SuitsR_any st wait sa sc n ee _ c _ HLS.out (HCS.out.ext FW) hn (D.out.ext FW).cells HFL.out).mono ?_
              rintro r w3 ⟨rfl, hE3⟩
              rw [HSM.out]
              go_wp2
              go_ret
              exact ⟨ret_int HR.out.symm, extA⟩
      · have h1' : (ckStep (st, wait) != 0) = true := by simp [h1]
        have HR : Hid (stepsE n l = ckStep (st, wait)) := by
          show _ = _
          have hf : ckFit n (st, wait) ee = ckStep (st, wait) := by unfold ckFit; rw [if_pos h1]
          have h3 := HZ.out.1 (by rw [hf]; exact h1)
          unfold stepsE
          rw [h3, hf, if_pos h1]
        clear h1
        generalize ckStep (st, wait) = cs at h1' HR
        go_wp2
        go_ret
        exact ⟨ret_int HR.out.symm, extA⟩
    · have hlt' : l.take k = l := List.take_of_length_le (by omega)
      have hz1 := hz.out
      rw [List.drop_eq_nil_of_le (by omega)] at hz1
      have HE : Hid (stepsE n l = if (ints n).any (behAll none6 l) then 9 else 0) := by
        show _ = _
        unfold stepsE
        rw [← hz1]; rfl
      rw [hlt'] at D
      clear hz1 hz hlt'
      generalize behAll none6 l = ee at D HE
      go_wp2
      obtain ⟨wo, rfl⟩ : ∃ wo : World, wo = wr := ⟨_, rfl⟩
      go_loopw [8] (fun j wr => ∃ q : Nat, q ≤ n ∧ j = .int .i64 q ∧ Hid (∀ i : Nat, i < q → ee i = false) ∧ wo = wr) (fun j _ => n - (intOf j).toNat)
      case atStart => exact ⟨0, Nat.zero_le _, rfl, fun i hi => by omega, rfl⟩
      case round =>
        obtain ⟨q, hq, rfl, hlow, rfl⟩ := hrel
        by_cases hltq : q < n
        · have m1 := (D.out q hltq).1
          cases hq1 : ee q
          · have HN : Hid (∀ i : Nat, i < q + 1 → ee i = false) := fun i hi => by
              rcases Nat.lt_or_eq_of_le (Nat.le_of_lt_succ hi) with h | rfl
              · exact hlow.out i h
              · exact hq1
            rw [hq1] at m1
            clear hq1
            go_wp2
            refine ⟨⟨q + 1, by omega, by go_num, HN, trivial⟩, by simp [intOf]; omega⟩
          · have HR : Hid (stepsE n l = 9) := by show _ = _; rw [HE.out, if_pos (ints_any_of hltq hq1)]
            rw [hq1] at m1
            clear hq1
            go_wp2
            go_ret
            exact ⟨ret_int HR.out.symm, extA⟩
        · have HR : Hid (stepsE n l = 0) := by
            show _ = _
            rw [HE.out, ints_any_none (fun i hi => hlow.out i (by omega))]; rfl
          go_wp2
          go_ret
          exact ⟨ret_int HR.out.symm, extA⟩
set_option maxHeartbeats 4000000 in
theorem CheckR_any (n : Int) (l : List Stp) (a : Option Addr) (cap : Nat) (w : World) (hl : l.length ≤ maxLen) (hc : CellsP w a l) :
    Calls Tryz.prog 4 #[.agg #[.int .i64 n, .slice a l.length cap]] w fun r w' => r = .returned (.int .i64 (ckSeq (n, l))) ∧ Ext w w' := by
  have HC := Lib.hid hc
  have HL := Lib.hid hl
  unfold maxLen at hl
  clear hc
  by_cases h1 : n < 1
  · have hf : Hid (ckSeq (n, l) = 2) := by show _ = _; unfold ckSeq; rw [if_pos (Or.inl h1)]
    go_enter Tryz.func4, Tryz.ntmps4
    go_wp2
    all_goals go_ret
    all_goals exact ⟨ret_int hf.out.symm, extA⟩
  by_cases h2 : 6 < n
  · have hf : Hid (ckSeq (n, l) = 2) := by show _ = _; unfold ckSeq; rw [if_pos (Or.inr h2)]
    go_enter Tryz.func4, Tryz.ntmps4
    go_wp2
    all_goals go_ret
    all_goals exact ⟨ret_int hf.out.symm, extA⟩
  by_cases h0 : l.length = 0
  · have hf : Hid (ckSeq (n, l) = 13) := by show _ = _; unfold ckSeq; rw [if_neg (by dsimp only; omega), if_pos h0]
    have h0' : ((l.length : Int) == 0) = true := by simp [h0]
    have h0b : (l.length == 0) = true := by simp [h0]
    go_enter Tryz.func4, Tryz.ntmps4
    go_wp2
    all_goals go_ret
    all_goals exact ⟨ret_int hf.out.symm, extA⟩
  have h0' : ((l.length : Int) == 0) = false := beq_eq_false_iff_ne.2 (by omega)
  have h0b : (l.length == 0) = false := beq_eq_false_iff_ne.2 h0
  by_cases h6 : 64 < l.length
  · have hf : Hid (ckSeq (n, l) = 5) := by show _ = _; unfold ckSeq; rw [if_neg (by dsimp only; omega), if_neg h0, if_pos h6]
    go_enter Tryz.func4, Tryz.ntmps4
    go_wp2
    all_goals go_ret
    all_goals exact ⟨ret_int hf.out.symm, extA⟩
  obtain ⟨N, rfl⟩ := Int.eq_ofNat_of_zero_le (show 0 ≤ n by omega)
  have hf : Hid (ckSeq ((N : Int), l) = if stepsE N l ≠ 0 then stepsE N l else if (ints N).any (fun a => !movedIn a l) then 13 else 0) := by
    show _ = _
    unfold ckSeq stepsE
    rw [if_neg (by dsimp only; omega), if_neg h0, if_neg h6]
    dsimp only
    by_cases c1 : ckWalk N none6 l ≠ 0
    · rw [if_pos c1, if_pos c1, if_pos c1]
    · rw [if_neg c1, if_neg c1]
      by_cases c2 : (ints N).any (behAll none6 l) = true
      · rw [if_pos c2, if_pos c2]; rfl
      · rw [if_neg c2, if_neg c2]; rfl
  clear h0
  have hN1 : 0 < N := by omega
  have hN6 : N ≤ 6 := by omega
  go_enter Tryz.func4, Tryz.ntmps4
  go_wp2_with fail
  have E1 : Ext w (w.alloc (.cells #[.int .i64 (N : Int), .slice a l.length cap] 24)) := extA
  have e0 : (w.alloc (.cells #[.int .i64 (N : Int), .slice a l.length cap] 24)).cell? ⟨w.heap.size, 0, none⟩ = some (.int .i64 (N : Int)) := by go_simp
  have e1 : (w.alloc (.cells #[.int .i64 (N : Int), .slice a l.length cap] 24)).cell? ⟨w.heap.size, 1, none⟩ = some (.slice a l.length cap) := by go_simp
  generalize w.alloc (.cells #[.int .i64 (N : Int), .slice a l.length cap] 24) = W at E1 e0 e1 ⊢
  refine (stepsR_any N l a cap _ HL.out (HC.out.ext E1) hN1 hN6).mono ?_
  rintro r w2 ⟨rfl, hE⟩
  have F2 := E1.trans hE
  have e0 := hE.cell e0
  have e1 := hE.cell e1
  by_cases hs : stepsE N l = 0
  · have HF : Hid (ckSeq ((N : Int), l) = if (ints N).any (fun a => !movedIn a l) then 13 else 0) := by show _ = _; rw [hf.out, if_neg (by simp [hs])]
    rw [hs]
    clear hs hf
    go_wp2
    go_loopw [4] (fun j wr => ∃ q : Nat, q ≤ N ∧ j = .int .i64 q ∧ Hid (∀ i : Nat, i < q → movedIn i l = true) ∧ Ext w2 wr) (fun j _ => N - (intOf j).toNat)
    case atStart => exact ⟨0, Nat.zero_le _, rfl, fun i hi => by omega, Ext.refl _⟩
    case round =>
      obtain ⟨q, hq, rfl, hlow, he⟩ := hrel
      have g0 := he.cell e0
      have g1 := he.cell e1
      by_cases hltq : q < N
      · cases hm : movedIn q l
        · have HR : Hid (ckSeq ((N : Int), l) = 13) := by show _ = _; rw [HF.out, if_pos (ints_any_of hltq (by simp [hm]))]
          have HM := Lib.hid hm
          clear hm
          go_wp2_with fail
          refine (movesR_any _ l q a cap _ HL.out (HC.out.ext (F2.trans he))).mono ?_
          rintro r w3 ⟨rfl, hE3⟩
          rw [HM.out]
          go_wp2
          go_ret
          exact ⟨ret_int HR.out.symm, extA⟩
        · have HN : Hid (∀ i : Nat, i < q + 1 → movedIn i l = true) := fun i hi => by
            rcases Nat.lt_or_eq_of_le (Nat.le_of_lt_succ hi) with h | rfl
            · exact hlow.out i h
            · exact hm
          have HM := Lib.hid hm
          clear hm
          go_wp2_with fail
          refine (movesR_any _ l q a cap _ HL.out (HC.out.ext (F2.trans he))).mono ?_
          rintro r w3 ⟨rfl, hE3⟩
          rw [HM.out]
          go_wp2
          refine ⟨⟨q + 1, by omega, by go_num, HN, extA⟩, by simp [intOf]; omega⟩
      · have HR : Hid (ckSeq ((N : Int), l) = 0) := by
          show _ = _
          rw [HF.out, ints_any_none (fun i hi => by simp [hlow.out i (by omega)])]; rfl
        go_wp2
        go_ret
        exact ⟨ret_int HR.out.symm, extA⟩
  · have hs' : (stepsE N l != 0) = true := by simp [hs]
    have HR : Hid (ckSeq ((N : Int), l) = stepsE N l) := by show _ = _; rw [hf.out, if_pos hs]
    clear hs hf
    generalize stepsE N l = x at hs' HR ⊢
    go_wp2
    go_ret
    exact ⟨ret_int HR.out.symm, extA⟩
end Go.Proofs.YtbpjbhbbkonjlaaGreatDoor
namespace Go.Proofs.YtbpjbhbbkonjlaaGreatDoor
open Go.RowKit
theorem list_ext_getD {α : Type} (d : α) {l m : List α} (hl : l.length = m.length) (h : ∀ j, j < l.length → l.getD j d = m.getD j d) : l = m := by
  apply List.ext_getElem hl
  intro i h1 h2
  have := h i h1
  rw [List.getD_eq_getElem?_getD, List.getD_eq_getElem?_getD, List.getElem?_eq_getElem h1, List.getElem?_eq_getElem h2] at this
  simpa using this
end Go.Proofs.YtbpjbhbbkonjlaaGreatDoor
namespace Go.Proofs.YtbpjbhbbkonjlaaGreatDoor
open Go.RowKit
end Go.Proofs.YtbpjbhbbkonjlaaGreatDoor
namespace Go.Proofs.YtbpjbhbbkonjlaaGreatDoor
open Go.RowKit
end Go.Proofs.YtbpjbhbbkonjlaaGreatDoor
namespace Go.Proofs.YtbpjbhbbkonjlaaGreatDoor
open Go.RowKit
def sq0 : Sq := (0, [])
def CellsQ (w : World) (a : Option Addr) (l : List Sq) : Prop :=
  ∀ i, i < l.length → ∃ b off v, a = some ⟨b, off, none⟩ ∧ w.cell? ⟨b, off + i * 2, none⟩ = some (.int .i64 (l.getD i sq0).1) ∧ w.cell? ⟨b, off + i * 2 + 1, none⟩ = some v ∧ SliceP w v (l.getD i sq0).2
theorem CellsQ.ext {w w' : World} {a : Option Addr} {l : List Sq} (h : CellsQ w a l) (he : Ext w w') : CellsQ w' a l := fun i hi => by
  obtain ⟨b, off, v, h1, h2, h3, h4⟩ := h i hi
  exact ⟨b, off, v, h1, he.cell h2, he.cell h3, h4.ext he⟩
end Go.Proofs.YtbpjbhbbkonjlaaGreatDoor
namespace Go.Proofs.YtbpjbhbbkonjlaaGreatDoor
open Go.RowKit
def AnyPost (b : Bool) (w : World) (e : Ending) (w' : World) : Prop := ∃ r : Int, e = .returned (.int .i64 r) ∧ decide (0 ≤ r) = b ∧ Ext w w'
end Go.Proofs.YtbpjbhbbkonjlaaGreatDoor
namespace Go.Proofs.YtbpjbhbbkonjlaaGreatDoor
open Go.RowKit
attribute [local go_sem] Oper.semAt_some
theorem EndsAt.kept {Kd : Nat → Prop} {n p : Nat} {A B : World} {e : Int → Bool} (h : EndsAt A p e) (k : Kept Kd n A B) (hk : Kd p) : EndsAt B p e := fun i hi =>
  ⟨k.cell (p := ⟨p, i, none⟩) hk (h i hi).1, (k.frozen (p := ⟨p, i, none⟩) hk (h i hi).1).trans (h i hi).2⟩
def Own1 (n : Nat) (A B : World) : Prop := Below n A B ∧ ∀ k, k < A.heap.size → k ≠ n → B.heap[k]? = A.heap[k]?
theorem Own1.ext {n : Nat} {A B : World} (h : Ext A B) (hn : n ≤ A.heap.size) : Own1 n A B := ⟨h.mono hn, fun k hk _ => Below.block h k hk⟩
theorem Own1.six (n : Nat) (A : World) (f : Int → Bool) : Own1 n A ((((((A.setCell ⟨n, 0, none⟩ (.bool (f 0))).setCell ⟨n, 1, none⟩ (.bool (f 1))).setCell ⟨n, 2, none⟩ (.bool (f 2))).setCell ⟨n, 3, none⟩ (.bool (f 3))).setCell ⟨n, 4, none⟩ (.bool (f 4))).setCell ⟨n, 5, none⟩ (.bool (f 5))) :=
  ⟨((((((Below.refl _ _).setCell (p := ⟨n, 0, none⟩) (Nat.le_refl _) _).setCell (p := ⟨n, 1, none⟩) (Nat.le_refl _) _).setCell (p := ⟨n, 2, none⟩) (Nat.le_refl _) _).setCell (p := ⟨n, 3, none⟩) (Nat.le_refl _) _).setCell (p := ⟨n, 4, none⟩) (Nat.le_refl _) _).setCell (p := ⟨n, 5, none⟩) (Nat.le_refl _) _,
   fun k _ hne => by
    rw [Below.heap_setCell _ _ _ _ hne, Below.heap_setCell _ _ _ _ hne, Below.heap_setCell _ _ _ _ hne, Below.heap_setCell _ _ _ _ hne, Below.heap_setCell _ _ _ _ hne, Below.heap_setCell _ _ _ _ hne]⟩
end Go.Proofs.YtbpjbhbbkonjlaaGreatDoor
namespace Go.Proofs.YtbpjbhbbkonjlaaGreatDoor
open Go.RowKit
attribute [local go_sem] Oper.semAt_some
theorem BoolsAt.keep {m p n : Nat} {A B : World} {e : Int → Bool} (h : BoolsAt A p n e) (k : Keep m A B) : BoolsAt B p n e := fun i hi =>
  ⟨k.cell (h i hi).1, (k.frozen (h i hi).1).trans (h i hi).2⟩
structure EndsOut (N : Nat) (f : Int → Bool) (rb eb m n0 : Nat) (w W : World) : Prop where
  be : Ext w W
  r : ∃ g c, W.cell? ⟨rb, 0, none⟩ = some (.slice (some ⟨g, 0, none⟩) N c) ∧ BoolsAt W g N f ∧ g ≠ m ∧ n0 ≤ g
  e : W.cell? ⟨eb, 0, none⟩ = some (.int .i64 0)
theorem ckSeq_zero {n : Int} {l : List Stp} (h : ckSeq (n, l) = 0) : 1 ≤ n ∧ n ≤ 6 ∧ 0 < l.length ∧ l.length ≤ 64 ∧ ckWalk n none6 l = 0 ∧ (ints n).any (behAll none6 l) = false ∧ (ints n).any (fun a => !movedIn a l) = false := by
  unfold ckSeq at h
  by_cases h1 : n < 1 ∨ 6 < n
  · rw [if_pos h1] at h; cases h
  · rw [if_neg h1] at h
    by_cases h2 : l.length = 0
    · rw [if_pos h2] at h; cases h
    · rw [if_neg h2] at h
      by_cases h3 : 64 < l.length
      · rw [if_pos h3] at h; cases h
      · rw [if_neg h3] at h
        dsimp only at h
        by_cases h4 : ckWalk n none6 l ≠ 0
        · rw [if_pos h4] at h; exact absurd h h4
        · rw [if_neg h4] at h
          cases h5 : (ints n).any (behAll none6 l)
          · rw [h5] at h
            cases h6 : (ints n).any (fun a => !movedIn a l)
            · refine ⟨by omega, by omega, by omega, by omega, by omega, rfl, rfl⟩
            · rw [h6] at h; cases h
          · rw [h5] at h; cases h
end Go.Proofs.YtbpjbhbbkonjlaaGreatDoor
namespace Go.Proofs.YtbpjbhbbkonjlaaGreatDoor
open Go.RowKit
end Go.Proofs.YtbpjbhbbkonjlaaGreatDoor
namespace Go.Proofs.YtbpjbhbbkonjlaaGreatDoor
open Go.RowKit
theorem infoStk : (Tryz.prog.info? 46).map (fun i => (i.zero, i.size, i.bytes)) = some (some (.agg #[.int .i64 0, .bool false]), 2, 16) := by kernel_rfl
theorem infoStp : (Tryz.prog.info? 69).map (fun i => (i.zero, i.size, i.bytes)) = some (some (.agg #[.slice none 0 0, .int .i64 0]), 2, 32) := by kernel_rfl
def pairK (l : List Stk) : List (Value × Value) := l.map fun y => (.int .i64 y.1, .bool y.2)
def flatK (l : List Stk) : List Value := flat2 (pairK l)
theorem flatK_length (l : List Stk) : (flatK l).length = l.length * 2 := by unfold flatK; rw [flat2_length]; simp [pairK]
theorem flatK_append (l m : List Stk) : flatK (l ++ m) = flatK l ++ flatK m := by unfold flatK pairK; rw [List.map_append, flat2_append]
theorem flatK_get (l : List Stk) (i : Nat) (h : i < l.length) : (flatK l)[i * 2]? = some (.int .i64 (l.getD i stk0).1) ∧ (flatK l)[i * 2 + 1]? = some (.bool (l.getD i stk0).2) := by
  have := flat2_get (pairK l) i (by simpa [pairK] using h)
  unfold flatK
  rw [this.1, this.2]
  simp [pairK, List.getD, h]
theorem flat2_two {l : List (Value × Value)} {j : Nat} {u : Value} (h : (flat2 l)[j]? = some u) : ∃ i, ∃ hi : i < l.length, (j = i * 2 ∧ u = l[i].1) ∨ (j = i * 2 + 1 ∧ u = l[i].2) := by
  have hj := (List.getElem?_eq_some_iff.1 h).1
  rw [flat2_length] at hj
  have hi : j / 2 < l.length := by omega
  have hg := flat2_get l (j / 2) hi
  refine ⟨j / 2, hi, ?_⟩
  rcases Nat.mod_two_eq_zero_or_one j with h0 | h0
  · have e : j / 2 * 2 = j := by omega
    rw [e] at hg
    exact .inl ⟨e.symm, by rw [hg.1] at h; exact (Option.some.inj h).symm⟩
  · have e : j / 2 * 2 + 1 = j := by omega
    rw [e] at hg
    exact .inr ⟨e.symm, by rw [hg.2] at h; exact (Option.some.inj h).symm⟩
theorem flatK_one (l : List Stk) : ∀ u ∈ flatK l, u.oneCell' = true := by
  intro u hu
  obtain ⟨j, hj, e⟩ := List.mem_iff_getElem.1 hu
  obtain ⟨i, hi, ⟨_, h⟩ | ⟨_, h⟩⟩ := flat2_two (l := pairK l) (j := j) (u := u) (by rw [← e]; exact List.getElem?_eq_getElem hj)
  · rw [h]; simp only [pairK, List.getElem_map]; rfl
  · rw [h]; simp only [pairK, List.getElem_map]; rfl
theorem CellsK.flat {w : World} {b off : Nat} {l : List Stk} (h : CellsK w (some ⟨b, off, none⟩) l) (j : Nat) (u : Value) (hu : (flatK l)[j]? = some u) : w.cell? ((⟨b, off, none⟩ : Addr).add j) = some u := by
  obtain ⟨i, hi, hh⟩ := flat2_two hu
  have hi' : i < l.length := by simpa [pairK] using hi
  obtain ⟨b', off', hb, h1, h2⟩ := h i hi'
  cases hb
  rw [Addr.add_lit]
  rcases hh with ⟨rfl, rfl⟩ | ⟨rfl, rfl⟩
  · rw [h1]; simp [pairK, List.getD, hi']
  · rw [← Nat.add_assoc, h2]; simp [pairK, List.getD, hi']
def OwnsK (w : World) (v : Value) (l : List Stk) : Prop := w.ownsRow 0 46 2 v l.length (flatK l)
theorem OwnsK.nil (w : World) : OwnsK w (.slice none 0 0) [] := World.ownsRow_nil w 0 _ _
theorem OwnsK.ext {A B : World} {v : Value} {l : List Stk} (h : OwnsK A v l) (k : Ext A B) : OwnsK B v l := rowExt h k
theorem OwnsK.reads {A : World} {v : Value} {l : List Stk} (h : OwnsK A v l) : ∃ a cap, v = .slice a l.length cap ∧ CellsK A a l ∧ l.length ≤ maxLen ∧ (∀ b off, a = some ⟨b, off, none⟩ → l ≠ [] → off = 0 ∧ v.ownBlock = some b ∧ ∀ i, i < l.length → A.frozen? ⟨b, i * 2, none⟩ = false ∧ A.frozen? ⟨b, i * 2 + 1, none⟩ = false) := by
  obtain ⟨a, cap, hv, hm, hr⟩ := rowReads h
  refine ⟨a, cap, hv, fun i hi => ?_, hm, fun b off hb hne => ?_⟩
  · obtain ⟨b, hb, _, h1, _⟩ := hr _ _ (flatK_get l i hi).1
    obtain ⟨b', hb', _, h2, _⟩ := hr _ _ (flatK_get l i hi).2
    rw [hb] at hb'
    cases hb'
    exact ⟨b, 0, hb, by rw [Nat.zero_add]; exact h1, by rw [Nat.zero_add]; exact h2⟩
  · have h0 : 0 < l.length := List.length_pos_iff.2 hne
    obtain ⟨b', hb', h3, _, _⟩ := hr _ _ (flatK_get l 0 h0).1
    rw [hb] at hb'
    cases hb'
    refine ⟨rfl, h3, fun i hi => ?_⟩
    obtain ⟨b1, e1, _, _, f1⟩ := hr _ _ (flatK_get l i hi).1
    obtain ⟨b2, e2, _, _, f2⟩ := hr _ _ (flatK_get l i hi).2
    rw [hb] at e1 e2
    cases e1
    cases e2
    exact ⟨f1, f2⟩
theorem OwnsK.slice {A : World} {v : Value} {l : List Stk} (h : OwnsK A v l) : SliceK A v l := by
  obtain ⟨a, cap, h1, h2, h3, _⟩ := h.reads
  exact ⟨a, cap, h1, h2, h3⟩
def StksPost (l : List Stk) (w : World) (e : Ending) (w' : World) : Prop := ∃ v, e = .returned v ∧ OwnsK w' v l ∧ (∀ b, v.ownBlock = some b → w.heap.size ≤ b) ∧ Ext w w'
set_option maxHeartbeats 2000000 in
set_option maxRecDepth 100000 in
theorem CloneK_any (l : List Stk) (eb eo ec : Nat) (w : World) (hn : l.length ≤ 40) (h0 : 0 < l.length) (he : CellsK w (some ⟨eb, eo, none⟩) l) :
    Calls Tryz.prog 85 #[.slice (some ⟨eb, eo, none⟩) l.length ec] w (StksPost l w) := by
  have HE := Lib.hid he
  clear he
  obtain ⟨i0, hi, hi0, hi1, hi2⟩ := info_parts infoStk
  have heq : ∀ w' : World, (binOp .eql 42 (.slice (some ⟨eb, eo, none⟩) l.length ec) (.slice none 0 0)).run Tryz.prog w' = .ok (.bool false) w' := fun w' => Lib.run_eql_slice_nil (P := Tryz.prog) w' 42 46 (some ⟨eb, eo, none⟩) l.length ec 0 0 Tryz.underlying42
  go_enter Tryz.func85, Tryz.ntmps85
  have E1 : Ext w (w.alloc (.cells #[] 46)) := extA
  have hown : (w.alloc (.cells #[] 46)).ownsRow 0 46 2 (.slice (some ⟨w.heap.size, 0, none⟩) 0 0) 0 [] :=
    World.ownsRow_made (w := w) (base := 0) (e := 46) (size := 2) #[] 0 (Nat.zero_le _) (Nat.zero_le _) rfl
  have ez : (w.alloc (.cells #[] 46)).heap.size = w.heap.size + 1 := by simp
  go_wp2_with (at_builtin; refine wpList_append1 _ rfl _ _ 42 rfl 46 i0 (.agg #[.int .i64 0, .bool false]) 2 16 Tryz.underlying42 hi hi0 hi1 hi2 rfl (by decide) (.slice (some ⟨w.heap.size, 0, none⟩) 0 0) 0 [] rfl hown ⟨eb, eo, none⟩ l.length ec h0 (flatK l) rfl ?c0 ?c1 ?c2 ?c3 ?c4 ?c5)
  case c0 => exact flatK_length l
  case c1 => exact (HE.out.ext E1).flat
  case c2 => exact flatK_one l
  case c3 => unfold maxLen; omega
  case c4 => omega
  case c5 =>
    intro v' w5 hown5 hend5
    have O5 : Hid (OwnsK w5 v' l) := by
      show OwnsK _ _ _
      unfold OwnsK
      simpa using hown5
    have F5 : Ext w w5 := E1.trans' (hend5.below (n := w.heap.size) (by rw [ez]; omega) (fun b hb => by cases hb; exact Nat.le_refl _)) (Nat.le_refl _)
    have G5 : Hid (∀ b, v'.ownBlock = some b → w.heap.size ≤ b) := hend5.ge (n := w.heap.size) (by rw [ez]; omega) (fun b hb => by cases hb; exact Nat.le_refl _)
    clear hown5 hend5 hown E1 ez
    go_wp2
    go_ret
    exact ⟨_, rfl, O5.out, G5.out, F5⟩
end Go.Proofs.YtbpjbhbbkonjlaaGreatDoor
namespace Go.Proofs.YtbpjbhbbkonjlaaGreatDoor
open Go.RowKit
end Go.Proofs.YtbpjbhbbkonjlaaGreatDoor
namespace Go.Proofs.YtbpjbhbbkonjlaaGreatDoor
open Go.RowKit
def wordL (l : List Stp) : List Stk := l.flatMap (·.1)
theorem wordL_succ {l : List Stp} {k : Nat} (h : k < l.length) : wordL (l.take (k + 1)) = wordL (l.take k) ++ (l.getD k stp0).1 := by
  unfold wordL
  rw [List.take_succ_eq_append_getElem h, List.flatMap_append, List.getD_eq_getElem?_getD, List.getElem?_eq_getElem h]
  simp
theorem wordL_len {n : Int} {l : List Stp} (h : Fine n l) : ∀ k, k ≤ l.length → (wordL (l.take k)).length ≤ 6 * k := by
  intro k
  induction k with
  | zero => intro _; simp [wordL]
  | succ k ih =>
    intro hk
    have := ih (by omega)
    have h2 := (ckStep_strokes (h k (by omega)).1).2.1
    rw [wordL_succ (by omega), List.length_append]
    omega
theorem ownsK_app {w : World} {v : Value} {l m : List Stk} (h : w.ownsRow 0 46 2 v (l.length + m.length) (flatK l ++ flatK m)) : OwnsK w v (l ++ m) := by
  unfold OwnsK
  rw [List.length_append, flatK_append]; exact h
set_option maxHeartbeats 8000000 in
set_option maxRecDepth 100000 in
theorem Word_any (n : Int) (l : List Stp) (a : Option Addr) (cap : Nat) (w : World) (hl : l.length ≤ maxLen) (hc : CellsP w a l) :
    Calls Tryz.prog 12 #[.agg #[.int .i64 n, .slice a l.length cap]] w fun e w' => ∃ v, e = .returned (.tuple #[v, .int .i64 (ckSeq (n, l))]) ∧ OwnsK w' v (if ckSeq (n, l) = 0 then wordL l else []) ∧ (∀ b, v.ownBlock = some b → w.heap.size ≤ b) ∧ Ext w w' := by
  have HC := Lib.hid hc
  have HL := Lib.hid hl
  obtain ⟨er, her⟩ : ∃ er, er = ckSeq (n, l) := ⟨_, rfl⟩
  obtain ⟨R, hR⟩ : ∃ R, R = if er = 0 then wordL l else [] := ⟨_, rfl⟩
  rw [← her, ← hR]
  have HER := Lib.hid her
  have HR := Lib.hid hR
  clear hc her hR hl
  obtain ⟨i0, hi, hi0, hi1, hi2⟩ := info_parts infoStk
  go_enter Tryz.func12, Tryz.ntmps12
  go_wp2_with fail
  have E1 : Ext w (w.alloc (.cells #[.int .i64 n, .slice a l.length cap] 24)) := extA
  have c0 : ((w.alloc (.cells #[.int .i64 n, .slice a l.length cap] 24))).cell? ⟨w.heap.size, 0, none⟩ = some (.int .i64 n) := by go_simp
  have c1 : ((w.alloc (.cells #[.int .i64 n, .slice a l.length cap] 24))).cell? ⟨w.heap.size, 1, none⟩ = some (.slice a l.length cap) := by go_simp
  generalize (w.alloc (.cells #[.int .i64 n, .slice a l.length cap] 24)) = W at E1 c0 c1 ⊢
  refine (Check_any n l a cap _ HL.out (HC.out.ext E1)).mono ?_
  rintro e w1 ⟨rfl, hE⟩
  rw [← HER.out]
  have E2 := E1.trans hE
  have c0 := (hE).cell c0
  have c1 := (hE).cell c1
  clear hE
  by_cases h0 : er = 0
  · subst h0
    have hck := HER.out.symm
    obtain ⟨hN1, hN6, hl0, hl64, hwk, _, _⟩ := ckSeq_zero hck
    have HFI := Lib.hid (ckWalk_fine hwk)
    have hR := HR.out
    rw [if_pos rfl] at hR
    have HRR : Hid (wordL (l.take l.length) = R) := by show _ = _; rw [List.take_length]; exact hR.symm
    have zw := cell_lt c0
    dsimp only at zw
    clear hck hwk HER HR hR
    go_wp2
    go_loopw [16, 5] (fun i v wr => ∃ k : Nat, k ≤ l.length ∧ i = .int .i64 k ∧ (∃ vv, v = vv ∧ Hid (OwnsK wr vv (wordL (l.take k)) ∧ ∀ b, vv.ownBlock = some b → w1.heap.size ≤ b)) ∧ Ext w1 wr) (fun i _ _ => l.length - (intOf i).toNat)
    case atStart => exact ⟨0, Nat.zero_le _, rfl, ⟨_, rfl, OwnsK.nil _, fun b hb => by cases hb⟩, Ext.refl _⟩
    case round =>
      obtain ⟨k, hk, rfl, ⟨vv, hvv, hO⟩, he⟩ := hrel
      obtain rfl := hvv.symm
      have E3 := E2.trans he
      by_cases hlt : k < l.length
      · obtain ⟨b, off, v, ha, p1, hv, p2⟩ := HC.out k hlt
        subst ha
        have HFK := HFI.out k hlt
        have hst := ckStep_strokes HFK.1
        have hst6 := hst.2.1
        have hst0 := hst.2.2.1
        have HWS := Lib.hid (wordL_succ hlt)
        have hwl := wordL_len HFI.out k (by omega)
        obtain ⟨sa, sc, rfl, hcs, hls⟩ := hv
        have p1 := E3.cell p1
        have p2 := E3.cell p2
        generalize l.getD k stp0 = x at p1 p2 hcs hls HWS hst6 hst0
        obtain ⟨st, wj⟩ := x
        dsimp only at p1 p2 hcs hls HWS hst6 hst0
        obtain ⟨kb, ko, ha, _, _⟩ := hcs 0 hst0
        subst ha
        have HCS := Lib.hid hcs
        have O2 := Lib.hid hO.out.1
        have OB := Lib.hid hO.out.2
        have hsz := he.size
        have zb := cell_lt p1
        dsimp only at zb
        clear hcs hls hO HFK hst
        generalize wordL (l.take k) = P at O2 HWS hwl
        have ES : Ext wr (wr.alloc (.cells #[.slice (some ⟨kb, ko, none⟩) st.length sc, .int .i64 wj] 69)) := extA
        have hO5 : Hid (OwnsK (wr.alloc (.cells #[.slice (some ⟨kb, ko, none⟩) st.length sc, .int .i64 wj] 69)) vv P) := O2.out.ext ES
        have hfl : Hid (∀ j u, (flatK st)[j]? = some u → (wr.alloc (.cells #[.slice (some ⟨kb, ko, none⟩) st.length sc, .int .i64 wj] 69)).cell? ((⟨kb, ko, none⟩ : Addr).add j) = some u) := fun j u hu => (HCS.out.ext (E3.trans ES)).flat j u hu
        go_wp2_with (at_builtin; refine wpList_append1 _ rfl _ _ 42 rfl 46 i0 (.agg #[.int .i64 0, .bool false]) 2 16 Tryz.underlying42 hi hi0 hi1 hi2 rfl (by decide) vv P.length (flatK P) rfl hO5.out ⟨kb, ko, none⟩ st.length sc hst0 (flatK st) rfl (flatK_length st) hfl.out (flatK_one st) ?c2 ?c3 ?c4)
        case c2 => unfold maxLen; omega
        case c3 => omega
        case c4 =>
          intro v' w5 hown5 hend5
          have O5 : Hid (OwnsK w5 v' (wordL (l.take (k + 1)))) := by show OwnsK _ _ _; rw [HWS.out]; exact ownsK_app hown5
          have B5 : Ext w1 w5 := (he.trans ES).trans' (hend5.below (n := w1.heap.size) (by simp; omega) OB.out) (Nat.le_refl _)
          have OB5 : Hid (∀ b, v'.ownBlock = some b → w1.heap.size ≤ b) := hend5.ge (n := w1.heap.size) (by simp; omega) OB.out
          clear hown5 hend5 O2 OB HWS hO5 hfl
          go_wp2
          refine ⟨⟨k + 1, by omega, by go_num, ⟨v', rfl, O5.out, OB5.out⟩, B5⟩, by simp [intOf]; omega⟩
      · have hke : k = l.length := by omega
        subst hke
        have hO1 := hO.out.1
        rw [HRR.out] at hO1
        have HO1 := Lib.hid hO1
        have HO2 := Lib.hid hO.out.2
        have hsz := E2.size
        clear hO hO1
        go_wp2
        go_ret2
        exact ⟨_, rfl, HO1.out, fun b hb => by have := HO2.out b hb; omega, E3⟩
  · have hn : (er != 0) = true := by simp [h0]
    have hR := HR.out
    rw [if_neg h0] at hR
    subst hR
    clear h0 HER HR
    go_wp2
    go_ret2
    exact ⟨.slice none 0 0, rfl, OwnsK.nil _, (fun b hb => by cases hb), E2⟩
end Go.Proofs.YtbpjbhbbkonjlaaGreatDoor
namespace Go.Proofs.YtbpjbhbbkonjlaaGreatDoor
open Go.RowKit
def cylsE : List Cyl → Nat
  | [] => 0
  | c :: l => if cylE c ≠ 0 then cylE c else cylsE l
def strN (l : List Cyl) (p : Int) : List Stk → Int
  | [] => 0
  | x :: r => litN (l.getD x.1.toNat cyl0) x.2 p + strN l p r
def cycS (l : List Cyl) (n : Int) (st : List Stp) (p : Int) : Enc × Int :=
  if ckSeq (n, st) ≠ 0 then (([], []), ckSeq (n, st)) else if (l.length : Int) ≠ n then (([], []), 8) else if cylsE l ≠ 0 then (([], []), (cylsE l : Nat)) else if presE1 p ≠ 0 then (([], []), (presE1 p : Nat)) else (sumT (strN l p (wordL st)), 0)
def CycP (r : Enc × Int) (w : World) (e : Ending) (w' : World) : Prop := e = .returned (.tuple #[encV r.1, .int .i64 r.2]) ∧ Ext w w'
theorem cylsE_drop {l : List Cyl} {k : Nat} (h : k < l.length) : cylsE (l.drop k) = if cylE (l.getD k cyl0) ≠ 0 then cylE (l.getD k cyl0) else cylsE (l.drop (k + 1)) := by
  conv => lhs; rw [drop_consA l cyl0 h]
  rfl
theorem cylsE_zero {l : List Cyl} (h : cylsE l = 0) : ∀ c ∈ l, CylOk c := by
  induction l with
  | nil => intro c hc; cases hc
  | cons d l ih =>
    unfold cylsE at h
    split at h
    · rename_i h1; exact absurd h h1
    · rename_i h1
      intro c hc
      rcases List.mem_cons.1 hc with rfl | hc
      · exact cylOk_of (by omega)
      · exact ih h c hc
theorem strN_append (l : List Cyl) (p : Int) (a b : List Stk) : strN l p (a ++ b) = strN l p a + strN l p b := by
  induction a with
  | nil => simp [strN]
  | cons x a ih => simp only [List.cons_append, strN, ih]; omega
theorem strN_take (l : List Cyl) (p : Int) {w : List Stk} {k : Nat} (h : k < w.length) : strN l p (w.take (k + 1)) = strN l p (w.take k) + litN (l.getD (w.getD k stk0).1.toNat cyl0) (w.getD k stk0).2 p := by
  rw [take_snoc stk0 h, strN_append]
  simp [strN]
theorem strN_bd {l : List Cyl} {p : Int} (hc : ∀ c ∈ l, CylOk c) (h1 : 1 ≤ p) (h2 : p ≤ 2000) : ∀ w : List Stk, (∀ x ∈ w, x.1.toNat < l.length) → 0 ≤ strN l p w ∧ strN l p w ≤ w.length * 1575750000000 := by
  intro w
  induction w with
  | nil => intro _; simp [strN]
  | cons x w ih =>
    intro h
    obtain ⟨g1, g2⟩ := ih fun y hy => h y (List.mem_cons_of_mem _ hy)
    have hx := h x (by simp)
    obtain ⟨b1, b2⟩ := litN_bd (hc (l.getD x.1.toNat cyl0) (getD_inA hx)) x.2 h1 h2
    unfold strN
    rw [List.length_cons]
    push_cast
    omega
theorem word_in {n : Int} {st : List Stp} (h : Fine n st) : ∀ x ∈ wordL st, 0 ≤ x.1 ∧ x.1 < n := by
  intro x hx
  unfold wordL at hx
  obtain ⟨s, hs, hxs⟩ := List.mem_flatMap.1 hx
  obtain ⟨k, hk, rfl⟩ := List.mem_iff_getElem.1 hs
  have h1 := (h k hk).2
  obtain ⟨j, hj, rfl⟩ := List.mem_iff_getElem.1 hxs
  have e : st.getD k stp0 = st[k] := by rw [List.getD_eq_getElem?_getD, List.getElem?_eq_getElem hk]; rfl
  rw [e] at h1
  have h2 := h1 j hj
  rw [List.getD_eq_getElem?_getD, List.getElem?_eq_getElem hj] at h2
  exact h2
theorem word_len {n : Int} {st : List Stp} (h : Fine n st) (hl : st.length ≤ 64) : (wordL st).length ≤ 384 := by
  have := wordL_len h st.length (Nat.le_refl _)
  rw [List.take_length] at this
  omega
structure CycOk (l : List Cyl) (n : Int) (st : List Stp) (p : Int) : Prop where
  len : (l.length : Int) = n
  n1 : 1 ≤ n
  n6 : n ≤ 6
  s64 : st.length ≤ 64
  fine : Fine n st
  cyl : ∀ c ∈ l, CylOk c
  p1 : 1 ≤ p
  p2 : p ≤ 2000
theorem CycOk.at {l : List Cyl} {n : Int} {st : List Stp} {p : Int} (h : CycOk l n st p) {k : Nat} (hk : k < (wordL st).length) :
    ∃ i : Nat, ((wordL st).getD k stk0).1 = (i : Int) ∧ i < l.length ∧ CylOk (l.getD i cyl0) ∧ (∀ o, 0 ≤ litN (l.getD i cyl0) o p ∧ litN (l.getD i cyl0) o p ≤ 1575750000000) := by
  have h1 := word_in h.fine _ (getD_inA (d := stk0) hk)
  have h2 := h.len
  have hi : ((wordL st).getD k stk0).1.toNat < l.length := by omega
  have hc := h.cyl _ (getD_inA (d := cyl0) hi)
  exact ⟨_, (Int.toNat_of_nonneg h1.1).symm, hi, hc, fun o => litN_bd hc o h.p1 h.p2⟩
theorem CycOk.bd {l : List Cyl} {n : Int} {st : List Stp} {p : Int} (h : CycOk l n st p) (k : Nat) : 0 ≤ strN l p ((wordL st).take k) ∧ strN l p ((wordL st).take k) ≤ 384 * 1575750000000 := by
  obtain ⟨g1, g2⟩ := strN_bd h.cyl h.p1 h.p2 ((wordL st).take k) (fun x hx => by
    have h1 := word_in h.fine x (List.mem_of_mem_take hx)
    have h2 := h.len
    omega)
  have h3 := word_len h.fine h.s64
  have h4 : ((wordL st).take k).length ≤ 384 := by rw [List.length_take]; omega
  refine ⟨g1, ?_⟩
  have : (((wordL st).take k).length : Int) * 1575750000000 ≤ 384 * 1575750000000 := Int.mul_le_mul_of_nonneg_right (by omega) (by omega)
  omega
end Go.Proofs.YtbpjbhbbkonjlaaGreatDoor
namespace Go.Proofs.YtbpjbhbbkonjlaaGreatDoor
open Go.RowKit
set_option maxHeartbeats 16000000 in
set_option maxRecDepth 100000 in
theorem aCycle_any (l : List Cyl) (n : Int) (st : List Stp) (p : Int) (ca : Option Addr) (cc : Nat) (a : Option Addr) (cap : Nat) (w : World) (hG : Glob w) (hl : l.length ≤ 9223372036854775807) (hc : CellsC w ca l) (hs : CellsP w a st) (hsl : st.length ≤ maxLen) :
    Calls Tryz.prog 9 #[.slice ca l.length cc, .agg #[.int .i64 n, .slice a st.length cap], .int .i64 p] w (CycP (cycS l n st p) w) := by
  have HG := Lib.hid hG
  have HC := Lib.hid hc
  have HWD := Lib.hid (fun W (g : Ext w W) => Word_any n st a cap W hsl (hs.ext g))
  have HCK := Lib.hid (fun c W => aCheck_any c W)
  have HPR := Lib.hid (fun W => aPress_any p W)
  have HPT : Hid (∀ W, Ext w W → Calls Tryz.prog 11 #[txt [48]] W (EncP (([48], [48]), 0) W)) := fun W g => by
    have h := ePoint_any [48] W (HG.out.ext g) (by decide)
    rwa [show pointE [48] = (([48], [48]), 0) by decide +kernel] at h
  have HLI := fun c o (W : World) (g : Ext w W) (hk : CylOk c) h1 h2 => aLitres_any c o p W (HG.out.ext g) hk h1 h2
  simp only [litT_is] at HLI
  replace HLI := Lib.hid HLI
  have HAD := Lib.hid (fun (M N : Int) (W : World) (g : Ext w W) (hM : 0 ≤ M) (hN : 0 ≤ N) (h : M + N ≤ 10 ^ 20) => by
    have hh := sum_add hM hN h
    have h1 := eAdd_any (sumT M) (sumT N) W (HG.out.ext g) hh.2.1 hh.2.2.1
    rw [hh.1] at h1
    exact h1)
  obtain ⟨R, hR⟩ : ∃ R, R = cycS l n st p := ⟨_, rfl⟩
  rw [← hR]
  unfold cycS at hR
  obtain ⟨er, her⟩ : ∃ er, er = ckSeq (n, st) := ⟨_, rfl⟩
  rw [← her] at HWD hR
  have HER := Lib.hid her
  obtain ⟨wd, hwd⟩ : ∃ wd, wd = wordL st := ⟨_, rfl⟩
  rw [← hwd] at HWD hR
  have HWE := Lib.hid hwd
  clear hwd
  unfold CycP
  clear hG hc hs her
  have c0 : (((w.alloc (.cells #[.int .i64 n, .slice a st.length cap] 24)).alloc (.cells #[.string ⟨#[]⟩, .string ⟨#[]⟩] 36))).cell? ⟨w.heap.size, 0, none⟩ = some (.int .i64 n) := by go_simp
  have c1 : (((w.alloc (.cells #[.int .i64 n, .slice a st.length cap] 24)).alloc (.cells #[.string ⟨#[]⟩, .string ⟨#[]⟩] 36))).cell? ⟨w.heap.size, 1, none⟩ = some (.slice a st.length cap) := by go_simp
  have X : EncAt (w.heap.size + 1) ((w.alloc (.cells #[.int .i64 n, .slice a st.length cap] 24)).alloc (.cells #[.string ⟨#[]⟩, .string ⟨#[]⟩] 36)) [] [] := ⟨by go_simp, by go_simp, by go_simp, by go_simp⟩
  have E : Ext w ((w.alloc (.cells #[.int .i64 n, .slice a st.length cap] 24)).alloc (.cells #[.string ⟨#[]⟩, .string ⟨#[]⟩] 36)) := extA
  go_enter Tryz.func9, Tryz.ntmps9
  go_wp2_with fail
  generalize ((w.alloc (.cells #[.int .i64 n, .slice a st.length cap] 24)).alloc (.cells #[.string ⟨#[]⟩, .string ⟨#[]⟩] 36)) = w0 at c0 c1 X E ⊢
  refine (HWD.out _ E).mono ?_
  rintro e w1 ⟨v, rfl, hO, _, hE⟩
  replace X := X.ext hE
  replace E := E.trans hE
  have c0 := (hE).cell c0
  have c1 := (hE).cell c1
  clear hE HWD
  by_cases h0 : er = 0
  rotate_left
  · rw [if_pos h0] at hR
    have HR := Lib.hid hR
    have hne : (er != 0) = true := by simp [h0]
    obtain ⟨d0, d1, g0, g1⟩ := X
    have zd := cell_lt d0
    dsimp only at zd
    clear hR h0 HER hO
    go_wp2
    refine bodyPost_ret (v := .tuple #[.agg #[txt [], txt []], .int .i64 er]) (by rw [results_cell_tmp1 rfl]; go_simp) rfl ?_
    exact ⟨by rw [HR.out], extA⟩
  subst h0
  rw [if_pos rfl] at hO
  rw [if_neg (not_not_intro rfl)] at hR
  obtain ⟨wa, wc, rfl, hcw, hlw, _⟩ := hO.reads
  have HCW := Lib.hid hcw
  clear hcw hO
  have z0 := cell_lt c0
  have zd := cell_lt X.c0
  dsimp only at z0 zd
  by_cases hn : (l.length : Int) = n
  rotate_left
  · rw [if_pos hn] at hR
    have HR := Lib.hid hR
    have hne : ((l.length : Int) != n) = true := by simp [hn]
    obtain ⟨d0, d1, g0, g1⟩ := X
    clear hR hn HER
    go_wp2
    refine bodyPost_ret (v := .tuple #[.agg #[txt [], txt []], .int .i64 8]) (by rw [results_cell_tmp1 rfl]; go_simp) rfl ?_
    exact ⟨by rw [HR.out], extA⟩
  rw [if_neg (not_not_intro hn)] at hR
  have hne : ((l.length : Int) != n) = false := by simp [hn]
  have HN := Lib.hid hn
  have HRR := Lib.hid hR
  obtain ⟨ce, hce⟩ : ∃ ce, ce = cylsE l := ⟨_, rfl⟩
  rw [← hce] at hR
  have M0 : Hid (ce = cylsE (l.drop 0)) := hce
  have HCE := Lib.hid hce
  have HR := Lib.hid hR
  clear hR hn hce HRR
  go_wp2
  clear hne z0 zd
  go_loopw [35] (fun x wr => ∃ k : Nat, k ≤ l.length ∧ x = .int .i64 k ∧ Hid (ce = cylsE (l.drop k)) ∧ Ext w1 wr) (fun x _ => l.length - (intOf x).toNat)
  case atStart => exact ⟨0, Nat.zero_le _, rfl, M0.out, Ext.refl _⟩
  case round =>
    obtain ⟨k, hk, rfl, hz, he⟩ := hrel
    have X2 := X.ext he
    have E2 := E.trans he
    by_cases hlt : k < l.length
    · obtain ⟨b, off, ha, p0, p1, p2⟩ := HC.out.ext E2 k hlt
      subst ha
      have hz2 := hz.out.trans (cylsE_drop hlt)
      have HCc := Lib.hid (HCK.out (l.getD k cyl0))
      obtain ⟨qe, hqe⟩ : ∃ qe, qe = cylE (l.getD k cyl0) := ⟨_, rfl⟩
      rw [← hqe] at hz2 HCc
      clear hqe hz
      generalize l.getD k cyl0 = c at p0 p1 p2 HCc
      obtain ⟨x, y, z⟩ := c
      dsimp only [cylV] at p0 p1 p2 HCc
      have z0 := cell_lt p0
      dsimp only at z0
      by_cases hq : qe = 0
      · rw [if_neg (not_not_intro hq)] at hz2
        have HZ := Lib.hid hz2
        subst hq
        clear hz2
        go_wp2_with fail
        have EB : Ext wr (wr.alloc (.cells #[.int .i64 x, .int .i64 y, .int .i64 z] 29)) := extA
        refine (HCc.out _).mono ?_
        rintro e w5 ⟨rfl, hE⟩
        have E5 := he.trans (EB.trans hE)
        clear EB hE
        go_wp2
        refine ⟨⟨k + 1, by omega, by go_num, HZ.out, E5⟩, by simp [intOf]; omega⟩
      · rw [if_pos hq] at hz2
        have h1 := HR.out
        rw [if_pos (by omega)] at h1
        have HRQ : Hid (R = (([], []), (qe : Int))) := by show _ = _; rw [h1, hz2]
        have hne : (((qe : Nat) : Int) != 0) = true := by rw [bne_iff_ne]; omega
        clear hz2 h1 hq
        go_wp2_with fail
        have EB : Ext wr (wr.alloc (.cells #[.int .i64 x, .int .i64 y, .int .i64 z] 29)) := extA
        refine (HCc.out _).mono ?_
        rintro e w5 ⟨rfl, hE⟩
        have E5 := E2.trans (EB.trans hE)
        obtain ⟨d0, d1, g0, g1⟩ := X2.ext (EB.trans hE)
        have zd := cell_lt d0
        dsimp only at zd
        clear EB hE
        go_wp2
        refine bodyPost_ret (v := .tuple #[.agg #[txt [], txt []], .int .i64 (qe : Nat)]) (by rw [results_cell_tmp1 rfl]; go_simp) rfl ?_
        exact ⟨by rw [HRQ.out], extA⟩
    · have hke : k = l.length := by omega
      subst hke
      have hz2 := hz.out
      rw [List.drop_length] at hz2
      have hce0 : ce = 0 := hz2
      have h1 := HR.out
      rw [if_neg (by omega)] at h1
      obtain ⟨pe, hpe⟩ : ∃ pe, pe = presE1 p := ⟨_, rfl⟩
      rw [← hpe] at HPR h1
      have HPE := Lib.hid hpe
      clear hz hz2 hpe
      go_wp2_with fail
      refine (HPR.out _).mono ?_
      rintro e w5 ⟨rfl, hw⟩; obtain rfl := hw.symm; clear hw
      by_cases hp : pe = 0
      rotate_left
      · rw [if_pos hp] at h1
        have HRQ := Lib.hid h1
        have hne : (((pe : Nat) : Int) != 0) = true := by rw [bne_iff_ne]; omega
        obtain ⟨d0, d1, g0, g1⟩ := X2
        have zd := cell_lt d0
        dsimp only at zd
        clear h1 hp
        go_wp2
        refine bodyPost_ret (v := .tuple #[.agg #[txt [], txt []], .int .i64 (pe : Nat)]) (by rw [results_cell_tmp1 rfl]; go_simp) rfl ?_
        exact ⟨by rw [HRQ.out], extA⟩
      rw [if_neg (not_not_intro hp)] at h1
      have HRQ := Lib.hid h1
      subst hp
      have hck := HER.out.symm
      obtain ⟨hN1, hN6, _, hl64, hwk, _, _⟩ := ckSeq_zero hck
      have hpr : 1 ≤ p ∧ p ≤ 2000 := by
        have h2 := HPE.out
        unfold presE1 presB at h2
        split at h2
        · cases h2
        · rename_i h3
          simp only [Bool.or_eq_true, decide_eq_true_eq, not_or] at h3
          omega
      have HOK : Hid (CycOk l n st p) := ⟨HN.out, hN1, hN6, hl64, ckWalk_fine hwk, cylsE_zero (HCE.out.symm.trans hce0), hpr.1, hpr.2⟩
      have hwd := HWE.out
      have hwl := word_len HOK.out.fine hl64
      rw [← hwd] at hwl
      have HAT : Hid (∀ k, k < wd.length → ∃ i : Nat, (wd.getD k stk0).1 = (i : Int) ∧ i < l.length ∧ CylOk (l.getD i cyl0) ∧ (∀ o, 0 ≤ litN (l.getD i cyl0) o p ∧ litN (l.getD i cyl0) o p ≤ 1575750000000)) := fun k hk => by
        have := HOK.out.at (k := k) (by rw [← hwd]; exact hk)
        rw [← hwd] at this
        exact this
      have HBD : Hid (∀ k, 0 ≤ strN l p (wd.take k) ∧ strN l p (wd.take k) ≤ 384 * 1575750000000) := fun k => by
        have := HOK.out.bd k
        rw [← hwd] at this
        exact this
      have HTK : Hid (∀ k, k < wd.length → strN l p (wd.take (k + 1)) = strN l p (wd.take k) + litN (l.getD (wd.getD k stk0).1.toNat cyl0) (wd.getD k stk0).2 p) := fun k hk => strN_take l p hk
      have HS0 : Hid (sumT (strN l p (wd.take 0)) = ([48], [48])) := by show _ = _; rw [List.take_zero]; exact sum_zero
      have HEND : Hid (strN l p (wd.take wd.length) = strN l p wd) := by show _ = _; rw [List.take_length]
      have HLI2 := Lib.hid (fun c o W g hk => HLI.out c o W g hk hpr.1 hpr.2)
      clear h1 hwk hck hwd HWE HOK hpr HLI hce0 hN1 hN6 hl64 HR HCE HN HER M0
      have zd := cell_lt X2.c0
      dsimp only at zd
      go_wp2_with fail
      refine (HPT.out _ E2).mono ?_
      rintro e w4 ⟨rfl, hE4⟩
      have X4 := X2.ext hE4
      have E4 := E2.trans hE4
      have HC4 := Lib.hid (HC.out.ext E4)
      have HCW4 := Lib.hid (HCW.out.ext (he.trans hE4))
      clear X2 E2 hE4 HC HCW
      have EB : Ext w4 (w4.alloc (.cells #[txt [48], txt [48]] 36)) := extA
      have S0 : EncAt w4.heap.size (w4.alloc (.cells #[txt [48], txt [48]] 36)) [48] [48] := ⟨by go_simp, by go_simp, by go_simp, by go_simp⟩
      go_wp2_with fail
      obtain ⟨sb, hsb⟩ : ∃ b, b = w4.heap.size := ⟨_, rfl⟩
      rw [← hsb] at S0 ⊢
      have hsb4 : w4.heap.size ≤ sb := by omega
      have hsb5 : sb < (w4.alloc (.cells #[txt [48], txt [48]] 36)).heap.size := cell_lt S0.c0
      clear hsb
      generalize (w4.alloc (.cells #[txt [48], txt [48]] 36)) = w6 at EB S0 hsb5 ⊢
      go_loopw [58, 9] (fun x y wr => ∃ k : Nat, k ≤ wd.length ∧ x = .int .i64 k ∧ y = .int .i64 0 ∧ (∃ s1 s2, EncAt sb wr s1 s2 ∧ Hid ((s1, s2) = sumT (strN l p (wd.take k)))) ∧ Ext w4 wr) (fun x _ _ => wd.length - (intOf x).toNat)
      case atStart => exact ⟨0, Nat.zero_le _, rfl, rfl, ⟨_, _, S0, HS0.out.symm⟩, EB⟩
      case round =>
        obtain ⟨k, hk, rfl, rfl, ⟨s1, s2, S, hS12⟩, he4⟩ := hrel
        have X5 := X4.ext he4
        have E5 := E4.trans he4
        by_cases hlt : k < wd.length
        · obtain ⟨wb, wo, hwa, q1, q2⟩ := HCW4.out.ext he4 k hlt
          subst hwa
          obtain ⟨i, hi1, hi2, hi3, hi4⟩ := HAT.out k hlt
          have htk := HTK.out k hlt
          rw [hi1, Int.toNat_natCast] at htk
          obtain ⟨cb, co, hca, r0, r1, r2⟩ := HC4.out.ext he4 i hi2
          subst hca
          rw [hi1] at q1
          have hbd := HBD.out k
          have hbd1 := HBD.out (k + 1)
          have HL := HLI2.out (l.getD i cyl0) (wd.getD k stk0).2
          have hn4 := hi4 (wd.getD k stk0).2
          have HA2 := fun W g => HAD.out (strN l p (wd.take k)) (litN (l.getD i cyl0) (wd.getD k stk0).2 p) W g hbd.1 hn4.1 (by omega)
          rw [← htk, ← hS12.out] at HA2
          generalize (wd.getD k stk0).2 = o at q2 HL HA2
          obtain ⟨N, hN⟩ : ∃ N, N = sumT (litN (l.getD i cyl0) o p) := ⟨_, rfl⟩
          rw [← hN] at HL HA2
          obtain ⟨T, hT⟩ : ∃ T, T = sumT (strN l p (wd.take (k + 1))) := ⟨_, rfl⟩
          rw [← hT] at HA2
          have HT := Lib.hid hT
          unfold EncP at HL HA2
          have HL' := fun W g => HL W g hi3
          generalize l.getD i cyl0 = c at r0 r1 r2 HL'
          obtain ⟨cx, cy, cz⟩ := c
          obtain ⟨n1, n2⟩ := N
          obtain ⟨t1, t2⟩ := T
          dsimp only [encV, cylV] at HL' HA2 r0 r1 r2
          replace HL := Lib.hid HL'
          replace HA2 := Lib.hid HA2
          clear HL' hN hT hi1 hi3 hi4 htk hbd hbd1 hn4 hS12
          have z1 := cell_lt q1
          have zs := cell_lt S.c0
          dsimp only at z1 zs
          have hiI : (i : Int) < (l.length : Int) := by omega
          go_wp2_with fail
          have d0 : (((wr.alloc (.cells #[.int .i64 i, .bool o] 46)).alloc (.cells #[.string ⟨#[]⟩, .string ⟨#[]⟩] 36))).cell? ⟨wr.heap.size, 0, none⟩ = some (.int .i64 i) := by go_simp
          have d1 : (((wr.alloc (.cells #[.int .i64 i, .bool o] 46)).alloc (.cells #[.string ⟨#[]⟩, .string ⟨#[]⟩] 36))).cell? ⟨wr.heap.size, 1, none⟩ = some (.bool o) := by go_simp
          have Y : EncAt (wr.heap.size + 1) ((wr.alloc (.cells #[.int .i64 i, .bool o] 46)).alloc (.cells #[.string ⟨#[]⟩, .string ⟨#[]⟩] 36)) [] [] := ⟨by go_simp, by go_simp, by go_simp, by go_simp⟩
          have EWB : Ext wr ((wr.alloc (.cells #[.int .i64 i, .bool o] 46)).alloc (.cells #[.string ⟨#[]⟩, .string ⟨#[]⟩] 36)) := extA
          have hyb : w4.heap.size ≤ wr.heap.size + 1 := by have := he4.size; omega
          have hys : sb ≠ wr.heap.size + 1 := by omega
          have r0 := EWB.cell r0
          have r1 := EWB.cell r1
          have r2 := EWB.cell r2
          obtain ⟨kb, hkb⟩ : ∃ b, b = wr.heap.size := ⟨_, rfl⟩
          rw [← hkb] at d0 d1 Y hyb hys ⊢
          clear q1 q2 z1 zs hkb
          have hS : Ext ((wr.alloc (.cells #[.int .i64 i, .bool o] 46)).alloc (.cells #[.string ⟨#[]⟩, .string ⟨#[]⟩] 36)) (((wr.alloc (.cells #[.int .i64 i, .bool o] 46)).alloc (.cells #[.string ⟨#[]⟩, .string ⟨#[]⟩] 36))).drew := extA
          generalize ((wr.alloc (.cells #[.int .i64 i, .bool o] 46)).alloc (.cells #[.string ⟨#[]⟩, .string ⟨#[]⟩] 36)) = W6 at d0 d1 Y EWB r0 r1 r2 hS ⊢
          refine wp_region_heldE 12 (Ext W6) (by kernel_rfl) ?_
          generalize W6.drew = v0 at hS ⊢
          ((refine ePu 0 ?_); (refine ePu 1 ?_))
          (refine wpAnyE_take (oi := ?_) (v := ?_) (i := 2) ?_ (by kernel_rfl) ?_ ?_ (by assumption) ?_; rotate_left 2; (focus ((simp only [List.getElem?_toArray, List.getElem?_cons_succ, List.getElem?_cons_zero]; exact rfl))); (focus (exact fun _ _ _ h => h)); (focus (refine Or.inl ⟨by rfl, ?_⟩; intro w hSw; have hd0 := hSw.cell d0; have zd0 := cell_lt hd0; dsimp only at zd0; (first | (go_simp; done) | (go_simp; with_reducible rfl)))); (try simp only [Act.put, List.setIfInBounds_toArray, List.set_cons_zero, List.set_cons_succ]))
          (refine ePu 3 ?_)
          (refine wpAnyE_take (oi := ?_) (v := ?_) (i := 4) ?_ (by kernel_rfl) ?_ ?_ (by assumption) ?_; rotate_left 2; (focus ((simp only [List.getElem?_toArray, List.getElem?_cons_succ, List.getElem?_cons_zero]; exact rfl))); (focus (exact fun _ _ _ h => h)); (focus (refine Or.inl ⟨by rfl, ?_⟩; intro w hSw; have hr0 := hSw.cell r0; have zr0 := cell_lt hr0; dsimp only at zr0; have hr1 := hSw.cell r1; have zr1 := cell_lt hr1; dsimp only at zr1; have hr2 := hSw.cell r2; have zr2 := cell_lt hr2; dsimp only at zr2; (first | (go_simp; done) | (go_simp; with_reducible rfl)))); (try simp only [Act.put, List.setIfInBounds_toArray, List.set_cons_zero, List.set_cons_succ]))
          (refine ePu 5 ?_)
          (refine wpAnyE_take (oi := ?_) (v := ?_) (i := 6) ?_ (by kernel_rfl) ?_ ?_ (by assumption) ?_; rotate_left 2; (focus ((simp only [List.getElem?_toArray, List.getElem?_cons_succ, List.getElem?_cons_zero]; exact rfl))); (focus (exact fun _ _ _ h => h)); (focus (refine Or.inl ⟨by rfl, ?_⟩; intro w hSw; have hd1 := hSw.cell d1; have zd1 := cell_lt hd1; dsimp only at zd1; (first | (go_simp; done) | (go_simp; with_reducible rfl)))); (try simp only [Act.put, List.setIfInBounds_toArray, List.set_cons_zero, List.set_cons_succ]))
          (refine ePu 7 ?_)
          (refine wpAnyE_one (i := 8) (o := ?_) ?_ (by kernel_rfl) (fun K hK => ?_); rotate_left; (focus ((simp only [List.getElem?_toArray, List.getElem?_cons_succ, List.getElem?_cons_zero]; exact rfl))); go_simp; refine (HL.out _ (E5.trans (EWB.trans hS))).mono ?_; rintro e v9 ⟨rfl, hE⟩; go_wp2_with fail; refine hK.out _ _ (hS.trans hE) (fun hHeld => ?_); clear hK K hHeld; (try simp only [Act.put, List.setIfInBounds_toArray, List.set_cons_zero, List.set_cons_succ]); replace hS := hS.trans hE; clear hE)
          ((refine ePu 9 ?_); (refine ePu 10 ?_); (refine ePu 11 ?_))
          have Y7 := ((Y.ext hS).set0 n1).set1 n2
          have S7 := (S.ext (EWB.trans hS)).two (c := kb + 1) (o1 := 0) (v := txt n1) (o2 := 1) (u := txt n2) hys
          have E47 := ((he4.trans (EWB.trans hS)).set (b := kb + 1) (o := 0) hyb (txt n1)).set (b := kb + 1) (o := 1) hyb (txt n2)
          obtain ⟨y0, y1, fy0, fy1⟩ := Y.ext hS
          have zy := cell_lt y0
          dsimp only at zy
          (refine wpAnyE_free (i := 12) (o := ?_) ?_ (by kernel_rfl) (by kernel_rfl) (fun K hK => ?_); rotate_left; (focus ((simp only [List.getElem?_toArray, List.getElem?_cons_succ, List.getElem?_cons_zero]; exact rfl))); go_simp; refine hK.out _ _ ?_; clear hK K; (try simp only [Act.put, List.setIfInBounds_toArray, List.set_cons_zero, List.set_cons_succ]))
          (refine ePu 13 ?_)
          refine wpAnyE_done (by kernel_rfl) ?_ _
          clear y0 y1 fy0 fy1 zy
          generalize ((v9.setCell ⟨kb + 1, 0, none⟩ (txt n1)).setCell ⟨kb + 1, 1, none⟩ (txt n2)) = W7 at Y7 S7 E47 ⊢
          have S7' := S7
          obtain ⟨e0, e1, _, _⟩ := S7'
          obtain ⟨y0, y1, _, _⟩ := Y7
          have ze := cell_lt e0
          have zy := cell_lt y0
          dsimp only at ze zy
          go_wp2_with fail
          refine (HA2.out _ (E4.trans E47)).mono ?_
          rintro e w8 ⟨rfl, hE8⟩
          have S8 := ((S7.ext hE8).set0 t1).set1 t2
          have E48 := ((E47.trans hE8).set (b := sb) (o := 0) hsb4 (txt t1)).set (b := sb) (o := 1) hsb4 (txt t2)
          obtain ⟨g0, g1, fg0, fg1⟩ := S7.ext hE8
          have zg := cell_lt g0
          dsimp only at zg
          clear e0 e1 y0 y1 ze zy hE8
          go_wp2
          exact ⟨⟨k + 1, by omega, by go_num, rfl, ⟨_, _, S8, HT.out⟩, E48⟩, by simp [intOf]; omega⟩
        · have hke : k = wd.length := by omega
          subst hke
          have h5 := hS12.out
          rw [HEND.out] at h5
          have HF : Hid (R = ((s1, s2), 0)) := by show _ = _; rw [HRQ.out, h5]
          obtain ⟨d0, d1, g0, g1⟩ := X5
          obtain ⟨e0, e1, f0, f1⟩ := S
          have zd := cell_lt d0
          have ze := cell_lt e0
          dsimp only at zd ze
          clear h5 hS12
          go_wp2
          refine bodyPost_ret (v := .tuple #[.agg #[txt s1, txt s2], .int .i64 0]) (by rw [results_cell_tmp1 rfl]; go_simp) rfl ?_
          exact ⟨by rw [HF.out], extA⟩
end Go.Proofs.YtbpjbhbbkonjlaaGreatDoor
namespace Go.Proofs.YtbpjbhbbkonjlaaGreatDoor
open Go.RowKit
structure CylCells (w : World) (b o : Nat) (c : Cyl) : Prop where
  c0 : w.cell? ⟨b, o, none⟩ = some (.int .i64 c.bore)
  c1 : w.cell? ⟨b, o + 1, none⟩ = some (.int .i64 c.rod)
  c2 : w.cell? ⟨b, o + 2, none⟩ = some (.int .i64 c.stroke)
  f0 : w.frozen? ⟨b, o, none⟩ = false
  f1 : w.frozen? ⟨b, o + 1, none⟩ = false
  f2 : w.frozen? ⟨b, o + 2, none⟩ = false
theorem CylCells.ext {w w' : World} {b o : Nat} {c : Cyl} (h : CylCells w b o c) (e : Ext w w') : CylCells w' b o c :=
  ⟨e.cell h.c0, e.cell h.c1, e.cell h.c2, (Below.frozen (p := ⟨b, o, none⟩) e (cell_lt h.c0)).trans h.f0, (Below.frozen (p := ⟨b, o + 1, none⟩) e (cell_lt h.c1)).trans h.f1, (Below.frozen (p := ⟨b, o + 2, none⟩) e (cell_lt h.c2)).trans h.f2⟩
theorem CylCells.other {w : World} {b o : Nat} {c : Cyl} (h : CylCells w b o c) {d p : Nat} {v : Value} (hn : ∀ i, i < 3 → ¬ (d = b ∧ p = o + i)) : CylCells (w.setCell ⟨d, p, none⟩ v) b o c := by
  have n0 : (⟨d, p, none⟩ : Addr) ≠ ⟨b, o, none⟩ := fun e => by simp only [Addr.mk.injEq] at e; exact hn 0 (by omega) ⟨e.1, e.2.1⟩
  have n1 : (⟨d, p, none⟩ : Addr) ≠ ⟨b, o + 1, none⟩ := fun e => by simp only [Addr.mk.injEq] at e; exact hn 1 (by omega) ⟨e.1, e.2.1⟩
  have n2 : (⟨d, p, none⟩ : Addr) ≠ ⟨b, o + 2, none⟩ := fun e => by simp only [Addr.mk.injEq] at e; exact hn 2 (by omega) ⟨e.1, e.2.1⟩
  exact ⟨by rw [World.cell?_setCell_other _ _ _ _ n0]; exact h.c0, by rw [World.cell?_setCell_other _ _ _ _ n1]; exact h.c1, by rw [World.cell?_setCell_other _ _ _ _ n2]; exact h.c2,
    by rw [World.frozen?_setCell]; exact h.f0, by rw [World.frozen?_setCell]; exact h.f1, by rw [World.frozen?_setCell]; exact h.f2⟩
theorem CylCells.put {w : World} {b o : Nat} {c : Cyl} (h : CylCells w b o c) (x y z : Int) : CylCells (((w.setCell ⟨b, o, none⟩ (.int .i64 x)).setCell ⟨b, o + 1, none⟩ (.int .i64 y)).setCell ⟨b, o + 2, none⟩ (.int .i64 z)) b o ⟨x, y, z⟩ := by
  have n01 : (⟨b, o + 1, none⟩ : Addr) ≠ ⟨b, o, none⟩ := fun e => by simp only [Addr.mk.injEq] at e; omega
  have n02 : (⟨b, o + 2, none⟩ : Addr) ≠ ⟨b, o, none⟩ := fun e => by simp only [Addr.mk.injEq] at e; omega
  have n12 : (⟨b, o + 2, none⟩ : Addr) ≠ ⟨b, o + 1, none⟩ := fun e => by simp only [Addr.mk.injEq] at e; omega
  refine ⟨?_, ?_, ?_, by simp only [World.frozen?_setCell]; exact h.f0, by simp only [World.frozen?_setCell]; exact h.f1, by simp only [World.frozen?_setCell]; exact h.f2⟩
  · rw [World.cell?_setCell_other _ _ _ _ n02, World.cell?_setCell_other _ _ _ _ n01]; exact World.cell?_setCell_same _ _ _ h.c0
  · rw [World.cell?_setCell_other _ _ _ _ n12]
    exact World.cell?_setCell_same _ _ _ ((World.cell?_setCell_other _ _ _ _ (Ne.symm n01)).trans h.c1)
  · exact World.cell?_setCell_same _ _ _ ((World.cell?_setCell_other _ _ _ _ (Ne.symm n12)).trans ((World.cell?_setCell_other _ _ _ _ (Ne.symm n02)).trans h.c2))
def ArrC (w : World) (b n : Nat) (f : Nat → Cyl) : Prop := ∀ j, j < n → CylCells w b (j * 3) (f j)
theorem ArrC.ext {w w' : World} {b n : Nat} {f : Nat → Cyl} (h : ArrC w b n f) (e : Ext w w') : ArrC w' b n f := fun j hj => (h j hj).ext e
theorem ArrC.other {w : World} {b n : Nat} {f : Nat → Cyl} (h : ArrC w b n f) {d p : Nat} {v : Value} (hn : d ≠ b) : ArrC (w.setCell ⟨d, p, none⟩ v) b n f := fun j hj => (h j hj).other fun _ _ e => hn e.1
theorem ArrC.put {w : World} {b n : Nat} {f : Nat → Cyl} (h : ArrC w b n f) {k : Nat} (hk : k < n) (x y z : Int) : ArrC (((w.setCell ⟨b, k * 3, none⟩ (.int .i64 x)).setCell ⟨b, k * 3 + 1, none⟩ (.int .i64 y)).setCell ⟨b, k * 3 + 2, none⟩ (.int .i64 z)) b n (fun j => if j = k then ⟨x, y, z⟩ else f j) := fun j hj => by
  by_cases e : j = k
  · subst e
    dsimp only
    rw [if_pos rfl]
    exact (h j hj).put x y z
  · dsimp only
    rw [if_neg e]
    exact (((h j hj).other fun i hi g => by omega).other fun i hi g => by omega).other fun i hi g => by omega
theorem ArrC.cells {w : World} {b n : Nat} {f : Nat → Cyl} (h : ArrC w b n f) {l : List Cyl} (hl : l.length = n) (hf : ∀ j, j < n → l.getD j cyl0 = f j) : CellsC w (some ⟨b, 0, none⟩) l := fun i hi => by
  have h1 := h i (by omega)
  refine ⟨b, 0, rfl, ?_, ?_, ?_⟩
  · rw [Nat.zero_add, hf i (by omega)]; exact h1.c0
  · rw [Nat.zero_add, hf i (by omega)]; exact h1.c1
  · rw [Nat.zero_add, hf i (by omega)]; exact h1.c2
theorem makeCyls (n : Nat) (hn : n ≤ 64) (w : World) : (Instr.makeSlice 25 (.int .i64 (n : Int)) (.int .i64 (n : Int))).run Tryz.prog w = .ok (.slice (some ⟨w.heap.size, 0, none⟩) n n) (w.alloc (.cells (madeCells #[.int .i64 0, .int .i64 0, .int .i64 0] (n * 3)) 29)) := by
  obtain ⟨i, hi, hzz⟩ := Option.map_eq_some_iff.1 infoCyl
  simp only [Prod.mk.injEq] at hzz
  obtain ⟨hz, hs, hb⟩ := hzz
  have hr := run_make (P := Tryz.prog) w 25 29 i _ Tryz.underlying25 hi hz .i64 .i64 n n (by omega) (Int.le_refl _) (by rw [hb]; omega) (by omega)
  simp only [Int.toNat_natCast, hs] at hr
  exact hr
theorem madeCyls (w : World) (n : Nat) (t : TypeId) {p : Nat} (hp : w.heap.size = p) : ArrC (w.alloc (.cells (madeCells #[.int .i64 0, .int .i64 0, .int .i64 0] (n * 3)) t)) p n (fun _ => cyl0) := fun k hk => by
  subst hp
  have e : ∀ i, i < 3 → (w.alloc (.cells (madeCells #[.int .i64 0, .int .i64 0, .int .i64 0] (n * 3)) t)).cell? ⟨w.heap.size, k * 3 + i, none⟩ = some (.int .i64 0) := fun i hi => by
    rw [World.cell?_alloc_new]
    have hlt : k * 3 + i < n * 3 := by omega
    have hm : (k * 3 + i) % 3 = i := by omega
    simp only [madeCells, Array.getElem?_map, Array.getElem?_range, hlt, if_true, Option.map_some]
    rw [show (#[Value.int .i64 0, Value.int .i64 0, Value.int .i64 0] : Array Value).size = 3 from rfl, hm]
    rcases (show i = 0 ∨ i = 1 ∨ i = 2 by omega) with rfl | rfl | rfl <;> rfl
  exact ⟨e 0 (by omega), e 1 (by omega), e 2 (by omega), by simp [go_sem], by simp [go_sem], by simp [go_sem]⟩
end Go.Proofs.YtbpjbhbbkonjlaaGreatDoor
namespace Go.Proofs.YtbpjbhbbkonjlaaGreatDoor
open Go.RowKit
theorem step_append1 {P : Program} {ops : Array Oper} {o : Oper} {a : Act} {w : World} {K : Act → World → Prop} {Q : Exit → Act → World → Prop} {E : Prop} (hgd : o.guard = none) (s x : Operand) (t : TypeId)
    (ho : o.op = .call { callee := .builtin .append, args := #[s, x], argTypes := #[t, t] })
    (e : TypeId) (i : TypeInfo) (z : Value) (size bytes : Nat) (ht : P.underlying t = some (.slice e)) (hi : P.info? e = some i) (hz : i.zero = some z)
    (hsize : i.size = size) (hby : i.bytes = bytes) (hzs : z.cells.size = size) (hsz : 0 < size)
    (v : Value) (n : Nat) (xs : List Value) (hs : a.eval s = v) (hown : w.ownsRow 0 e size v n xs)
    (ad : Addr) (m c : Nat) (hm : 0 < m) (news : List Value) (hx : a.eval x = .slice (some ad) m c) (hl : news.length = m * size) (hnews : ∀ j u, news[j]? = some u → w.cell? (ad.add j) = some u) (h1 : ∀ u ∈ news, u.oneCell' = true)
    (h63 : n + m ≤ maxLen) (hbytes : (n + m) * bytes ≤ 140737488355328)
    (h : ∀ v' w', w'.ownsRow 0 e size v' (n + m) (xs ++ news) → AppEnd w w' v v' → K (a.put o.dst v') w') :
    if Region.wanted o (yielded ops a.tmps) = true then Oper.wp P o a w K Q else E := by
  have hw : Region.wanted o (yielded ops a.tmps) = true := by simp [Region.wanted, hgd]
  rw [if_pos hw]
  obtain ⟨v', w', hr, h2, h3⟩ := run_append1 (P := P) w t o.type e i z size bytes ht hi hz hsize hby hzs hsz v n xs hown ad m c hm news hl hnews h1 h63 hbytes
  unfold Oper.wp execOp
  simp only [ho, resolve, invoke, builtin, Sem.run_bind, Sem.run_pure, Result.andThen_ok, List.map_toArray, List.map_cons, List.map_nil, hs, hx, hr]
  exact h v' w' h2 h3
def SliceKX (X : Nat → Prop) (w : World) (v : Value) (l : List Stk) : Prop := ∃ a cap, v = .slice a l.length cap ∧ CellsK w a l ∧ l.length ≤ maxLen ∧ ∀ b off, a = some ⟨b, off, none⟩ → l ≠ [] → ¬ X b
theorem SliceKX.slice {X : Nat → Prop} {w : World} {v : Value} {l : List Stk} (h : SliceKX X w v l) : SliceK w v l := by
  obtain ⟨a, cap, h1, h2, h3, _⟩ := h
  exact ⟨a, cap, h1, h2, h3⟩
theorem SliceKX.chg {X : Nat → Prop} {A B : World} {v : Value} {l : List Stk} (h : SliceKX X A v l) (c : Chg X A B) : SliceK B v l := by
  obtain ⟨a, cap, h1, h2, h3, h4⟩ := h
  refine ⟨a, cap, h1, fun i hi => ?_, h3⟩
  obtain ⟨b, off, e1, e2, e3⟩ := h2 i hi
  have hb := h4 b off e1 (by intro h; simp [h] at hi)
  exact ⟨b, off, e1, (World.cell?_of_block (w := A) (a := ⟨b, _, none⟩) (c.2 b (cell_lt e2) hb)).trans e2, (World.cell?_of_block (w := A) (a := ⟨b, _, none⟩) (c.2 b (cell_lt e3) hb)).trans e3⟩
theorem SliceKX.chgX {X Y : Nat → Prop} {A B : World} {v : Value} {l : List Stk} (h : SliceKX X A v l) (c : Chg X A B) (hy : ∀ b, b < A.heap.size → Y b → X b) : SliceKX Y B v l := by
  have h' := h
  obtain ⟨a, cap, h1, h2, h3, h4⟩ := h
  obtain ⟨a', cap', e1, e2, e3⟩ := h'.chg c
  rw [h1] at e1
  cases e1
  refine ⟨a, cap, h1, e2, h3, fun b off hb hne hY => ?_⟩
  obtain ⟨b1, o1, f1, f2, _⟩ := h2 0 (List.length_pos_iff.2 hne)
  rw [hb] at f1
  cases f1
  exact h4 b off hb hne (hy b (cell_lt f2) hY)
def pairP (ps : List (Value × Stp)) : List (Value × Value) := ps.map fun p => (p.1, .int .i64 p.2.2)
def OwnsP (X : Nat → Prop) (w : World) (v : Value) (ys : List Stp) : Prop :=
  ∃ ps : List (Value × Stp), ps.map (·.2) = ys ∧ w.ownsRow 0 69 2 v ys.length (flat2 (pairP ps)) ∧ ∀ p ∈ ps, SliceKX (fun b => X b ∨ v.ownBlock = some b) w p.1 p.2.1
theorem OwnsP.nil (X : Nat → Prop) (w : World) : OwnsP X w (.slice none 0 0) [] := ⟨[], rfl, World.ownsRow_nil w 0 _ _, fun p hp => by cases hp⟩
theorem OwnsP.chg {X : Nat → Prop} {A B : World} {v : Value} {ys : List Stp} (h : OwnsP X A v ys) (c : Chg X A B) (hv : ∀ b, v.ownBlock = some b → ¬ X b) : OwnsP X B v ys := by
  obtain ⟨ps, h1, h2, h3⟩ := h
  refine ⟨ps, h1, rowSame h2 (fun b hb => c.2 b (rowLt h2 hb) (hv b hb)), fun p hp => ?_⟩
  exact (h3 p hp).chgX ⟨c.1, fun k hk hn => c.2 k hk (fun hx => hn (.inl hx))⟩ (fun b _ hy => hy)
theorem OwnsP.reads {X : Nat → Prop} {A : World} {v : Value} {ys : List Stp} (h : OwnsP X A v ys) : SliceP A v ys := by
  obtain ⟨ps, h1, h2, h3⟩ := h
  obtain ⟨a, cap, hv, hm, hr⟩ := rowReads h2
  refine ⟨a, cap, hv, fun i hi => ?_, rowRoom h2 hv⟩
  have hl : ps.length = ys.length := by rw [← h1]; simp
  have hi' : i < (pairP ps).length := by simp [pairP]; omega
  have hip : i < ps.length := by omega
  have hg := flat2_get (pairP ps) i hi'
  have e1 : (pairP ps)[i].1 = ps[i].1 := by simp [pairP]
  have e2 : (pairP ps)[i].2 = .int .i64 ps[i].2.2 := by simp [pairP]
  rw [e1, e2] at hg
  have ey : ys.getD i stp0 = ps[i].2 := by rw [← h1]; simp [List.getD, hip]
  obtain ⟨b, hb, _, g1, _⟩ := hr _ _ hg.1
  obtain ⟨b', hb', _, g2, _⟩ := hr _ _ hg.2
  rw [hb] at hb'
  cases hb'
  refine ⟨b, 0, ps[i].1, hb, by rw [Nat.zero_add]; exact g1, ?_, ?_⟩
  · rw [ey]; exact (h3 _ (List.getElem_mem hip)).slice
  · rw [ey, Nat.zero_add]; exact g2
theorem OwnsP.app {X : Nat → Prop} {A B : World} {v v' : Value} {ys : List Stp} {u : Value} {y : Stp} (h : OwnsP X A v ys) (hu : SliceKX (fun b => X b ∨ v.ownBlock = some b) A u y.1) (_hX : ∀ b, X b → b < A.heap.size)
    (hown : B.ownsRow 0 69 2 v' (ys.length + 1) (flat2 (pairP (Classical.choose h)) ++ [u, .int .i64 y.2])) (he : AppEnd A B v v') : OwnsP X B v' (ys ++ [y]) := by
  obtain ⟨h1, h2, h3⟩ := Classical.choose_spec h
  refine ⟨Classical.choose h ++ [(u, y)], by rw [List.map_append, h1]; rfl, ?_, ?_⟩
  · unfold pairP at hown ⊢
    rw [List.length_append, List.map_append, flat2_append]
    exact hown
  · have c : Chg (fun b => X b ∨ v.ownBlock = some b) A B := by
      rcases he with ⟨_, _, hg⟩ | ⟨_, hx⟩
      · exact ⟨hg.size, fun k hk hn => hg.block k hk (fun e => hn (.inr e.symm))⟩
      · exact Chg.ext hx
    have hy : ∀ b, b < A.heap.size → (X b ∨ v'.ownBlock = some b) → (X b ∨ v.ownBlock = some b) := fun b hb hh => by
      rcases hh with hh | hh
      · exact .inl hh
      · rcases he with ⟨hv, _, _⟩ | ⟨hv, _⟩
        · exact .inr (hv ▸ hh)
        · rw [hv] at hh; cases hh; omega
    intro p hp
    rcases List.mem_append.1 hp with hp | hp
    · exact (h3 p hp).chgX c hy
    · rcases List.mem_singleton.1 hp with rfl
      exact hu.chgX c hy
def SeqPost (s : Sq) (w : World) (e : Ending) (w' : World) : Prop := ∃ v, e = .returned v ∧ (∀ B, Chg (fun b => b < w.heap.size) w' B → SeqV B v s) ∧ Ext w w'
theorem SliceKX.monoX {X Y : Nat → Prop} {A : World} {v : Value} {l : List Stk} (h : SliceKX X A v l) (hy : ∀ b, Y b → X b) : SliceKX Y A v l := h.chgX (Chg.refl X A) (fun b _ hb => hy b hb)
theorem OwnsP.mono {X Y : Nat → Prop} {A : World} {v : Value} {ys : List Stp} (h : OwnsP X A v ys) (hy : ∀ b, Y b → X b) : OwnsP Y A v ys := by
  obtain ⟨ps, h1, h2, h3⟩ := h
  exact ⟨ps, h1, h2, fun p hp => (h3 p hp).monoX (fun b hb => hb.imp (hy b) id)⟩
def OwnPost (s : Sq) (w : World) (e : Ending) (w' : World) : Prop := ∃ o v, w.heap.size ≤ o ∧ e = .returned (.agg #[.int .i64 s.1, v]) ∧ OwnsP (fun b => b ≤ o) w' v s.2 ∧ (∀ b, v.ownBlock = some b → o < b) ∧ Ext w w'
theorem OwnPost.seq {s : Sq} {w : World} {e : Ending} {w' : World} (h : OwnPost s w e w') : SeqPost s w e w' := by
  obtain ⟨o, v, ho, he, h1, h2, h3⟩ := h
  refine ⟨_, he, fun B hB => ⟨v, rfl, ?_⟩, h3⟩
  exact (OwnsP.chg (h1.mono (Y := fun b => b < w.heap.size) (fun b hb => by omega)) hB (fun b hb e => by have := h2 b hb; omega)).reads
end Go.Proofs.YtbpjbhbbkonjlaaGreatDoor
namespace Go.Proofs.YtbpjbhbbkonjlaaGreatDoor
open Go.RowKit
def ChPost (y : Stp) (v : Value) (w : World) (e : Ending) (w' : World) : Prop :=
  ∃ u, e = .returned (.agg #[u, .int .i64 y.2]) ∧ SliceK w' u y.1 ∧ (∀ b, u.ownBlock = some b → v.ownBlock = some b ∨ w.heap.size ≤ b) ∧ (∃ a, ∃ c, u = .slice a y.1.length c ∧ ∀ b off, a = some ⟨b, off, none⟩ → off = 0) ∧ ∀ n, n ≤ w.heap.size → (∀ b, v.ownBlock = some b → n ≤ b) → Below n w w'
structure MpSt (o : Nat) (W0 wr : World) (n : Int) (ys : List Stp) : Prop where
  be : Below o W0 wr
  c0 : wr.cell? ⟨o, 0, none⟩ = some (.int .i64 n)
  f1 : wr.frozen? ⟨o, 1, none⟩ = false
  v : ∃ v, wr.cell? ⟨o, 1, none⟩ = some v ∧ OwnsP (fun b => b ≤ o) wr v ys ∧ ∀ b, v.ownBlock = some b → o < b
def mapK (ch : Nat → Stp → Stp) (l : List Stp) (k : Nat) : List Stp := (List.range k).map fun i => ch i (l.getD i stp0)
theorem mapK_succ (ch : Nat → Stp → Stp) (l : List Stp) (k : Nat) : mapK ch l (k + 1) = mapK ch l k ++ [ch k (l.getD k stp0)] := by
  unfold mapK; rw [List.range_succ, List.map_append]; rfl
theorem mapK_len (ch : Nat → Stp → Stp) (l : List Stp) (k : Nat) : (mapK ch l k).length = k := by simp [mapK]
def Full (l : List Stp) : Prop := ∀ k, k < l.length → 0 < (l.getD k stp0).1.length ∧ (l.getD k stp0).1.length ≤ 40
set_option maxHeartbeats 8000000 in
set_option maxRecDepth 100000 in
theorem mapped_own (n : Int) (l : List Stp) (a : Option Addr) (cap : Nat) (w : World) (g : Nat) (cb : Array Value) (ch : Nat → Stp → Stp) (hl : l.length ≤ 200) (hf : Full l) (hc : CellsP w a l)
    (heg : ∀ args w, (callFunc g args).run Tryz.prog w = .ok (.enter g args) w)
    (hch : ∀ (k : Nat) (v : Value) (w' : World), k < l.length → Ext w w' → OwnsK w' v (l.getD k stp0).1 → (∀ b, v.ownBlock = some b → w.heap.size ≤ b) → Calls Tryz.prog g (#[.int .i64 (k : Int), .agg #[v, .int .i64 (l.getD k stp0).2]] ++ cb) w' (ChPost (ch k (l.getD k stp0)) v w')) :
    Calls Tryz.prog 64 #[.agg #[.int .i64 n, .slice a l.length cap], .func (.func g) #[] cb] w (OwnPost (n, mapK ch l l.length) w) := by
  have HC := Lib.hid hc
  have HF := Lib.hid hf
  have HCH := Lib.hid hch
  clear hc hf hch
  obtain ⟨i0, hi, hi0, hi1, hi2⟩ := info_parts infoStp
  have hz : ∀ w, (zeroValue 69).run Tryz.prog w = .ok (.agg #[.slice none 0 0, .int .i64 0]) w := fun _ => by kernel_rfl
  go_enter Tryz.func64, Tryz.ntmps64
  go_wp2
  have E1 : Ext w (((w.alloc (.cells #[.int .i64 n, .slice a l.length cap] 24)).alloc (.cells #[.int .i64 0, .slice none 0 0] 24)).alloc (.cells #[.int .i64 n, .slice none 0 0] 24)) := extA
  have c1 : (((w.alloc (.cells #[.int .i64 n, .slice a l.length cap] 24)).alloc (.cells #[.int .i64 0, .slice none 0 0] 24)).alloc (.cells #[.int .i64 n, .slice none 0 0] 24)).cell? ⟨w.heap.size + 1, 0, none⟩ = some (.int .i64 0) := by go_simp
  have c2 : (((w.alloc (.cells #[.int .i64 n, .slice a l.length cap] 24)).alloc (.cells #[.int .i64 0, .slice none 0 0] 24)).alloc (.cells #[.int .i64 n, .slice none 0 0] 24)).cell? ⟨w.heap.size + 1, 1, none⟩ = some (.slice none 0 0) := by go_simp
  have c3 : (((w.alloc (.cells #[.int .i64 n, .slice a l.length cap] 24)).alloc (.cells #[.int .i64 0, .slice none 0 0] 24)).alloc (.cells #[.int .i64 n, .slice none 0 0] 24)).cell? ⟨w.heap.size + 1 + 1, 0, none⟩ = some (.int .i64 n) := by go_simp
  have c4 : (((w.alloc (.cells #[.int .i64 n, .slice a l.length cap] 24)).alloc (.cells #[.int .i64 0, .slice none 0 0] 24)).alloc (.cells #[.int .i64 n, .slice none 0 0] 24)).cell? ⟨w.heap.size + 1 + 1, 1, none⟩ = some (.slice none 0 0) := by go_simp
  have f1 : (((w.alloc (.cells #[.int .i64 n, .slice a l.length cap] 24)).alloc (.cells #[.int .i64 0, .slice none 0 0] 24)).alloc (.cells #[.int .i64 n, .slice none 0 0] 24)).frozen? ⟨w.heap.size + 1, 0, none⟩ = false := by go_simp
  have f2 : (((w.alloc (.cells #[.int .i64 n, .slice a l.length cap] 24)).alloc (.cells #[.int .i64 0, .slice none 0 0] 24)).alloc (.cells #[.int .i64 n, .slice none 0 0] 24)).frozen? ⟨w.heap.size + 1, 1, none⟩ = false := by go_simp
  have f4 : (((w.alloc (.cells #[.int .i64 n, .slice a l.length cap] 24)).alloc (.cells #[.int .i64 0, .slice none 0 0] 24)).alloc (.cells #[.int .i64 n, .slice none 0 0] 24)).frozen? ⟨w.heap.size + 1 + 1, 1, none⟩ = false := by go_simp
  generalize (((w.alloc (.cells #[.int .i64 n, .slice a l.length cap] 24)).alloc (.cells #[.int .i64 0, .slice none 0 0] 24)).alloc (.cells #[.int .i64 n, .slice none 0 0] 24)) = W at E1 c1 c2 c3 c4 f1 f2 f4 ⊢
  obtain ⟨o, ho⟩ : ∃ o, o = w.heap.size + 1 + 1 := ⟨_, rfl⟩
  have ho1 : w.heap.size + 1 < o := by omega
  have hoW : o < W.heap.size := by rw [ho]; exact cell_lt c3
  rw [← ho] at c3 c4 f4 ⊢
  have M0 : Hid (MpSt o W W n (mapK ch l 0)) := ⟨Below.refl _ _, c3, f4, _, c4, OwnsP.nil _ _, fun b hb => by cases hb⟩
  clear c3 c4 f4 ho
  go_loopw [14] (fun i wr => ∃ k : Nat, k ≤ l.length ∧ i = .int .i64 k ∧ Hid (MpSt o W wr n (mapK ch l k))) (fun i _ => l.length - (intOf i).toNat)
  case atStart => exact ⟨0, Nat.zero_le _, rfl, M0⟩
  case round =>
    obtain ⟨k, hk, rfl, M⟩ := hrel
    clear M0
    have hbe := M.out.be
    have E2 : Ext w wr := E1.trans' hbe (by omega)
    have hsz := hbe.size
    have how : o < wr.heap.size := by omega
    by_cases hlt : k < l.length
    · obtain ⟨b, off, v, ha, p1, hv, p2⟩ := HC.out k hlt
      subst ha
      obtain ⟨sa, sc, rfl, hcs, hls⟩ := hv
      have p1 := E2.cell p1
      have p2 := E2.cell p2
      have hfu := HF.out k hlt
      have HCK := Lib.hid (fun (v : Value) (w' : World) => HCH.out k v w' hlt)
      have HMS := Lib.hid (mapK_succ ch l k)
      have hmk := mapK_len ch l k
      obtain ⟨sb, so, hsa, _, _⟩ := hcs 0 hfu.1
      subst hsa
      have HCS := Lib.hid hcs
      clear hcs hls
      generalize l.getD k stp0 = x at p1 p2 HCS hfu HCK HMS
      obtain ⟨st, wait⟩ := x
      dsimp only at p1 p2 HCS hfu HCK HMS
      obtain ⟨hfu1, hfu2⟩ := hfu
      have z1 := cell_lt p1
      dsimp only at z1
      obtain ⟨ov, m1, m2, m3⟩ := M.out.v
      have m0 := M.out.c0
      have mf := M.out.f1
      have HM2 := Lib.hid m2
      have HM3 := Lib.hid m3
      clear m2 m3 M
      have EX : Ext wr (wr.alloc (.cells #[.slice (some ⟨sb, so, none⟩) st.length sc, .int .i64 wait] 69)).drew := extA
      have x0 : (wr.alloc (.cells #[.slice (some ⟨sb, so, none⟩) st.length sc, .int .i64 wait] 69)).drew.cell? ⟨wr.heap.size, 0, none⟩ = some (.slice (some ⟨sb, so, none⟩) st.length sc) := by go_simp
      have x1 : (wr.alloc (.cells #[.slice (some ⟨sb, so, none⟩) st.length sc, .int .i64 wait] 69)).drew.cell? ⟨wr.heap.size, 1, none⟩ = some (.int .i64 wait) := by go_simp
      have xz : wr.heap.size < (wr.alloc (.cells #[.slice (some ⟨sb, so, none⟩) st.length sc, .int .i64 wait] 69)).drew.heap.size := by simp
      go_wp2
      obtain ⟨xb, hxb⟩ : ∃ xb, xb = wr.heap.size := ⟨_, rfl⟩
      rw [← hxb] at x0 x1 xz how ⊢
      have HXB := Lib.hid hxb
      clear hxb
      refine wp_region_heldE 14 (fun w' => w'.cell? ⟨o, 1, none⟩ = some ov ∧ w'.cell? ⟨xb, 0, none⟩ = some (.slice (some ⟨sb, so, none⟩) st.length sc) ∧ w'.cell? ⟨xb, 1, none⟩ = some (.int .i64 wait)) (by kernel_rfl) ?_
      generalize (wr.alloc (.cells #[.slice (some ⟨sb, so, none⟩) st.length sc, .int .i64 wait] 69)).drew = W2 at EX x0 x1 xz ⊢
      have q1 := EX.cell m1
      have q0 := EX.cell m0
      have qf := (Below.frozen (p := ⟨o, 1, none⟩) EX (cell_lt m1)).trans mf
      have hS : W2.cell? ⟨o, 1, none⟩ = some ov ∧ W2.cell? ⟨xb, 0, none⟩ = some (.slice (some ⟨sb, so, none⟩) st.length sc) ∧ W2.cell? ⟨xb, 1, none⟩ = some (.int .i64 wait) := ⟨q1, x0, x1⟩
      ((refine eTk 0 ?_); (refine eTk 1 ?_); (refine eTk 2 ?_); (refine eTk 3 ?_); (refine eTk 4 ?_); (refine eTk 5 ?_); (refine eTk 7 ?_); (refine eTk 8 ?_))
      (refine wpAnyE_one (i := 6) (o := ?_) ?_ (by kernel_rfl) (fun K hK => ?_); rotate_left; (focus ((simp only [List.getElem?_toArray, List.getElem?_cons_succ, List.getElem?_cons_zero]; exact rfl))); go_simp; go_at_call 85; refine (CloneK_any st sb so sc _ hfu2 hfu1 (HCS.out.ext (E2.trans EX))).mono ?_; rintro e w4 ⟨cv, rfl, hO4, hb4, hE4⟩; have HO4 := Lib.hid hO4; have HB4 := Lib.hid hb4; obtain ⟨ca, cc, rfl, _⟩ := hO4.reads; clear hO4 hb4; go_wp2_with fail; refine hK.out _ _ ?_ (fun hHeld => ?_); rotate_left; clear hK K; (try simp only [Act.put, List.setIfInBounds_toArray, List.set_cons_zero, List.set_cons_succ]))
      rotate_left
      · exact ⟨hE4.cell q1, hE4.cell x0, hE4.cell x1⟩
      (refine eTk 9 ?_)
      (refine wpAnyE_one (i := 10) (o := ?_) ?_ (by kernel_rfl) (fun K hK => ?_); rotate_left; (focus ((simp only [List.getElem?_toArray, List.getElem?_cons_succ, List.getElem?_cons_zero]; exact rfl))); go_simp; refine (HCK.out _ _ ((E2.trans EX).trans hE4) HO4.out (fun b hb => Nat.le_trans (E2.trans EX).size (HB4.out b hb))).mono ?_; rintro e w5 ⟨u, rfl, hsu, hub, hua, hbel⟩; have B5 := hbel W2.heap.size hE4.size HB4.out; have HSU := Lib.hid hsu; have HUB := Lib.hid hub; have HUA := Lib.hid hua; obtain ⟨ua, uc, rfl, _, _⟩ := hsu; clear hub hua hbel; go_wp2_with fail; refine hK.out _ _ ?_ (fun hHeld => ?_); rotate_left; clear hK K; (try simp only [Act.put, List.setIfInBounds_toArray, List.set_cons_zero, List.set_cons_succ]))
      rotate_left
      · exact ⟨cellB B5 (by show o < _; omega) hHeld.1, cellB B5 xz hHeld.2.1, cellB B5 xz hHeld.2.2⟩
      generalize ch k (st, wait) = y at HSU HUB HUA HMS ⊢
      obtain ⟨yst, ywait⟩ := y
      dsimp only at HSU HUB HUA HMS ⊢
      have E25 : Ext W2 w5 := hE4.trans' B5 (Nat.le_refl _)
      have E6 : Ext w5 (w5.alloc (.cells #[.slice ua yst.length uc, .int .i64 ywait] 69)) := extA
      (refine wpAnyE_one (i := 11) (o := ?_) ?_ (by kernel_rfl) (fun K hK => ?_); rotate_left; (focus ((simp only [List.getElem?_toArray, List.getElem?_cons_succ, List.getElem?_cons_zero]; exact rfl))); go_simp; refine hK.out _ _ ?_ (fun hHeld => ?_); rotate_left; clear hK K; (try simp only [Act.put, List.setIfInBounds_toArray, List.set_cons_zero, List.set_cons_succ]))
      rotate_left
      · exact ⟨E6.cell hHeld.1, E6.cell hHeld.2.1, E6.cell hHeld.2.2⟩
      have ho6 : OwnsP (fun b => b ≤ o) (w5.alloc (.cells #[.slice ua yst.length uc, .int .i64 ywait] 69)) ov (mapK ch l k) := HM2.out.chg (Chg.ext ((EX.trans E25).trans E6)) (fun b hb e => by have := HM3.out b hb; omega)
      have HO6 := Lib.hid ho6
      clear ho6
      have hl6 : (mapK ch l k).length = k := mapK_len ch l k
      refine wpAnyE_one (i := 12) (o := ?_) ?_ (by kernel_rfl) (fun K hK => ?_)
      rotate_left
      · simp only [List.getElem?_toArray, List.getElem?_cons_succ, List.getElem?_cons_zero]; exact rfl
      refine step_append1 rfl _ _ 22 rfl 69 i0 (.agg #[.slice none 0 0, .int .i64 0]) 2 32 Tryz.underlying22 hi hi0 hi1 hi2 rfl (by decide) ov (mapK ch l k).length _ rfl (Classical.choose_spec HO6.out).2.1 ⟨w5.heap.size, 0, none⟩ 1 1 (by decide) [.slice ua yst.length uc, .int .i64 ywait] rfl rfl (cells_one _ _ _) (by intro u hu; simp at hu; rcases hu with rfl | rfl <;> rfl) (by unfold maxLen; omega) (by omega) (fun v' w7 hown7 hend7 => ?_)
      have O7 : OwnsP (fun b => b ≤ o) w7 v' (mapK ch l k ++ [(yst, ywait)]) := by
        refine OwnsP.app HO6.out ?_ (fun b hb => by have := E6.size; have := E25.size; omega) hown7 hend7
        obtain ⟨ua', uc', hu1, hu2, hu3⟩ := HSU.out.ext E6
        refine ⟨ua', uc', hu1, hu2, hu3, fun b1 o1 hb1 hne hx => ?_⟩
        subst hb1
        have hb2 : W2.heap.size ≤ b1 := by
          rcases HUB.out b1 (by rw [hu1]; obtain ⟨_, _, hq, hq2⟩ := HUA.out; rw [hu1] at hq; cases hq; have := hq2 b1 o1 rfl; subst this; rfl) with h | h
          · exact HB4.out b1 h
          · exact Nat.le_trans hE4.size h
        rcases hx with hx | hx
        · omega
        · have := rowLt (Classical.choose_spec HM2.out).2.1 hx
          have h9 := HXB.out
          omega
      have hgr := hend7.chg
      have hov : ∀ b, ov.ownBlock = some b → b < xb := fun b hb => by rw [HXB.out]; exact rowLt (Classical.choose_spec HM2.out).2.1 hb
      have B7 : Below o (w5.alloc (.cells #[.slice ua yst.length uc, .int .i64 ywait] 69)) w7 := hend7.below (n := o) (by have := E6.size; have := E25.size; omega) (fun b hb => by have := HM3.out b hb; omega)
      have V7 := hend7.ge (n := o + 1) (by have := E6.size; have := E25.size; omega) (fun b hb => HM3.out b hb)
      have same7 : ∀ (p : Addr) (v : Value), p.block = o ∨ p.block = xb → (w5.alloc (.cells #[.slice ua yst.length uc, .int .i64 ywait] 69)).cell? p = some v → w7.cell? p = some v ∧ w7.frozen? p = (w5.alloc (.cells #[.slice ua yst.length uc, .int .i64 ywait] 69)).frozen? p := fun p v hp hc => by
        have h1 := hgr.1 p.block (cell_lt hc) (fun e => by
          rcases hp with hp | hp
          · have := HM3.out _ e; omega
          · have := hov _ e; omega)
        exact ⟨(World.cell?_of_block (w := w5.alloc (.cells #[.slice ua yst.length uc, .int .i64 ywait] 69)) h1).trans hc, World.frozen?_of_block (w := w5.alloc (.cells #[.slice ua yst.length uc, .int .i64 ywait] 69)) h1⟩
      refine hK.out _ _ ⟨(same7 ⟨o, 1, none⟩ _ (.inl rfl) hHeld.1).1, (same7 ⟨xb, 0, none⟩ _ (.inr rfl) hHeld.2.1).1, (same7 ⟨xb, 1, none⟩ _ (.inr rfl) hHeld.2.2).1⟩ (fun hHeld => ?_)
      clear hK K
      (try simp only [Act.put, List.setIfInBounds_toArray, List.set_cons_zero, List.set_cons_succ])
      (refine eTk 13 ?_)
      have HO7 := Lib.hid O7
      have HV7 := Lib.hid V7
      obtain ⟨va, vc, hvv, _, _⟩ := O7.reads
      have hlen : (mapK ch l k ++ [(yst, ywait)]).length = k + 1 := by rw [List.length_append, hl6]; rfl
      rw [hlen] at hvv
      subst hvv
      clear O7 V7 hown7 hend7 hgr hlen
      have r0 := (same7 ⟨o, 0, none⟩ _ (.inl rfl) (E6.cell (E25.cell q0))).1
      obtain ⟨r1, rf0⟩ := same7 ⟨o, 1, none⟩ _ (.inl rfl) (E6.cell (E25.cell q1))
      have rf := (rf0.trans (Below.frozen (p := ⟨o, 1, none⟩) E6 (cell_lt (E25.cell q1)))).trans ((Below.frozen (p := ⟨o, 1, none⟩) E25 (cell_lt q1)).trans qf)
      clear rf0
      clear hHeld same7
      (refine wpAnyE_free (i := 14) (o := ?_) ?_ (by kernel_rfl) (by kernel_rfl) (fun K hK => ?_); rotate_left; (focus ((simp only [List.getElem?_toArray, List.getElem?_cons_succ, List.getElem?_cons_zero]; exact rfl))); go_simp; refine hK.out _ _ ?_; clear hK K; (try simp only [Act.put, List.setIfInBounds_toArray, List.set_cons_zero, List.set_cons_succ]))
      refine wpAnyE_done (by kernel_rfl) ?_ _
      have MN : Hid (MpSt o W (w7.setCell ⟨o, 1, none⟩ (.slice va (k + 1) vc)) n (mapK ch l (k + 1))) := by
        show MpSt _ _ _ _ _
        rw [HMS.out]
        have BB : Below o W w7 := (hbe.trans (((EX.trans E25).trans E6).mono (by have := HXB.out; omega))).trans B7
        refine ⟨BB.setCell (p := ⟨o, 1, none⟩) (Nat.le_refl _) _, ?_, by rw [World.frozen?_setCell]; exact rf, _, World.cell?_setCell_same _ _ _ r1, HO7.out.chg (Chg.setCell (B := fun b => b ≤ o) ⟨o, 1, none⟩ _ (Nat.le_refl _)) (fun b hb e => by have := HV7.out b hb; omega), fun b hb => by have := HV7.out b hb; omega⟩
        rw [World.cell?_setCell_other _ _ _ _ (fun h => by simp only [Addr.mk.injEq] at h; omega)]
        exact r0
      generalize w7.setCell ⟨o, 1, none⟩ (.slice va (k + 1) vc) = w8 at MN ⊢
      go_wp2
      refine ⟨⟨k + 1, by omega, by go_num, MN⟩, by simp [intOf]; omega⟩
    · have hke : k = l.length := by omega
      subst hke
      obtain ⟨v, m1, m2, m3⟩ := M.out.v
      have m0 := M.out.c0
      have hr := m2.reads
      obtain ⟨va, vc, rfl, hva, hvl⟩ := hr
      have HVA := Lib.hid hva
      have HVL := Lib.hid hvl
      have d1 := cellB hbe (p := ⟨w.heap.size + 1, 0, none⟩) ho1 c1
      have d2 := cellB hbe (p := ⟨w.heap.size + 1, 1, none⟩) ho1 c2
      have g1 := (Below.frozen (p := ⟨w.heap.size + 1, 0, none⟩) hbe ho1).trans f1
      have g2 := (Below.frozen (p := ⟨w.heap.size + 1, 1, none⟩) hbe ho1).trans f2
      have hcc : Chg (fun b => b ≤ o) wr ((wr.setCell ⟨w.heap.size + 1, 0, none⟩ (.int .i64 n)).setCell ⟨w.heap.size + 1, 1, none⟩ (.slice va (mapK ch l l.length).length vc)) :=
        (Chg.setCell (B := fun b => b ≤ o) ⟨w.heap.size + 1, 0, none⟩ _ (by show w.heap.size + 1 ≤ o; omega)).trans (Chg.setCell (B := fun b => b ≤ o) ⟨w.heap.size + 1, 1, none⟩ _ (by show w.heap.size + 1 ≤ o; omega))
      have HFIN : Hid (OwnsP (fun b => b ≤ o) ((wr.setCell ⟨w.heap.size + 1, 0, none⟩ (.int .i64 n)).setCell ⟨w.heap.size + 1, 1, none⟩ (.slice va (mapK ch l l.length).length vc)) (.slice va (mapK ch l l.length).length vc) (mapK ch l l.length)) := m2.chg hcc (fun b hb e => by have := m3 b hb; omega)
      have HOB : Hid (∀ b, (Value.slice va (mapK ch l l.length).length vc).ownBlock = some b → o < b) := m3
      have how : w.heap.size ≤ o := by omega
      clear hcc
      clear hva hvl m2 m3 M
      have EF : Ext w ((wr.setCell ⟨w.heap.size + 1, 0, none⟩ (.int .i64 n)).setCell ⟨w.heap.size + 1, 1, none⟩ (.slice va (mapK ch l l.length).length vc)) := extA
      go_wp2
      refine bodyPost_ret (v := .agg #[.int .i64 n, .slice va (mapK ch l l.length).length vc]) (by rw [results_cell1 rfl]; go_simp) rfl ⟨o, _, how, rfl, HFIN.out, HOB.out, EF⟩
end Go.Proofs.YtbpjbhbbkonjlaaGreatDoor
namespace Go.Proofs.YtbpjbhbbkonjlaaGreatDoor
open Go.RowKit
end Go.Proofs.YtbpjbhbbkonjlaaGreatDoor
namespace Go.Proofs.YtbpjbhbbkonjlaaGreatDoor
open Go.RowKit
theorem wpList_append_run {P : Program} (w : World) {ops : Array Oper} {rest : List Oper} {o : Oper} {a : Act} {Q : Exit → Act → World → Prop} (hgd : o.guard = none) (s x : Operand) (t u : TypeId)
    (ho : o.op = .call { callee := .builtin .append, args := #[s, x], argTypes := #[t, u] }) (v y : Value) (hs : a.eval s = v) (hx : a.eval x = y)
    (v' : Value) (w' : World) (hr : (Builtin.append_ #[t, u] o.type #[v, y]).run P w = .ok v' w')
    (h : wpList P ops Q rest (a.put o.dst v') w') : wpList P ops Q (o :: rest) a w := by
  refine wpList_plain hgd fun K hK => ?_
  unfold Oper.wp execOp
  simp only [ho, resolve, invoke, builtin, Sem.run_bind, Sem.run_pure, Result.andThen_ok, List.map_toArray, List.map_cons, List.map_nil, hs, hx, hr]
  exact hK _ _ h
def PairsAt (w : World) (a : Option Addr) (ps : List (Value × Stp)) : Prop :=
  (ps = [] ∨ ∃ b off, a = some ⟨b, off, none⟩ ∧ ∀ j u, (flat2 (pairP ps))[j]? = some u → w.cell? ((⟨b, off, none⟩ : Addr).add j) = some u) ∧ (∀ p ∈ ps, SliceK w p.1 p.2.1) ∧ ∀ u ∈ flat2 (pairP ps), u.oneCell' = true
theorem PairsAt.ext {w w' : World} {a : Option Addr} {ps : List (Value × Stp)} (h : PairsAt w a ps) (k : Ext w w') : PairsAt w' a ps := by
  obtain ⟨h1, h2, h3⟩ := h
  refine ⟨?_, fun p hp => (h2 p hp).ext k, h3⟩
  rcases h1 with h1 | ⟨b, off, ha, hc⟩
  · exact .inl h1
  · exact .inr ⟨b, off, ha, fun j u hu => k.cell (hc j u hu)⟩
end Go.Proofs.YtbpjbhbbkonjlaaGreatDoor
namespace Go.Proofs.YtbpjbhbbkonjlaaGreatDoor
open Go.RowKit
end Go.Proofs.YtbpjbhbbkonjlaaGreatDoor
namespace Go.Proofs.YtbpjbhbbkonjlaaGreatDoor
open Go.RowKit
def mem1 (l : List Int) (x : Int) : Bool := l.contains x
set_option maxHeartbeats 1000000 in
theorem IndexI_any (l : List Int) (x : Int) (a : Option Addr) (cap : Nat) (w : World) (hl : l.length ≤ maxLen) (hc : CellsI w a l) :
    Calls Tryz.prog 63 #[.slice a l.length cap, .int .i64 x] w (AnyPost (mem1 l x) w) := by
  unfold maxLen at hl
  have HC := Lib.hid hc
  clear hc
  go_enter Tryz.func63, Tryz.ntmps63
  go_wp2
  go_loop [8] (fun i => ∃ k : Nat, k ≤ l.length ∧ i = .int .i64 k ∧ Hid (∀ j : Nat, j < k → l.getD j 0 ≠ x)) (fun i => l.length - (intOf i).toNat)
  case atStart => exact ⟨0, Nat.zero_le _, rfl, fun j hj => by omega⟩
  case round =>
    obtain ⟨k, hk, rfl, hnn⟩ := hrel
    by_cases hlt : k < l.length
    · obtain ⟨b, off, rfl, c1⟩ := HC.out k hlt
      by_cases hx : l.getD k 0 = x
      · have HB : Hid (mem1 l x = true) := by
          show _ = _
          unfold mem1
          rw [List.contains_iff_mem, ← hx, List.getD_eq_getElem?_getD, List.getElem?_eq_getElem hlt]
          simp
        rw [hx] at c1
        have hxx : (x == x) = true := by simp
        clear hx
        go_wp2
        go_ret
        exact ⟨(k : Int), rfl, by rw [HB.out]; simp, Ext.refl _⟩
      · have HX := Lib.hid hx
        have hx' : (x == l.getD k 0) = false := by simp; exact fun h => hx h.symm
        clear hx
        generalize hy : l.getD k 0 = y at c1 HX hx'
        have HY := Lib.hid hy
        clear hy
        go_wp2
        refine ⟨⟨k + 1, by omega, by go_num, fun j hj => ?_⟩, by simp [intOf]; omega⟩
        rcases Nat.lt_or_eq_of_le (Nat.le_of_lt_succ hj) with h | rfl
        · exact hnn.out j h
        · rw [HY.out]; exact HX.out
    · have HB : Hid (mem1 l x = false) := by
        show _ = _
        unfold mem1
        rw [← Bool.not_eq_true, List.contains_iff_mem]
        intro hm
        obtain ⟨j, hj, e⟩ := List.mem_iff_getElem.1 hm
        refine hnn.out j (by omega) ?_
        rw [List.getD_eq_getElem?_getD, List.getElem?_eq_getElem hj, e]; rfl
      go_wp2
      go_ret
      exact ⟨-1, rfl, by rw [HB.out]; simp, Ext.refl _⟩
theorem ContainsI_any (l : List Int) (x : Int) (a : Option Addr) (cap : Nat) (w : World) (hl : l.length ≤ maxLen) (hc : CellsI w a l) :
    Calls Tryz.prog 33 #[.slice a l.length cap, .int .i64 x] w fun e w' => e = .returned (.bool (mem1 l x)) ∧ Ext w w' := by
  have HC := Lib.hid hc
  have HL := Lib.hid hl
  clear hc hl
  go_enter Tryz.func33, Tryz.ntmps33
  go_wp2_with fail
  refine (IndexI_any l x a cap _ HL.out HC.out).mono ?_
  rintro e w1 ⟨r, rfl, hr, hE⟩
  have HR := Lib.hid hr
  clear hr
  go_wp2
  all_goals go_ret
  all_goals exact ⟨ret_bool HR.out, hE⟩
def SeqErr (s : Sq) (err : Int) (w : World) (e : Ending) (w' : World) : Prop := ∃ v, e = .returned (.tuple #[v, .int .i64 err]) ∧ SeqV w' v s ∧ Ext w w'
theorem CellsP.drop {w : World} {b off : Nat} {l : List Stp} (h : CellsP w (some ⟨b, off, none⟩) l) (k : Nat) : CellsP w (some ⟨b, off + k * 2, none⟩) (l.drop k) := fun i hi => by
  rw [List.length_drop] at hi
  obtain ⟨b', off', v, h1, h2, h3, h4⟩ := h (k + i) (by omega)
  cases h1
  have e : (l.drop k).getD i stp0 = l.getD (k + i) stp0 := by rw [List.getD_eq_getElem?_getD, List.getD_eq_getElem?_getD, List.getElem?_drop]
  rw [e]
  exact ⟨b, off + k * 2, v, rfl, by rw [show off + k * 2 + i * 2 = off + (k + i) * 2 from by omega]; exact h2, h3, by rw [show off + k * 2 + i * 2 + 1 = off + (k + i) * 2 + 1 from by omega]; exact h4⟩
theorem CellsP.take {w : World} {a : Option Addr} {l : List Stp} (h : CellsP w a l) (k : Nat) : CellsP w a (l.take k) := fun i hi => by
  rw [List.length_take] at hi
  have e : (l.take k).getD i stp0 = l.getD i stp0 := by
    rw [List.getD_eq_getElem?_getD, List.getD_eq_getElem?_getD, List.getElem?_take_of_lt (by omega)]
  rw [e]
  exact h i (by omega)
theorem Full.turn {l : List Stp} (h : Full l) (k : Nat) : Full (l.drop k ++ l.take k) := fun i hi => by
  have hm : (l.drop k ++ l.take k).getD i stp0 ∈ l := by
    have h1 : (l.drop k ++ l.take k).getD i stp0 ∈ l.drop k ++ l.take k := by
      rw [List.getD_eq_getElem?_getD, List.getElem?_eq_getElem hi]; simp
    rcases List.mem_append.1 h1 with h1 | h1
    · exact List.mem_of_mem_drop h1
    · exact List.mem_of_mem_take h1
  obtain ⟨j, hj, e⟩ := List.mem_iff_getElem.1 hm
  have := h j hj
  rw [List.getD_eq_getElem?_getD, List.getElem?_eq_getElem hj] at this
  rw [← e]
  exact this
theorem seqV_zero (w : World) : SeqV w (.agg #[.int .i64 0, .slice none 0 0]) sq0 := ⟨_, rfl, none, 0, rfl, fun i hi => by simp [sq0] at hi, by simp [sq0], by simp, fun h => by simp [sq0] at h⟩
end Go.Proofs.YtbpjbhbbkonjlaaGreatDoor
namespace Go.Proofs.YtbpjbhbbkonjlaaGreatDoor
open Go.RowKit
end Go.Proofs.YtbpjbhbbkonjlaaGreatDoor
namespace Go.Proofs.YtbpjbhbbkonjlaaGreatDoor
open Go.RowKit
structure TrSt (X : Nat → Prop) (o : Nat) (W0 wr : World) (n : Int) (ys : List Stp) : Prop where
  be : Below o W0 wr
  c0 : wr.cell? ⟨o, 0, none⟩ = some (.int .i64 n)
  f1 : wr.frozen? ⟨o, 1, none⟩ = false
  v : ∃ v, wr.cell? ⟨o, 1, none⟩ = some v ∧ OwnsP X wr v ys ∧ ∀ b, v.ownBlock = some b → o < b
end Go.Proofs.YtbpjbhbbkonjlaaGreatDoor
namespace Go.Proofs.YtbpjbhbbkonjlaaGreatDoor
open Go.RowKit
end Go.Proofs.YtbpjbhbbkonjlaaGreatDoor
