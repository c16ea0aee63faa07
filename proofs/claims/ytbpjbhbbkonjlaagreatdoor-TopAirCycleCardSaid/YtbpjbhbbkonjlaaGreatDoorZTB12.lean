/- Steps of the proof: UCnt, UBuy, UUse, UBuyW, UChk, UGiv, URest, URefP, ULev, UDearP, UDear, UOrd, TStk, QRnm, AShr. No conditions. -/
import Derived.Laws.IdiomCopy
import Derived.OwnWalk
import Derived.Laws.EntriesVeiled
import Derived.Laws.ResultCell
import Derived.Deep.Slices
import Derived.Test.YtbpjbhbbkonjlaaGreatDoorZTB1
import Derived.Test.YtbpjbhbbkonjlaaGreatDoorZTB2
import Derived.Test.YtbpjbhbbkonjlaaGreatDoorZTB3
import Derived.Test.YtbpjbhbbkonjlaaGreatDoorZTB4
import Derived.Test.YtbpjbhbbkonjlaaGreatDoorZTB5
import Derived.Test.YtbpjbhbbkonjlaaGreatDoorZTB6
import Derived.Test.YtbpjbhbbkonjlaaGreatDoorZTB7
import Derived.Test.YtbpjbhbbkonjlaaGreatDoorZTB8
import Derived.Test.YtbpjbhbbkonjlaaGreatDoorZTB9
import Derived.Test.YtbpjbhbbkonjlaaGreatDoorZTB10
import Derived.Test.YtbpjbhbbkonjlaaGreatDoorZTB11
namespace Go.Proofs.YtbpjbhbbkonjlaaGreatDoor
open Go.RowKit
theorem isNeg_any (x : Int) (w : World) : Calls Tryz.prog 89 #[.int .i64 x] w fun e w' => e = .returned (.bool (isNeg x)) ∧ Ext w w' := by
  unfold isNeg
  by_cases h1 : x < 0
  · go_enter Tryz.func89, Tryz.ntmps89
    go_wp2
    all_goals go_ret
    all_goals exact ⟨ret_bool (by first | (simp; done) | (simp; omega)), Ext.refl _⟩
  · go_enter Tryz.func89, Tryz.ntmps89
    go_wp2
    all_goals go_ret
    all_goals exact ⟨ret_bool (by first | (simp; done) | (simp; omega)), Ext.refl _⟩
set_option maxHeartbeats 1000000 in
theorem IndexNeg_any (l : List Int) (n : Nat) (a : Option Addr) (cap : Nat) (w : World) (hn : n = l.length) (hl : n ≤ maxLen) (hc : CellsI w a l) :
    Calls Tryz.prog 70 #[.slice a n cap, .func (.func 89) #[] #[]] w fun e w' => ∃ r : Int, e = .returned (.int .i64 r) ∧ decide (0 ≤ r) = l.any isNeg ∧ Ext w w' := by
  unfold maxLen at hl
  have HC := Lib.hid hc
  have HN := Lib.hid hn
  clear hc hn
  go_enter Tryz.func70, Tryz.ntmps70
  go_wp2
  go_loopw [8] (fun i wr => ∃ k : Nat, k ≤ n ∧ i = .int .i64 k ∧ Hid (∀ j, j < k → isNeg (l.getD j 0) = false) ∧ Ext w wr) (fun i _ => n - (intOf i).toNat)
  case atStart => exact ⟨0, Nat.zero_le _, rfl, fun j hj => by omega, Ext.refl _⟩
  case round =>
    obtain ⟨k, hk, rfl, hnn, he⟩ := hrel
    by_cases hlt : k < n
    · have hlt' : (k : Int) < (n : Int) := by omega
      obtain ⟨b, off, rfl, c1⟩ := HC.out.ext he k (by rw [← HN.out]; exact hlt)
      have HM : Hid (l.getD k 0 ∈ l) := by
        show _ ∈ _
        have h := HN.out
        rw [List.getD_eq_getElem?_getD, List.getElem?_eq_getElem (show k < l.length by omega)]; simp
      generalize hx : l.getD k 0 = x at c1 HM
      have HX := Lib.hid hx
      clear hx
      have z1 := cell_lt c1
      dsimp only at z1
      go_wp2_with fail
      refine (isNeg_any x _).mono ?_
      rintro e w1 ⟨rfl, hE⟩
      have E1 := he.trans hE
      cases hp : isNeg x
      · go_wp2
        refine ⟨⟨k + 1, by omega, by go_num, fun j hj => ?_, E1⟩, by simp [intOf]; omega⟩
        rcases Nat.lt_or_eq_of_le (Nat.le_of_lt_succ hj) with h | rfl
        · exact hnn.out j h
        · rw [HX.out]; exact hp
      · have HA : Hid (l.any isNeg = true) := List.any_eq_true.2 ⟨x, HM.out, hp⟩
        go_wp2
        go_ret
        exact ⟨(k : Int), rfl, by rw [HA.out]; simp, E1⟩
    · have hlt' : ¬ (k : Int) < (n : Int) := by omega
      have HA : Hid (l.any isNeg = false) := by
        show _ = _
        rw [List.any_eq_false]
        intro x hx
        obtain ⟨i, hi, e⟩ := List.mem_iff_getElem.1 hx
        have := hnn.out i (by have h := HN.out; omega)
        rw [List.getD_eq_getElem?_getD, List.getElem?_eq_getElem hi] at this
        simp at this
        rw [← e, this]; simp
      go_wp2
      go_ret
      exact ⟨-1, rfl, by rw [HA.out]; simp, he⟩
set_option maxHeartbeats 2000000 in
theorem ContainsNeg_any (l : List Int) (n : Nat) (a : Option Addr) (cap : Nat) (w : World) (hn : n = l.length) (hl : n ≤ maxLen) (hc : CellsI w a l) :
    Calls Tryz.prog 44 #[.slice a n cap, .func (.func 89) #[] #[]] w fun e w' => e = .returned (.bool (l.any isNeg)) ∧ Ext w w' := by
  have HC := Lib.hid hc
  have HN := Lib.hid hn
  have HL := Lib.hid hl
  clear hc hn hl
  go_enter Tryz.func44, Tryz.ntmps44
  go_wp2_with fail
  refine (IndexNeg_any l n a cap _ HN.out HL.out HC.out).mono ?_
  rintro e w1 ⟨r, rfl, hr, hE⟩
  have HR := Lib.hid hr
  clear hr
  go_wp2
  all_goals go_ret
  all_goals exact ⟨ret_bool HR.out, hE⟩
theorem isPos_any (x : Int) (w : World) : Calls Tryz.prog 45 #[.int .i64 x] w fun e w' => e = .returned (.bool (isPos x)) ∧ Ext w w' := by
  unfold isPos
  by_cases h1 : 0 < x
  · go_enter Tryz.func45, Tryz.ntmps45
    go_wp2
    all_goals go_ret
    all_goals exact ⟨ret_bool (by first | (simp; done) | (simp; omega)), Ext.refl _⟩
  · go_enter Tryz.func45, Tryz.ntmps45
    go_wp2
    all_goals go_ret
    all_goals exact ⟨ret_bool (by first | (simp; done) | (simp; omega)), Ext.refl _⟩
set_option maxHeartbeats 1000000 in
theorem IndexPos_any (l : List Int) (n : Nat) (a : Option Addr) (cap : Nat) (w : World) (hn : n = l.length) (hl : n ≤ maxLen) (hc : CellsI w a l) :
    Calls Tryz.prog 70 #[.slice a n cap, .func (.func 45) #[] #[]] w fun e w' => ∃ r : Int, e = .returned (.int .i64 r) ∧ decide (0 ≤ r) = l.any isPos ∧ Ext w w' := by
  unfold maxLen at hl
  have HC := Lib.hid hc
  have HN := Lib.hid hn
  clear hc hn
  go_enter Tryz.func70, Tryz.ntmps70
  go_wp2
  go_loopw [8] (fun i wr => ∃ k : Nat, k ≤ n ∧ i = .int .i64 k ∧ Hid (∀ j, j < k → isPos (l.getD j 0) = false) ∧ Ext w wr) (fun i _ => n - (intOf i).toNat)
  case atStart => exact ⟨0, Nat.zero_le _, rfl, fun j hj => by omega, Ext.refl _⟩
  case round =>
    obtain ⟨k, hk, rfl, hnn, he⟩ := hrel
    by_cases hlt : k < n
    · have hlt' : (k : Int) < (n : Int) := by omega
      obtain ⟨b, off, rfl, c1⟩ := HC.out.ext he k (by rw [← HN.out]; exact hlt)
      have HM : Hid (l.getD k 0 ∈ l) := by
        show _ ∈ _
        have h := HN.out
        rw [List.getD_eq_getElem?_getD, List.getElem?_eq_getElem (show k < l.length by omega)]; simp
      generalize hx : l.getD k 0 = x at c1 HM
      have HX := Lib.hid hx
      clear hx
      have z1 := cell_lt c1
      dsimp only at z1
      go_wp2_with fail
      refine (isPos_any x _).mono ?_
      rintro e w1 ⟨rfl, hE⟩
      have E1 := he.trans hE
      cases hp : isPos x
      · go_wp2
        refine ⟨⟨k + 1, by omega, by go_num, fun j hj => ?_, E1⟩, by simp [intOf]; omega⟩
        rcases Nat.lt_or_eq_of_le (Nat.le_of_lt_succ hj) with h | rfl
        · exact hnn.out j h
        · rw [HX.out]; exact hp
      · have HA : Hid (l.any isPos = true) := List.any_eq_true.2 ⟨x, HM.out, hp⟩
        go_wp2
        go_ret
        exact ⟨(k : Int), rfl, by rw [HA.out]; simp, E1⟩
    · have hlt' : ¬ (k : Int) < (n : Int) := by omega
      have HA : Hid (l.any isPos = false) := by
        show _ = _
        rw [List.any_eq_false]
        intro x hx
        obtain ⟨i, hi, e⟩ := List.mem_iff_getElem.1 hx
        have := hnn.out i (by have h := HN.out; omega)
        rw [List.getD_eq_getElem?_getD, List.getElem?_eq_getElem hi] at this
        simp at this
        rw [← e, this]; simp
      go_wp2
      go_ret
      exact ⟨-1, rfl, by rw [HA.out]; simp, he⟩
set_option maxHeartbeats 2000000 in
theorem ContainsPos_any (l : List Int) (n : Nat) (a : Option Addr) (cap : Nat) (w : World) (hn : n = l.length) (hl : n ≤ maxLen) (hc : CellsI w a l) :
    Calls Tryz.prog 44 #[.slice a n cap, .func (.func 45) #[] #[]] w fun e w' => e = .returned (.bool (l.any isPos)) ∧ Ext w w' := by
  have HC := Lib.hid hc
  have HN := Lib.hid hn
  have HL := Lib.hid hl
  clear hc hn hl
  go_enter Tryz.func44, Tryz.ntmps44
  go_wp2_with fail
  refine (IndexPos_any l n a cap _ HN.out HL.out HC.out).mono ?_
  rintro e w1 ⟨r, rfl, hr, hE⟩
  have HR := Lib.hid hr
  clear hr
  go_wp2
  all_goals go_ret
  all_goals exact ⟨ret_bool HR.out, hE⟩
theorem counts_any (l : List Int) (n : Nat) (a : Option Addr) (cap : Nat) (w : World) (hn : n = l.length) (hl : n ≤ maxLen) (hc : CellsI w a l) :
    Calls Tryz.prog 69 #[.slice a n cap] w fun e w' => e = .returned (.bool (!l.any isNeg)) ∧ Ext w w' := by
  have HC := Lib.hid hc
  have HN := Lib.hid hn
  have HL := Lib.hid hl
  clear hc hn hl
  go_enter Tryz.func69, Tryz.ntmps69
  go_wp2_with fail
  refine (ContainsNeg_any l n a cap _ HN.out HL.out HC.out).mono ?_
  rintro e w1 ⟨rfl, hE⟩
  go_wp2
  go_ret
  exact ⟨rfl, hE⟩
set_option maxHeartbeats 1000000 in
theorem better_any (bb : Nat) (found : Bool) (bp bs price size : Int) (w : World) (h1 : w.cell? ⟨bb, 1, none⟩ = some (.int .i64 bp)) (h2 : w.cell? ⟨bb, 2, none⟩ = some (.int .i64 bs)) (h3 : w.cell? ⟨bb, 3, none⟩ = some (.bool found)) :
    Calls Tryz.prog 43 #[.pointer (some ⟨bb, 0, none⟩), .int .i64 price, .int .i64 size] w fun e w' => e = .returned (.bool (betterS found bp bs price size)) ∧ Ext w w' := by
  unfold betterS
  have z1 := cell_lt h1
  dsimp only at z1
  cases found
  · go_enter Tryz.func43, Tryz.ntmps43
    go_wp2
    all_goals go_ret
    all_goals exact ⟨rfl, Ext.refl _⟩
  · by_cases k1 : price < bp
    · go_enter Tryz.func43, Tryz.ntmps43
      go_wp2
      all_goals go_ret
      all_goals exact ⟨ret_bool (by simp [k1]), Ext.refl _⟩
    · by_cases k2 : price = bp
      · have k2' : (price == bp) = true := by simp [k2]
        go_enter Tryz.func43, Tryz.ntmps43
        go_wp2
        all_goals go_ret
        all_goals exact ⟨ret_bool (by simp), Ext.refl _⟩
      · have k2' : (price == bp) = false := by simp [k2]
        go_enter Tryz.func43, Tryz.ntmps43
        go_wp2
        all_goals go_ret
        all_goals exact ⟨ret_bool (by simp [k1]), Ext.refl _⟩
set_option maxHeartbeats 1000000 in
theorem Max_any (l : List Int) (n : Nat) (a : Option Addr) (cap : Nat) (w : World) (hn : n + 1 = l.length) (hl : n + 1 ≤ maxLen) (hc : CellsI w a l) :
    Calls Tryz.prog 41 #[.slice a (n + 1) cap] w fun e w' => e = .returned (.int .i64 (maxK l n)) ∧ Ext w w' := by
  unfold maxLen at hl
  have HC := Lib.hid hc
  have HN := Lib.hid hn
  obtain ⟨b, off, rfl, c0⟩ := hc 0 (by omega)
  have c0 : w.cell? ⟨b, off, none⟩ = some (.int .i64 (l.getD 0 0)) := by simpa using c0
  have z0 := cell_lt c0
  dsimp only at z0
  have q0 : ¬ (n : Int) + 1 < 1 := by omega
  have q1 : (0 : Int) < (n : Int) + 1 := by omega
  clear hc hn
  go_enter Tryz.func41, Tryz.ntmps41
  go_wp2
  go_loopw [3, 4] (fun m i wr => ∃ k : Nat, k ≤ n ∧ i = .int .i64 ((k : Int) + 1) ∧ m = .int .i64 (maxK l k) ∧ Ext w wr) (fun _ i _ => n + 1 - (intOf i).toNat)
  case atStart => exact ⟨0, Nat.zero_le _, rfl, rfl, Ext.refl _⟩
  case round =>
    obtain ⟨k, hk, rfl, rfl, he⟩ := hrel
    by_cases hlt : k < n
    · have hlt' : (k : Int) + 1 < (n : Int) + 1 := by omega
      obtain ⟨b', off', hb', c1⟩ := HC.out.ext he (k + 1) (by rw [← HN.out]; omega)
      cases hb'
      have hm : maxK l (k + 1) = max (maxK l k) (l.getD (k + 1) 0) := rfl
      generalize l.getD (k + 1) 0 = x at c1 hm
      generalize maxK l k = y at hm ⊢
      have HM := Lib.hid hm
      clear hm
      have i5 : IntKind.i64.wrap ((k : Int) + 1 + 1) = (k : Int) + 1 + 1 := IntWalk.i64_in _ (by omega)
      have i3 : (0 : Int) ≤ (k : Int) + 1 := by omega
      have z1 := cell_lt c1
      dsimp only at z1
      go_wp2
      all_goals refine ⟨⟨k + 1, by omega, by go_num, ?_, he⟩, by simp [intOf]; omega⟩
      all_goals (first | (rw [HM.out]; done) | (rw [HM.out]; congr 1; omega))
    · have hke : k = n := by omega
      subst hke
      have hlt' : ¬ (k : Int) + 1 < (k : Int) + 1 := by omega
      go_wp2
      go_ret
      exact ⟨rfl, he⟩
end Go.Proofs.YtbpjbhbbkonjlaaGreatDoor
namespace Go.Proofs.YtbpjbhbbkonjlaaGreatDoor
open Go.RowKit
theorem infoIn : (Tryz.prog.info? 3).map (fun i => (i.zero, i.size, i.bytes)) = some (some (.int .i64 0), 1, 8) := by kernel_rfl
theorem sizeIn : (Tryz.prog.info? 3).map (·.size) = some 1 := by kernel_rfl
theorem run_copyI {P : Program} (w : World) (T : TypeId) (elem : TypeId) (hu : P.underlying T = some (.slice elem)) (hsz : (P.info? elem).map (·.size) = some 1)
    (g dLen dCap : Nat) (sp : Option Addr) (sLen sCap : Nat) (cs : List Int) (hn : cs.length = Nat.min sLen dLen) (hsrc : CellsI w sp cs) (hc : ∀ j, j < cs.length → (w.cell? ⟨g, j, none⟩).isSome = true) (hf : ∀ j, j < cs.length → w.frozen? ⟨g, j, none⟩ = false) (ty : TypeId) :
    (Builtin.copy_ #[T, T] ty #[.slice (some ⟨g, 0, none⟩) dLen dCap, .slice sp sLen sCap]).run P w = .ok (goInt cs.length) (w.setCells g 0 (vals cs)) := by
  by_cases h0 : cs.length = 0
  · have hz : cs = [] := List.eq_nil_of_length_eq_zero h0
    subst hz
    exact run_copy_none w T T ty elem (some ⟨g, 0, none⟩) sp dLen dCap sLen sCap hu hsz (by simpa using hn.symm)
  · obtain ⟨b, off, rfl, _⟩ := hsrc 0 (by omega)
    have hv : (vals cs).length = cs.length := by simp [vals]
    have := run_copy_cells (P := P) w T T ty elem g 0 dLen dCap ⟨b, off, none⟩ sLen sCap (vals cs) hu hsz (by rw [hv, hn]) (fun j v hj => by
      have hjl : j < cs.length := by rw [← hv]; exact (List.getElem?_eq_some_iff.1 hj).1
      obtain ⟨b', off', h1, h2⟩ := hsrc j hjl
      cases h1
      rw [Addr.add_lit, h2, ← hj]
      simp [vals, List.getD, hjl]) (fun j hj => by rw [Nat.zero_add]; exact hc j (by rwa [hv] at hj)) (fun j hj => by rw [Nat.zero_add]; exact hf j (by rwa [hv] at hj)) (fun v hv2 => by
      obtain ⟨x, _, rfl⟩ := List.mem_map.1 hv2; rfl)
    rw [hv] at this
    exact this
def ArrI (w : World) (b : Nat) (l : List Int) : Prop := ∀ j, j < l.length → w.cell? ⟨b, j, none⟩ = some (.int .i64 (l.getD j 0)) ∧ w.frozen? ⟨b, j, none⟩ = false
theorem ArrI.cells {w : World} {b : Nat} {l : List Int} (h : ArrI w b l) : CellsI w (some ⟨b, 0, none⟩) l := fun i hi => ⟨b, 0, rfl, by rw [Nat.zero_add]; exact (h i hi).1⟩
theorem ArrI.set {w : World} {b : Nat} {l : List Int} (h : ArrI w b l) {i : Nat} (hi : i < l.length) (x : Int) : ArrI (w.setCell ⟨b, i, none⟩ (.int .i64 x)) b (l.set i x) := fun j hj => by
  rw [List.length_set] at hj
  refine ⟨?_, by rw [World.frozen?_setCell]; exact (h j hj).2⟩
  have hg : (l.set i x).getD j 0 = if j = i then x else l.getD j 0 := by
    rw [List.getD_eq_getElem?_getD, List.getElem?_set]
    by_cases e : i = j
    · subst e; simp [hi]
    · rw [if_neg e, if_neg (fun h => e h.symm), List.getD_eq_getElem?_getD]
  rw [hg]
  by_cases e : j = i
  · subst e; rw [World.cell?_setCell_same _ _ _ (h j hj).1, if_pos rfl]
  · rw [World.cell?_setCell_other _ _ _ _ (fun h => e (by simp only [Addr.mk.injEq, true_and, and_true] at h; exact h.symm)), (h j hj).1, if_neg e]
theorem ArrI.same {w w' : World} {b : Nat} {l : List Int} (h : ArrI w b l) (he : w'.heap[b]? = w.heap[b]?) : ArrI w' b l := fun j hj =>
  ⟨(World.cell?_of_block (w := w) (a := ⟨b, j, none⟩) he).trans (h j hj).1, (World.frozen?_of_block (w := w) (a := ⟨b, j, none⟩) he).trans (h j hj).2⟩
theorem ArrI.lt {w : World} {b : Nat} {l : List Int} (h : ArrI w b l) (hl : 0 < l.length) : b < w.heap.size := cell_lt (h 0 hl).1
theorem ArrI.lay {w : World} {b : Nat} {l cs : List Int} (h : ArrI w b l) (hc : cs.length ≤ l.length) : ArrI (w.setCells b 0 (vals cs)) b (cs ++ l.drop cs.length) := fun j hj => by
  rw [List.length_append, List.length_drop] at hj
  have hv : (vals cs).length = cs.length := by simp [vals]
  refine ⟨?_, by rw [World.frozen?_setCells]; exact (h j (by omega)).2⟩
  by_cases e : j < cs.length
  · have := World.cell?_setCells_in b (vals cs) 0 w (fun t ht => by rw [Nat.zero_add, (h t (by omega)).1]; rfl) j (by omega)
    rw [Nat.zero_add] at this
    rw [this, List.getD_eq_getElem?_getD, List.getElem?_append_left e]
    simp [vals, e]
  · rw [World.cell?_setCells_out b _ 0 w _ (fun _ _ => Or.inr (by rw [hv]; dsimp only; omega)), (h j (by omega)).1, List.getD_eq_getElem?_getD, List.getD_eq_getElem?_getD, List.getElem?_append_right (by omega), List.getElem?_drop, show cs.length + (j - cs.length) = j by omega]
theorem CellsI.chg2 {B : Nat → Prop} {w w' : World} {a : Option Addr} {l : List Int} (h : CellsI w a l) (he : Chg B w w') (hm : ∀ b off, a = some ⟨b, off, none⟩ → ¬ B b) : CellsI w' a l := fun i hi => by
  obtain ⟨b, off, h1, h2⟩ := h i hi
  exact ⟨b, off, h1, (World.cell?_of_block (w := w) (a := ⟨b, _, none⟩) (he.2 b (cell_lt h2) (hm b off h1))).trans h2⟩
def BX (bb nwb : Nat) : Nat → Prop := fun k => k = bb ∨ k = nwb
def buyV (bb nb xb fb : Nat) : Value := .func (.func 42) #[] #[.pointer (some ⟨bb, 0, none⟩), .pointer (some ⟨nb, 0, none⟩), .pointer (some ⟨xb, 0, none⟩), .pointer (some ⟨fb, 0, none⟩)]
def PksAt (w : World) (X : Nat → Prop) (pa : Option Addr) (K : Nat) (pks : List Pk) : Prop :=
  ∀ i, i < pks.length → ∃ b off ai ci, pa = some ⟨b, off, none⟩ ∧ w.cell? ⟨b, off + i * 3, none⟩ = some (.slice ai K ci) ∧ w.cell? ⟨b, off + i * 3 + 1, none⟩ = some (.int .i64 (pks.getD i pk0).price) ∧ w.cell? ⟨b, off + i * 3 + 2, none⟩ = some (.int .i64 (pks.getD i pk0).most) ∧ CellsI w ai (pks.getD i pk0).parts ∧ ¬ X b ∧ ∀ b' o', ai = some ⟨b', o', none⟩ → ¬ X b'
theorem cell_chg {X : Nat → Prop} {A B : World} (c : Chg X A B) {b o : Nat} {v : Value} (h : A.cell? ⟨b, o, none⟩ = some v) (hn : ¬ X b) : B.cell? ⟨b, o, none⟩ = some v :=
  (World.cell?_of_block (w := A) (a := ⟨b, o, none⟩) (c.2 b (cell_lt h) hn)).trans h
theorem PksAt.chg {A B : World} {X : Nat → Prop} {pa : Option Addr} {K : Nat} {pks : List Pk} (h : PksAt A X pa K pks) (c : Chg X A B) : PksAt B X pa K pks := fun i hi => by
  obtain ⟨b, off, ai, ci, h1, h2, h3, h4, h5, h6, h7⟩ := h i hi
  exact ⟨b, off, ai, ci, h1, cell_chg c h2 h6, cell_chg c h3 h6, cell_chg c h4 h6, h5.chg2 c h7, h6, h7⟩
structure EnvB (w : World) (pks : List Pk) (K xb nb fb bb nwb : Nat) (pa : Option Addr) (pc : Nat) : Prop where
  x0 : w.cell? ⟨xb, 0, none⟩ = some (.slice pa pks.length pc)
  n0 : w.cell? ⟨nb, 0, none⟩ = some (.slice (some ⟨nwb, 0, none⟩) pks.length pks.length)
  f0 : w.cell? ⟨fb, 0, none⟩ = some (buyV bb nb xb fb)
  pk : PksAt w (BX bb nwb) pa K pks
  xn : ¬ BX bb nwb xb
  nn : ¬ BX bb nwb nb
  fn : ¬ BX bb nwb fb
theorem EnvB.chg {A B : World} {pks : List Pk} {K xb nb fb bb nwb : Nat} {pa : Option Addr} {pc : Nat} (h : EnvB A pks K xb nb fb bb nwb pa pc) (c : Chg (BX bb nwb) A B) : EnvB B pks K xb nb fb bb nwb pa pc :=
  ⟨cell_chg c h.x0 h.xn, cell_chg c h.n0 h.nn, cell_chg c h.f0 h.fn, h.pk.chg c, h.xn, h.nn, h.fn⟩
structure StB (w : World) (bb nwb : Nat) (now : List Int) (b : Bst) : Prop where
  nw : ArrI w nwb now
  o : ∃ oa oc, w.cell? ⟨bb, 0, none⟩ = some (.slice oa b.order.length oc) ∧ CellsI w oa b.order ∧ ∀ b' o', oa = some ⟨b', o', none⟩ → ¬ BX bb nwb b'
  p : w.cell? ⟨bb, 1, none⟩ = some (.int .i64 b.price)
  s : w.cell? ⟨bb, 2, none⟩ = some (.int .i64 b.size)
  f : w.cell? ⟨bb, 3, none⟩ = some (.bool b.found)
  z0 : w.frozen? ⟨bb, 0, none⟩ = false
  z1 : w.frozen? ⟨bb, 1, none⟩ = false
  z2 : w.frozen? ⟨bb, 2, none⟩ = false
  z3 : w.frozen? ⟨bb, 3, none⟩ = false
  ne : bb ≠ nwb
  nl : nwb < w.heap.size
theorem StB.ext {A B : World} {bb nwb : Nat} {now : List Int} {b : Bst} (h : StB A bb nwb now b) (x : Ext A B) : StB B bb nwb now b := by
  obtain ⟨oa, oc, o1, o2, o3⟩ := h.o
  exact ⟨h.nw.same (Below.block x nwb h.nl), ⟨oa, oc, x.cell o1, o2.ext x, o3⟩, x.cell h.p, x.cell h.s, x.cell h.f,
    (Below.frozen (p := ⟨bb, 0, none⟩) x (cell_lt o1)).trans h.z0, (Below.frozen (p := ⟨bb, 1, none⟩) x (cell_lt h.p)).trans h.z1, (Below.frozen (p := ⟨bb, 2, none⟩) x (cell_lt h.s)).trans h.z2, (Below.frozen (p := ⟨bb, 3, none⟩) x (cell_lt h.f)).trans h.z3, h.ne, x.size_lt h.nl⟩
theorem buyS_stop {pks : List Pk} {f : Nat} {need : List Int} {price size : Int} {s r : List Int × Bst} (h : stopS need price size f s = some r) : buyS pks f need price size s = r := by
  cases f <;> (unfold buyS; rw [h]; rfl)
theorem buyS_zero {pks : List Pk} {need : List Int} {price size : Int} {s : List Int × Bst} (h : stopS need price size 0 s = none) : buyS pks 0 need price size s = s := by unfold buyS; rw [h]; rfl
theorem buyS_succ {pks : List Pk} {f : Nat} {need : List Int} {price size : Int} {s : List Int × Bst} (h : stopS need price size (f + 1) s = none) : buyS pks (f + 1) need price size s =
    iterS (fun n t => buyS pks f (leftS need (pks.getD (pks.length - (f + 1)) pk0).parts n) (price + n * (pks.getD (pks.length - (f + 1)) pk0).price) (size + n) (t.1.set (pks.length - (f + 1)) n, t.2)) s (usefulS (pks.getD (pks.length - (f + 1)) pk0) need + 1).toNat := by
  conv => lhs; unfold buyS
  rw [h]; rfl
end Go.Proofs.YtbpjbhbbkonjlaaGreatDoor
namespace Go.Proofs.YtbpjbhbbkonjlaaGreatDoor
open Go.RowKit
set_option maxHeartbeats 2000000 in
theorem useful_any (p : Pk) (need : List Int) (K : Nat) (ai na : Option Addr) (ci nc : Nat) (w : World) (hK : p.parts.length = K) (hn : need.length = K) (hk : K ≤ 16) (hp : ∀ x ∈ p.parts, 0 ≤ x ∧ x ≤ 1048576) (hb : ∀ k, k < K → -1000000000 ≤ need.getD k 0 ∧ need.getD k 0 ≤ 20) (hc : CellsI w ai p.parts) (hd : CellsI w na need) :
    Calls Tryz.prog 46 #[.agg #[.slice ai K ci, .int .i64 p.price, .int .i64 p.most], .slice na K nc] w fun e w' => e = .returned (.int .i64 (usefulS p need)) ∧ Ext w w' := by
  have HC := Lib.hid hc
  have HD := Lib.hid hd
  have HP := Lib.hid hp
  have HB := Lib.hid hb
  have HK := Lib.hid hK
  have HN := Lib.hid hn
  have HU : Hid (∀ k, k ≤ K → 0 ≤ useK p need k ∧ useK p need k ≤ 20) := fun k hk2 => useK_bd (K := K) hp (fun j hj => (hb j hj).2) k hk2 (by omega)
  have HV : Hid (usefulS p need = min (useK p need K) p.most) := by show _ = _; unfold usefulS; rw [hK]
  have E0 : Ext w (w.alloc (.cells #[.slice ai K ci, .int .i64 p.price, .int .i64 p.most] 94)) := (Ext.refl _).alloc _
  have a1 : (w.alloc (.cells #[.slice ai K ci, .int .i64 p.price, .int .i64 p.most] 94)).cell? ⟨w.heap.size, 0, none⟩ = some (.slice ai K ci) := by go_simp
  have a2 : (w.alloc (.cells #[.slice ai K ci, .int .i64 p.price, .int .i64 p.most] 94)).cell? ⟨w.heap.size, 2, none⟩ = some (.int .i64 p.most) := by go_simp
  clear hc hd hp hb hK hn
  go_enter Tryz.func46, Tryz.ntmps46
  go_wp2
  generalize w.alloc (.cells #[.slice ai K ci, .int .i64 p.price, .int .i64 p.most] 94) = W at E0 a1 a2 ⊢
  go_loopw [5, 11] (fun m i wr => ∃ k : Nat, k ≤ K ∧ i = .int .i64 k ∧ m = .int .i64 (useK p need k) ∧ Ext W wr) (fun _ i _ => K - (intOf i).toNat)
  case atStart => exact ⟨0, Nat.zero_le _, rfl, rfl, Ext.refl _⟩
  case round =>
    obtain ⟨k, hkk, rfl, rfl, he⟩ := hrel
    have hu := HU.out k hkk
    by_cases hlt : k < K
    · have hlt' : (k : Int) < (K : Int) := by omega
      obtain ⟨b1, o1, rfl, c1⟩ := HC.out.ext (E0.trans he) k (by rw [HK.out]; exact hlt)
      obtain ⟨b2, o2, rfl, c2⟩ := HD.out.ext (E0.trans he) k (by rw [HN.out]; exact hlt)
      have hy : 0 ≤ p.parts.getD k 0 ∧ p.parts.getD k 0 ≤ 1048576 := HP.out _ (by have h := HK.out; rw [List.getD_eq_getElem?_getD, List.getElem?_eq_getElem (show k < p.parts.length by omega)]; simp)
      have hx := HB.out k hlt
      have hu1 := HU.out (k + 1) (by omega)
      have hst : useK p need (k + 1) = if 0 < p.parts.getD k 0 ∧ 0 < need.getD k 0 then max (useK p need k) ((need.getD k 0 + p.parts.getD k 0 - 1).tdiv (p.parts.getD k 0)) else useK p need k := rfl
      rw [hst] at hu1
      generalize p.parts.getD k 0 = y at c1 hy hst hu1
      generalize need.getD k 0 = x at c2 hx hst hu1
      generalize useK p need k = m at hu hst hu1 ⊢
      have z1 := cell_lt c1
      have z2 := cell_lt c2
      dsimp only at z1 z2
      by_cases h1 : 0 < y
      · by_cases h2 : 0 < x
        · rw [if_pos ⟨h1, h2⟩] at hst hu1
          have q1 : IntKind.i64.wrap (x + y) = x + y := IntWalk.i64_in _ (by omega)
          have q2 : IntKind.i64.wrap (x + y - 1) = x + y - 1 := IntWalk.i64_in _ (by omega)
          have q3 : (y == 0) = false := by simp; omega
          have q4 : ¬ y = 0 := by omega
          have hdv : 0 ≤ (x + y - 1).tdiv y ∧ (x + y - 1).tdiv y ≤ 20 := by
            refine ⟨?_, by omega⟩
            rw [Int.tdiv_eq_ediv_of_nonneg (by omega)]
            exact Int.ediv_nonneg (by omega) (by omega)
          have q6 : (x + y - 1).tdiv y = (x + y - 1) / y := Int.tdiv_eq_ediv_of_nonneg (by omega)
          generalize hd : (x + y - 1).tdiv y = d at hst hdv q6
          have q5 : IntKind.i64.wrap d = d := IntWalk.i64_in _ (by omega)
          have HST := Lib.hid hst
          have q7 := q6.symm
          clear hst hu1 q6
          go_wp2
          all_goals refine ⟨⟨k + 1, by omega, by go_num, ?_, he⟩, by simp [intOf]; omega⟩
          all_goals (first | (rw [HST.out]; done) | (rw [HST.out]; congr 1; omega))
        · rw [if_neg (fun h => h2 h.2)] at hst
          have HST := Lib.hid hst
          clear hst hu1
          go_wp2
          exact ⟨⟨k + 1, by omega, by go_num, by rw [HST.out], he⟩, by simp [intOf]; omega⟩
      · rw [if_neg (fun h => h1 h.1)] at hst
        have HST := Lib.hid hst
        clear hst hu1
        go_wp2
        exact ⟨⟨k + 1, by omega, by go_num, by rw [HST.out], he⟩, by simp [intOf]; omega⟩
    · have hke : k = K := by omega
      subst hke
      have a1 := he.cell a1
      have a2 := he.cell a2
      have hlt' : ¬ (k : Int) < (k : Int) := by omega
      generalize useK p need k = m at hu HV ⊢
      go_wp2
      all_goals go_ret
      all_goals exact ⟨ret_int (by first | (rw [HV.out]; done) | (rw [HV.out]; omega)), E0.trans he⟩
end Go.Proofs.YtbpjbhbbkonjlaaGreatDoor
namespace Go.Proofs.YtbpjbhbbkonjlaaGreatDoor
open Go.RowKit
theorem StB.put {w : World} {bb nwb : Nat} {now : List Int} {b : Bst} (h : StB w bb nwb now b) (ord : List Int) (price size : Int) (ob c : Nat) (ho : ArrI w ob ord) (hx : ¬ BX bb nwb ob) :
    StB ((((w.setCell ⟨bb, 0, none⟩ (.slice (some ⟨ob, 0, none⟩) ord.length c)).setCell ⟨bb, 1, none⟩ (.int .i64 price)).setCell ⟨bb, 2, none⟩ (.int .i64 size)).setCell ⟨bb, 3, none⟩ (.bool true)) bb nwb now ⟨ord, price, size, true⟩ ∧
    Chg (BX bb nwb) w ((((w.setCell ⟨bb, 0, none⟩ (.slice (some ⟨ob, 0, none⟩) ord.length c)).setCell ⟨bb, 1, none⟩ (.int .i64 price)).setCell ⟨bb, 2, none⟩ (.int .i64 size)).setCell ⟨bb, 3, none⟩ (.bool true)) := by
  obtain ⟨oa, oc, o1, _, _⟩ := h.o
  have s1 : w.cell? ⟨bb, 1, none⟩ = some (.int .i64 b.price) := h.p
  have s2 := h.s
  have s3 := h.f
  have c1 : Chg (fun k => k = bb) w ((((w.setCell ⟨bb, 0, none⟩ (.slice (some ⟨ob, 0, none⟩) ord.length c)).setCell ⟨bb, 1, none⟩ (.int .i64 price)).setCell ⟨bb, 2, none⟩ (.int .i64 size)).setCell ⟨bb, 3, none⟩ (.bool true)) :=
    (((Chg.setCell (B := fun k => k = bb) ⟨bb, 0, none⟩ _ rfl).trans (Chg.setCell (B := fun k => k = bb) ⟨bb, 1, none⟩ _ rfl)).trans (Chg.setCell (B := fun k => k = bb) ⟨bb, 2, none⟩ _ rfl)).trans (Chg.setCell (B := fun k => k = bb) ⟨bb, 3, none⟩ _ rfl)
  have hob : ob ≠ bb := fun e => hx (.inl e)
  refine ⟨⟨h.nw.same (c1.2 nwb h.nl (fun e => h.ne e.symm)), ⟨some ⟨ob, 0, none⟩, c, ?_, ?_, fun b' o' e => (by cases e; exact hx)⟩, ?_, ?_, ?_, ?_, ?_, ?_, ?_, h.ne, Nat.lt_of_lt_of_le h.nl c1.1⟩, ⟨c1.1, fun k hk hn => c1.2 k hk (fun e => hn (.inl e))⟩⟩
  · go_simp
  · exact ArrI.cells (fun j hj => by
      obtain ⟨a1, a2⟩ := ho j hj
      exact ⟨(World.cell?_of_block (w := w) (a := ⟨ob, j, none⟩) (c1.2 ob (cell_lt a1) hob)).trans a1, (World.frozen?_of_block (w := w) (a := ⟨ob, j, none⟩) (c1.2 ob (cell_lt a1) hob)).trans a2⟩)
  · go_simp
  · go_simp
  · go_simp
  · simp only [World.frozen?_setCell]; exact h.z0
  · simp only [World.frozen?_setCell]; exact h.z1
  · simp only [World.frozen?_setCell]; exact h.z2
  · simp only [World.frozen?_setCell]; exact h.z3
theorem set_below (b : Nat) : ∀ (vs : List Value) (o : Nat) (w : World), Below b w (w.setCells b o vs) ∧ Chg (fun k => k = b) w (w.setCells b o vs) := by
  intro vs
  induction vs with
  | nil => intro o w; exact ⟨Below.refl _ _, Chg.refl _ _⟩
  | cons v r ih =>
    intro o w
    obtain ⟨h1, h2⟩ := ih (o + 1) (w.setCell ⟨b, o, none⟩ v)
    exact ⟨Below.trans ((Below.refl _ _).setCell (p := ⟨b, o, none⟩) (Nat.le_refl _) _) h1, (Chg.setCell (B := fun k => k = b) ⟨b, o, none⟩ v rfl).trans h2⟩
theorem ext_getD2 {l m : List Int} (h : l.length = m.length) (k : ∀ i, i < l.length → l.getD i 0 = m.getD i 0) : l = m := by
  refine List.ext_getElem h fun i h1 h2 => ?_
  have := k i h1
  simpa [List.getD, h1, h2] using this
theorem getD_set2 (l : List Int) (i : Nat) (x : Int) (j : Nat) (hi : i < l.length) : (l.set i x).getD j 0 = if j = i then x else l.getD j 0 := by
  rw [List.getD_eq_getElem?_getD, List.getElem?_set]
  by_cases e : i = j
  · subst e; simp [hi]
  · rw [if_neg e, if_neg (fun h => e h.symm), List.getD_eq_getElem?_getD]
theorem leftJ_set {need parts : List Int} {n : Int} {j : Nat} (hj : j < need.length) : (leftJ need parts n j).set j (need.getD j 0 - n * parts.getD j 0) = leftJ need parts n (j + 1) := by
  refine ext_getD2 (by rw [List.length_set, leftJ_len, leftJ_len]) fun k hk => ?_
  rw [List.length_set, leftJ_len] at hk
  rw [getD_set2 _ _ _ _ (by rw [leftJ_len]; exact hj), leftJ_get _ _ _ _ hk, leftJ_get _ _ _ _ hk]
  by_cases e : k = j
  · subst e
    rw [if_pos rfl, if_pos (by omega)]
  · rw [if_neg e]
    by_cases h : k < j
    · rw [if_pos h, if_pos (by omega)]
    · rw [if_neg h, if_neg (by omega)]
theorem leftJ_zero (need parts : List Int) (n : Int) : leftJ need parts n 0 = need := by
  refine ext_getD2 (by rw [leftJ_len]) fun k hk => ?_
  rw [leftJ_len] at hk
  rw [leftJ_get _ _ _ _ hk, if_neg (by omega)]
theorem StB.now {w : World} {bb nwb : Nat} {now : List Int} {b : Bst} (h : StB w bb nwb now b) {i : Nat} (hi : i < now.length) (x : Int) : StB (w.setCell ⟨nwb, i, none⟩ (.int .i64 x)) bb nwb (now.set i x) b ∧ Chg (BX bb nwb) w (w.setCell ⟨nwb, i, none⟩ (.int .i64 x)) := by
  have c : Chg (fun k => k = nwb) w (w.setCell ⟨nwb, i, none⟩ (.int .i64 x)) := Chg.setCell (B := fun k => k = nwb) ⟨nwb, i, none⟩ _ rfl
  obtain ⟨oa, oc, o1, o2, o3⟩ := h.o
  have hb := c.2 bb (cell_lt h.p) h.ne
  refine ⟨⟨h.nw.set hi x, ⟨oa, oc, cell_chg c o1 h.ne, o2.chg2 c (fun b' o' e e2 => o3 b' o' e (.inr e2)), o3⟩, cell_chg c h.p h.ne, cell_chg c h.s h.ne, cell_chg c h.f h.ne, ?_, ?_, ?_, ?_, h.ne, Nat.lt_of_lt_of_le h.nl c.1⟩, ⟨c.1, fun k hk hn => c.2 k hk (fun e => hn (.inr e))⟩⟩
  · rw [World.frozen?_setCell]; exact h.z0
  · rw [World.frozen?_setCell]; exact h.z1
  · rw [World.frozen?_setCell]; exact h.z2
  · rw [World.frozen?_setCell]; exact h.z3
set_option maxHeartbeats 8000000 in
set_option maxRecDepth 100000 in
theorem buy_any {pks : List Pk} {K xb nb fb bb nwb : Nat} {pa : Option Addr} {pc : Nat} (ht : TaskOk pks K) (m0 : Nat) (hm1 : m0 ≤ bb) (hm2 : m0 ≤ nwb) : ∀ (f i : Nat), i + f = pks.length → ∀ (need : List Int) (price size : Int) (na : Option Addr) (nc : Nat) (now : List Int) (b : Bst) (w : World),
    NeedOk need price size K i → now.length = pks.length → EnvB w pks K xb nb fb bb nwb pa pc → StB w bb nwb now b → CellsI w na need → (∀ b' o', na = some ⟨b', o', none⟩ → ¬ BX bb nwb b') →
    Calls Tryz.prog 42 #[.int .i64 i, .slice na K nc, .int .i64 price, .int .i64 size, .pointer (some ⟨bb, 0, none⟩), .pointer (some ⟨nb, 0, none⟩), .pointer (some ⟨xb, 0, none⟩), .pointer (some ⟨fb, 0, none⟩)] w fun e w' =>
      e = .returned (.tuple #[]) ∧ StB w' bb nwb (buyS pks f need price size (now, b)).1 (buyS pks f need price size (now, b)).2 ∧ Chg (BX bb nwb) w w' ∧ Below m0 w w' := by
  intro f
  induction f using Nat.strongRecOn with
  | ind f ih =>
    intro i hif need price size na nc now b w hno hnl he hs hc hna
    have IH : Hid _ := ih
    have HT := Lib.hid ht
    have HNO := Lib.hid hno
    have HNL := Lib.hid hnl
    have HE := Lib.hid he
    have HS := Lib.hid hs
    have HC := Lib.hid hc
    have HNA := Lib.hid hna
    obtain ⟨N, hN⟩ : ∃ N, N = pks.length := ⟨_, rfl⟩
    have HN := Lib.hid hN
    rw [← hN] at hif
    have hN5 : N ≤ 5 := by rw [hN]; exact ht.len
    have hK16 := ht.kinds
    have hm0 : m0 ≤ w.heap.size := by have := cell_lt hs.p; dsimp only at this; omega
    clear ih hno hnl he hs hc hna hN ht
    go_enter Tryz.func42, Tryz.ntmps42
    go_wp2_with fail
    refine (better_any bb b.found b.price b.size price size _ HS.out.p HS.out.s HS.out.f).mono ?_
    rintro e w1 ⟨rfl, hE⟩
    have HS1 := Lib.hid (HS.out.ext hE)
    have HE1 := Lib.hid (HE.out.chg (Chg.ext hE))
    have HC1 := Lib.hid (HC.out.ext hE)
    have HX1 := Lib.hid hE
    clear hE HS HE HC
    cases hbt : betterS b.found b.price b.size price size
    · have HR : Hid (buyS pks f need price size (now, b) = (now, b)) := buyS_stop (by unfold stopS; rw [if_pos hbt])
      go_wp2
      (try simp only [Exit.inBlock, Exit.then])
      refine bodyPost_ret (results_none rfl _ _ _) rfl ⟨rfl, ?_, Chg.ext HX1.out, HX1.out.mono hm0⟩
      rw [HR.out]; exact HS1.out
    · have HBT := Lib.hid hbt
      clear hbt
      go_wp2_with fail
      refine (ContainsPos_any need K na nc _ HNO.out.len.symm (by unfold maxLen; omega) HC1.out).mono ?_
      rintro e w2 ⟨rfl, hE⟩
      have HS2 := Lib.hid (HS1.out.ext hE)
      have HE2 := Lib.hid (HE1.out.chg (Chg.ext hE))
      have HC2 := Lib.hid (HC1.out.ext hE)
      have HX2 := Lib.hid (HX1.out.trans hE)
      have n0 : w2.cell? ⟨nb, 0, none⟩ = some (.slice (some ⟨nwb, 0, none⟩) N N) := by have := HE2.out.n0; rwa [← HN.out] at this
      have zn := cell_lt n0
      dsimp only at zn
      clear hE HS1 HE1 HC1 HX1
      cases hap : need.any isPos
      · have HR : Hid (buyS pks f need price size (now, b) = (now, ⟨now.take i ++ List.replicate f 0, price, size, true⟩)) := buyS_stop (by
          unfold stopS
          rw [if_neg (by rw [HBT.out]; simp), if_pos hap]
          dsimp only
          rw [HNL.out, ← HN.out, show N - f = i by omega])
        clear hap
        obtain ⟨i0, hi, hi0, hi1, hi2⟩ := info_parts infoIn
        go_wp2_with (at_make; refine wpList_make_full _ rfl _ _ 49 rfl 0 3 i0 (.int .i64 0) 1 Tryz.underlying49 hi hi0 hi1 _ _ _ _ N rfl rfl rfl rfl ?b2 ?b3 ?b4 ?hK)
        case b2 => rw [hi2]; omega
        case b3 => unfold maxLen; omega
        case b4 => exact Nat.zero_le _
        case hK =>
          intro w3 hown hgr
          obtain ⟨ob, hob⟩ : ∃ ob, ob = w2.heap.size := ⟨_, rfl⟩
          have E3 : Ext w2 w3 := ⟨hgr.os, hgr.tape, hgr.output, hgr.size, fun k hk => hgr.block k hk (by simp)⟩
          have HA3 : Hid (ArrI w3 ob (List.replicate N 0)) := fun j hj => by
            rw [List.length_replicate] at hj
            rw [hob]
            refine ⟨?_, hown.frozenAt j⟩
            rw [hown.cellAt j (by omega)]
            simp [madeCells, hj, Nat.mod_one, List.getD]
          have hob1 : w2.heap.size ≤ ob := by omega
          have n0 := E3.cell n0
          have HS3 := Lib.hid (HS2.out.ext E3)
          have HX3 := Lib.hid (HX2.out.trans E3)
          have HE3 := Lib.hid E3
          rw [← hob]
          clear hob hown hgr E3 hi hi0 hi1 hi2 i0
          have j1 : (0 : Int) ≤ (i : Int) := Int.natCast_nonneg i
          have j2 : (i : Int) ≤ (N : Int) := by omega
          obtain ⟨W4, hW4⟩ : ∃ W, W = w3.setCells ob 0 (vals (now.take i)) := ⟨_, rfl⟩
          have hti : (now.take i).length = i := by rw [List.length_take, HNL.out, ← HN.out]; omega
          have hcp : ∀ ty, (Builtin.copy_ #[49, 49] ty #[.slice (some ⟨ob, 0, none⟩) N N, .slice (some ⟨nwb, 0, none⟩) i N]).run Tryz.prog w3 = .ok (goInt (i : Nat)) W4 := fun ty => by
            rw [hW4]
            have := run_copyI (P := Tryz.prog) w3 49 3 Tryz.underlying49 sizeIn ob N N (some ⟨nwb, 0, none⟩) i N (now.take i) (by rw [hti]; show i = min i N; omega) ((HS3.out.nw.cells).take i) (fun j hj => by rw [(HA3.out j (by rw [List.length_replicate]; omega)).1]; rfl) (fun j hj => (HA3.out j (by rw [List.length_replicate]; omega)).2) ty
            rw [hti] at this
            exact this
          have hA4 := HA3.out.lay (cs := now.take i) (by rw [hti, List.length_replicate]; omega)
          have he4 : now.take i ++ (List.replicate N (0 : Int)).drop (now.take i).length = now.take i ++ List.replicate f 0 := by rw [hti, List.drop_replicate, show N - i = f by omega]
          rw [he4] at hA4
          rw [← hW4] at hA4
          have E4 : Ext w2 W4 := by
            rw [hW4]
            exact Below.trans HE3.out ((set_below ob _ _ _).1.mono hob1)
          have hol : (now.take i ++ List.replicate f (0 : Int)).length = N := by rw [List.length_append, hti, List.length_replicate]; omega
          have HS4 := Lib.hid (HS2.out.ext E4)
          have HX4 := Lib.hid (HX2.out.trans E4)
          have HA4 := Lib.hid hA4
          have HOL := Lib.hid hol
          have hxo : ¬ BX bb nwb ob := fun h => by
            have h1 := cell_lt HS2.out.p
            have h2 := HS2.out.nl
            dsimp only at h1
            rcases h with h | h <;> omega
          have HXO := Lib.hid hxo
          clear hW4 hti hA4 he4 E4 hol hxo HS3 HX3 HE3 HA3 HS2 HX2
          generalize now.take i ++ List.replicate f (0 : Int) = ord at HA4 HOL HR
          obtain ⟨oa, oc, k0, _, _⟩ := HS4.out.o
          have k1 := HS4.out.p
          have k2 := HS4.out.s
          have k3 := HS4.out.f
          have f0 := HS4.out.z0
          have f1 := HS4.out.z1
          have f2 := HS4.out.z2
          have f3 := HS4.out.z3
          go_wp2
          (try simp only [Exit.inBlock, Exit.then])
          obtain ⟨p1, p2⟩ := HS4.out.put ord price size ob N HA4.out HXO.out
          rw [HOL.out] at p1 p2
          refine bodyPost_ret (results_none rfl _ _ _) rfl ⟨rfl, ?_, (Chg.ext HX4.out).trans p2, ?_⟩
          · rw [HR.out]; exact p1
          · exact Below.setCell (p := ⟨bb, 3, none⟩) (Below.setCell (p := ⟨bb, 2, none⟩) (Below.setCell (p := ⟨bb, 1, none⟩) (Below.setCell (p := ⟨bb, 0, none⟩) (HX4.out.mono hm0) hm1 _) hm1 _) hm1 _) hm1 _
      · have HST : Hid (stopS need price size f (now, b) = none) := by
          show _ = _
          unfold stopS
          rw [if_neg (by rw [HBT.out]; simp), if_neg (by rw [hap]; simp)]
        clear hap
        cases f with
        | zero =>
          have hiN : (i : Int) = (N : Int) := by omega
          have hiN2 : ((i : Int) == (N : Int)) = true := by simp [hiN]
          have HR : Hid (buyS pks 0 need price size (now, b) = (now, b)) := buyS_zero HST.out
          go_wp2
          (try simp only [Exit.inBlock, Exit.then])
          refine bodyPost_ret (results_none rfl _ _ _) rfl ⟨rfl, ?_, Chg.ext HX2.out, HX2.out.mono hm0⟩
          rw [HR.out]; exact HS2.out
        | succ f =>
          have hiN : ¬ (i : Int) = (N : Int) := by omega
          have hiN2 : ((i : Int) == (N : Int)) = false := by simp [hiN]
          have hi' : i < pks.length := by rw [← HN.out]; omega
          have hidx : pks.length - (f + 1) = i := by rw [← HN.out]; omega
          have HR : Hid (buyS pks (f + 1) need price size (now, b) = iterS (fun n t => buyS pks f (leftS need (pks.getD i pk0).parts n) (price + n * (pks.getD i pk0).price) (size + n) (t.1.set i n, t.2)) (now, b) (usefulS (pks.getD i pk0) need + 1).toNat) := by
            have := buyS_succ (pks := pks) HST.out
            rw [hidx] at this
            exact this
          have hmem : pks.getD i pk0 ∈ pks := by rw [List.getD_eq_getElem?_getD, List.getElem?_eq_getElem hi']; simp
          obtain ⟨kb, koff, ai, ci, rfl, c1, c2, c3, c4, c5, c6⟩ := HE2.out.pk i hi'
          generalize pks.getD i pk0 = p at HR hmem c2 c3 c4
          have HMEM := Lib.hid hmem
          have HAI := Lib.hid c4
          have HAN := Lib.hid c6
          have hub := usefulS_bd HT.out hmem HNO.out
          have j0 : (0 : Int) ≤ (i : Int) := Int.natCast_nonneg i
          have j1 : (i : Int) < (N : Int) := by omega
          have x0 : w2.cell? ⟨xb, 0, none⟩ = some (.slice (some ⟨kb, koff, none⟩) N pc) := by have := HE2.out.x0; rwa [← HN.out] at this
          have zk := cell_lt c1
          have zx := cell_lt x0
          dsimp only at zk zx
          have hbw : bb < w2.heap.size ∧ nwb < w2.heap.size := ⟨cell_lt HS2.out.p, HS2.out.nl⟩
          have HBW := Lib.hid hbw
          clear hmem c4 c5 c6 hidx hi' hbw
          go_wp2_with fail
          have E3 : Ext w2 (w2.alloc (.cells #[.slice ai K ci, .int .i64 p.price, .int .i64 p.most] 94)) := (Ext.refl _).alloc _
          have y1 : (w2.alloc (.cells #[.slice ai K ci, .int .i64 p.price, .int .i64 p.most] 94)).cell? ⟨w2.heap.size, 0, none⟩ = some (.slice ai K ci) := by go_simp
          have y2 : (w2.alloc (.cells #[.slice ai K ci, .int .i64 p.price, .int .i64 p.most] 94)).cell? ⟨w2.heap.size, 1, none⟩ = some (.int .i64 p.price) := by go_simp
          have hno16 := HNO.out
          refine (useful_any p need K ai na ci nc _ (HT.out.parts p HMEM.out) HNO.out.len hK16 (HT.out.num p HMEM.out) (fun k hk => ⟨by have := (HNO.out.num k hk).1; omega, (HNO.out.num k hk).2⟩) (HAI.out.ext E3) (HC2.out.ext E3)).mono ?_
          rintro e w4 ⟨rfl, hE⟩
          have E4 := E3.trans hE
          have d1 := hE.cell y1
          have d2 := hE.cell y2
          have HS4 := Lib.hid (HS2.out.ext E4)
          have HE4 := Lib.hid (HE2.out.chg (Chg.ext E4))
          have HC4 := Lib.hid (HC2.out.ext E4)
          have HAI4 := Lib.hid (HAI.out.ext E4)
          have HX4 := Lib.hid (HX2.out.trans E4)
          have HP3 : Hid (¬ BX bb nwb w2.heap.size) := fun h => by have := HBW.out; rcases h with h | h <;> omega
          obtain ⟨pb, hpb⟩ : ∃ pb, pb = w2.heap.size := ⟨_, rfl⟩
          have HZ4 : Hid (bb < w4.heap.size ∧ nwb < w4.heap.size) := by have := HBW.out; have := E4.size; exact ⟨by omega, by omega⟩
          rw [← hpb] at d1 d2 HP3 ⊢
          clear hpb E3 E4 hE n0 zn c1 c2 c3 x0 zk zx HS2 HE2 HC2 HX2 HAI HBW hno16
          generalize hu : usefulS p need = u at hub HR ⊢
          obtain ⟨U, hU⟩ : ∃ U : Nat, (u + 1).toNat = U := ⟨_, rfl⟩
          rw [hU] at HR
          have huU : u + 1 = (U : Int) := by omega
          have q1 : IntKind.i64.wrap (u + 1) = (U : Int) := by rw [IntWalk.i64_in _ (by omega)]; exact huU
          have hU21 : U ≤ 21 := by omega
          clear hu hU huU hub
          obtain ⟨step, hstep⟩ : ∃ step : Nat → List Int × Bst → List Int × Bst, step = fun (n : Nat) (t : List Int × Bst) => buyS pks f (leftS need p.parts n) (price + n * p.price) (size + n) (t.1.set i n, t.2) := ⟨_, rfl⟩
          have HSTEP : Hid (∀ (n : Nat) (t : List Int × Bst), step n t = buyS pks f (leftS need p.parts n) (price + n * p.price) (size + n) (t.1.set i n, t.2)) := by rw [hstep]; exact fun _ _ => rfl
          rw [← hstep] at HR
          clear hstep
          go_wp2
          go_loopw [50] (fun t wr => ∃ n : Nat, n ≤ U ∧ t = .int .i64 n ∧ Hid (StB wr bb nwb (iterS step (now, b) n).1 (iterS step (now, b) n).2 ∧ (iterS step (now, b) n).1.length = N) ∧ Hid (Chg (BX bb nwb) w4 wr) ∧ Hid (Below m0 w4 wr)) (fun t _ => U - (intOf t).toNat)
          case atStart => exact ⟨0, Nat.zero_le _, rfl, ⟨HS4.out, by rw [HN.out]; exact HNL.out⟩, Chg.refl _ _, Below.refl _ _⟩
          case round =>
            obtain ⟨n, hnU, rfl, hst, hch, hbe⟩ := hrel
            by_cases hlt : n < U
            · have hlt' : (n : Int) < (U : Int) := by omega
              have HNX : Hid (iterS step (now, b) (n + 1) = buyS pks f (leftS need p.parts n) (price + n * p.price) (size + n) ((iterS step (now, b) n).1.set i n, (iterS step (now, b) n).2)) := HSTEP.out n _
              generalize iterS step (now, b) n = st at hst HNX
              generalize wr = V at hst hch hbe ⊢
              have HEV := Lib.hid (HE4.out.chg hch.out)
              have HCV := Lib.hid (HC4.out.chg2 hch.out HNA.out)
              have HAV := Lib.hid (HAI4.out.chg2 hch.out HAN.out)
              have d1 := cell_chg hch.out d1 HP3.out
              have d2 := cell_chg hch.out d2 HP3.out
              have HVZ : Hid (bb < V.heap.size ∧ nwb < V.heap.size ∧ m0 ≤ V.heap.size) := by have := HZ4.out; have := hch.out.1; exact ⟨by omega, by omega, by omega⟩
              obtain ⟨i0, hi, hi0, hi1, hi2⟩ := info_parts infoIn
              have hnn : (n : Int) ≤ 20 := by omega
              go_wp2_with (at_make; refine wpList_make_full _ rfl _ _ 49 rfl 0 3 i0 (.int .i64 0) 1 Tryz.underlying49 hi hi0 hi1 _ _ _ _ K rfl rfl rfl rfl ?b2 ?b3 ?b4 ?hK)
              case b2 => rw [hi2]; omega
              case b3 => unfold maxLen; omega
              case b4 => exact Nat.zero_le _
              case hK =>
                intro w5 hown hgr
                obtain ⟨lb, hlb⟩ : ∃ lb, lb = V.heap.size := ⟨_, rfl⟩
                have E5 : Ext V w5 := ⟨hgr.os, hgr.tape, hgr.output, hgr.size, fun k hk => hgr.block k hk (by simp)⟩
                have HA5 : Hid (ArrI w5 lb (List.replicate K 0)) := fun j hj => by
                  rw [List.length_replicate] at hj
                  rw [hlb]
                  refine ⟨?_, hown.frozenAt j⟩
                  rw [hown.cellAt j (by omega)]
                  simp [madeCells, hj, Nat.mod_one, List.getD]
                have HE5 := Lib.hid E5
                have HCW := Lib.hid (HCV.out.ext E5)
                have HLB := Lib.hid hlb
                rw [← hlb]
                clear hlb hown hgr E5 hi hi0 hi1 hi2 i0
                obtain ⟨W6, hW6⟩ : ∃ W, W = w5.setCells lb 0 (vals need) := ⟨_, rfl⟩
                have hcp : ∀ ty, (Builtin.copy_ #[49, 49] ty #[.slice (some ⟨lb, 0, none⟩) K K, .slice na K nc]).run Tryz.prog w5 = .ok (goInt (K : Nat)) W6 := fun ty => by
                  rw [hW6]
                  have := run_copyI (P := Tryz.prog) w5 49 3 Tryz.underlying49 sizeIn lb K K na K nc need (by rw [HNO.out.len]; exact (Nat.min_self K).symm) HCW.out (fun j hj => by rw [(HA5.out j (by rw [List.length_replicate, ← HNO.out.len]; exact hj)).1]; rfl) (fun j hj => (HA5.out j (by rw [List.length_replicate, ← HNO.out.len]; exact hj)).2) ty
                  rw [HNO.out.len] at this
                  exact this
                have hA6 := HA5.out.lay (cs := need) (by rw [List.length_replicate, HNO.out.len]; exact Nat.le_refl _)
                rw [HNO.out.len, List.drop_replicate, Nat.sub_self, List.replicate_zero, List.append_nil] at hA6
                rw [← hW6] at hA6
                have E6 : Ext V W6 := by
                  rw [hW6]
                  exact Below.trans HE5.out ((set_below lb _ _ _).1.mono (by rw [HLB.out]; exact Nat.le_refl _))
                have HA6 : Hid (ArrI W6 lb (leftJ need p.parts n 0)) := by rw [leftJ_zero]; exact hA6
                have HE6 := Lib.hid E6
                have HAV6 := Lib.hid (HAV.out.ext E6)
                have d1' := E6.cell d1
                clear hW6 hA6 E6 HE5 HCW HA5
                have zd := cell_lt d1'
                dsimp only at zd
                go_wp2
                go_loopw [62] (fun t wz => ∃ j : Nat, j ≤ K ∧ t = .int .i64 j ∧ Hid (ArrI wz lb (leftJ need p.parts n j)) ∧ Hid (Ext V wz)) (fun t _ => K - (intOf t).toNat)
                case atStart => exact ⟨0, Nat.zero_le _, rfl, HA6.out, HE6.out⟩
                case round =>
                  obtain ⟨j, hj, rfl, ha, hx⟩ := hrel
                  by_cases hjl : j < K
                  · have hjl' : (j : Int) < (K : Int) := by omega
                    have hjn : j < need.length := by rw [HNO.out.len]; exact hjl
                    obtain ⟨e1, e2⟩ := ha.out j (by rw [leftJ_len]; exact hjn)
                    rw [leftJ_get _ _ _ _ hjn, if_neg (Nat.lt_irrefl j)] at e1
                    obtain ⟨b1, o1, hai, c1⟩ := (HAV.out.ext hx.out) j (by rw [HT.out.parts p HMEM.out]; exact hjl)
                    subst hai
                    have hls := leftJ_set (need := need) (parts := p.parts) (n := n) hjn
                    have hxb := HNO.out.num j hjl
                    have hyb : 0 ≤ p.parts.getD j 0 ∧ p.parts.getD j 0 ≤ 1048576 := HT.out.num p HMEM.out _ (by have h := HT.out.parts p HMEM.out; rw [List.getD_eq_getElem?_getD, List.getElem?_eq_getElem (show j < p.parts.length by omega)]; simp)
                    have hny : 0 ≤ (n : Int) * p.parts.getD j 0 ∧ (n : Int) * p.parts.getD j 0 ≤ 20 * 1048576 := ⟨Int.mul_nonneg (by omega) hyb.1, Int.mul_le_mul hnn hyb.2 hyb.1 (by omega)⟩
                    generalize need.getD j 0 = x at e1 hls hxb
                    generalize p.parts.getD j 0 = y at c1 hls hyb hny
                    have HLS := Lib.hid hls
                    have q2 : IntKind.i64.wrap ((n : Int) * y) = (n : Int) * y := IntWalk.i64_in _ (by omega)
                    have q3 : IntKind.i64.wrap (x - (n : Int) * y) = x - (n : Int) * y := IntWalk.i64_in _ (by omega)
                    have z1 := cell_lt c1
                    have z2 := cell_lt e1
                    dsimp only at z1 z2
                    clear hls
                    go_wp2
                    refine ⟨⟨j + 1, by omega, by go_num, ?_, ?_⟩, by simp [intOf]; omega⟩
                    · show ArrI _ _ _
                      rw [← HLS.out]
                      exact ha.out.set (by rw [leftJ_len]; exact hjn) _
                    · exact Below.setCell (p := ⟨lb, _, none⟩) hx.out (by rw [HLB.out]; exact Nat.le_refl _) _
                  · have hjk : j = K := by omega
                    subst hjk
                    have hjl' : ¬ (j : Int) < (j : Int) := by omega
                    have hleft : leftJ need p.parts n j = leftS need p.parts n := by unfold leftS; rw [HNO.out.len]
                    rw [hleft] at ha
                    have HSr := Lib.hid (hst.out.1.ext hx.out)
                    have HEr := Lib.hid (HEV.out.chg (Chg.ext hx.out))
                    have n0 : wr.cell? ⟨nb, 0, none⟩ = some (.slice (some ⟨nwb, 0, none⟩) N N) := by have := HEr.out.n0; rwa [← HN.out] at this
                    obtain ⟨v1, v2⟩ := HSr.out.nw i (by rw [hst.out.2]; omega)
                    have f0 := HEr.out.f0
                    unfold buyV at f0
                    have d2' := hx.out.cell d2
                    have g1 : nb ≠ nwb := fun e => HEr.out.nn (.inr e)
                    have g2 : fb ≠ nwb := fun e => HEr.out.fn (.inr e)
                    have g3 : pb ≠ nwb := fun e => HP3.out (.inr e)
                    have hne := need_next HT.out HMEM.out HNO.out hnn
                    have hpr := HT.out.price p HMEM.out
                    have hpn : 0 ≤ (n : Int) * p.price ∧ (n : Int) * p.price ≤ 20 * 1048576 := ⟨Int.mul_nonneg (by omega) hpr.1, Int.mul_le_mul hnn hpr.2 hpr.1 (by omega)⟩
                    have hp1 := HNO.out.price
                    have hp2 := HNO.out.size
                    have q2 : IntKind.i64.wrap ((n : Int) * p.price) = (n : Int) * p.price := IntWalk.i64_in _ (by omega)
                    have q3 : IntKind.i64.wrap (price + (n : Int) * p.price) = price + (n : Int) * p.price := IntWalk.i64_in _ (by omega)
                    have q4 : IntKind.i64.wrap (size + (n : Int)) = size + (n : Int) := IntWalk.i64_in _ (by omega)
                    have q5 : IntKind.i64.wrap ((i : Int) + 1) = (i : Int) + 1 := IntWalk.i64_in _ (by omega)
                    obtain ⟨HSn, hcn⟩ := HSr.out.now (i := i) (by rw [hst.out.2]; omega) (n : Int)
                    have hlx : ¬ BX bb nwb lb := fun h => by
                      have h1 := HVZ.out
                      have h2 := HLB.out
                      rcases h with h | h <;> omega
                    have hlc : CellsI (wr.setCell ⟨nwb, i, none⟩ (.int .i64 n)) (some ⟨lb, 0, none⟩) (leftS need p.parts n) := (ha.out.cells).chg2 hcn (fun b' o' e => (by cases e; exact hlx))
                    have HCALL : Hid (Calls Tryz.prog 42 #[.int .i64 ((i : Int) + 1), .slice (some ⟨lb, 0, none⟩) j j, .int .i64 (price + n * p.price), .int .i64 (size + n), .pointer (some ⟨bb, 0, none⟩), .pointer (some ⟨nb, 0, none⟩), .pointer (some ⟨xb, 0, none⟩), .pointer (some ⟨fb, 0, none⟩)] (wr.setCell ⟨nwb, i, none⟩ (.int .i64 n)) fun e w' =>
                        e = .returned (.tuple #[]) ∧ StB w' bb nwb (iterS step (now, b) (n + 1)).1 (iterS step (now, b) (n + 1)).2 ∧ Chg (BX bb nwb) (wr.setCell ⟨nwb, i, none⟩ (.int .i64 n)) w' ∧ Below m0 (wr.setCell ⟨nwb, i, none⟩ (.int .i64 n)) w') := by
                      have := IH.out f (Nat.lt_succ_self f) (i + 1) (by rw [← HN.out]; omega) (leftS need p.parts n) (price + n * p.price) (size + n) (some ⟨lb, 0, none⟩) j (st.1.set i n) st.2 (wr.setCell ⟨nwb, i, none⟩ (.int .i64 n)) hne (by rw [List.length_set, hst.out.2, HN.out]) (HEr.out.chg hcn) HSn hlc (fun b' o' e => (by cases e; exact hlx))
                      rw [← HNX.out] at this
                      exact this
                    have HLEN : Hid ((iterS step (now, b) (n + 1)).1.length = N) := by
                      show _ = _
                      rw [HNX.out, buy_len, List.length_set]; exact hst.out.2
                    have HCN := Lib.hid hcn
                    clear hne hpr hpn hp1 hp2 HSn hcn hlx hlc hleft
                    go_wp2_with fail
                    refine HCALL.out.mono ?_
                    rintro e w9 ⟨rfl, k1, k2, k3⟩
                    have K1 := Lib.hid k1
                    have K2 := Lib.hid k2
                    have K3 := Lib.hid k3
                    clear k1 k2 k3
                    go_wp2
                    refine ⟨⟨n + 1, by omega, by go_num, ⟨K1.out, HLEN.out⟩, ((hch.out.trans (Chg.ext hx.out)).trans HCN.out).trans K2.out, ?_⟩, by simp [intOf]; omega⟩
                    exact Below.trans (Below.setCell (p := ⟨nwb, _, none⟩) (Below.trans hbe.out (hx.out.mono HVZ.out.2.2)) hm2 _) K3.out
            · have hnu : n = U := by omega
              subst hnu
              have hlt' : ¬ (n : Int) < (n : Int) := by omega
              go_wp2
              go_end0
              refine ⟨rfl, ?_, (Chg.ext HX4.out).trans hch.out, (HX4.out.mono hm0).trans hbe.out⟩
              rw [HR.out]; exact hst.out.1
end Go.Proofs.YtbpjbhbbkonjlaaGreatDoor
namespace Go.Proofs.YtbpjbhbbkonjlaaGreatDoor
open Go.RowKit
theorem cells_two (w : World) (b : Nat) (x y : Int) (h0 : w.cell? ⟨b, 0, none⟩ = some (.int .i64 x)) (h1 : w.cell? ⟨b, 1, none⟩ = some (.int .i64 y)) : CellsI w (some ⟨b, 0, none⟩) [x, y] := fun i hi => by
  rcases i with _ | _ | i
  · exact ⟨b, 0, rfl, h0⟩
  · exact ⟨b, 0, rfl, h1⟩
  · simp only [List.length_cons, List.length_nil] at hi
    omega
theorem parcel_a {K : Nat} {p : Pk} (h : p.parts.length ≠ K) : parcelS K p = 8 := by unfold parcelS; rw [if_pos h]
theorem parcel_b {K : Nat} {p : Pk} (h : p.parts.length = K) (h2 : p.parts.any isNeg = true) : parcelS K p = 2 := by unfold parcelS; rw [if_neg (fun h3 => h3 h), if_pos h2]
theorem parcel_c {K : Nat} {p : Pk} (h : p.parts.length = K) (h2 : p.parts.any isNeg = false) (h3 : [p.price, p.most].any isNeg = true) : parcelS K p = 2 := by
  unfold parcelS; rw [if_neg (fun h3 => h3 h), if_neg (by rw [h2]; simp), if_pos h3]
theorem parcel_d {K : Nat} {p : Pk} (h : p.parts.length = K) (h2 : p.parts.any isNeg = false) (h3 : [p.price, p.most].any isNeg = false) : parcelS K p = 0 := by
  unfold parcelS; rw [if_neg (fun h3 => h3 h), if_neg (by rw [h2]; simp), if_neg (by rw [h3]; simp)]
theorem check_tail {pks : List Pk} {need : List Int} (h0 : need.length ≠ 0) (h1 : ¬ 16 < need.length) (h2 : need.any isNeg = false) (h3 : ¬ 64 < pks.length) : checkS pks need = taskE need.length pks := by
  unfold checkS
  rw [if_neg h0, if_neg h1, if_neg (by rw [h2]; simp), if_neg h3]
set_option maxHeartbeats 4000000 in
theorem CheckO_any {pks : List Pk} {need : List Int} {pa : Option Addr} {pc : Nat} {na : Option Addr} {nc : Nat} {w : World} (ht : TaskG w pks need pa pc na nc) :
    Calls Tryz.prog 40 #[taskV pks need pa pc na nc] w fun e w' => e = .returned (.int .i64 (checkS pks need)) ∧ Ext w w' := by
  unfold taskV
  obtain ⟨r, hr⟩ : ∃ r, checkS pks need = r := ⟨_, rfl⟩
  rw [hr]
  have HR := Lib.hid hr
  have HP := Lib.hid ht.pk
  have HC := Lib.hid ht.nd
  obtain ⟨N, hN⟩ : ∃ N, N = pks.length := ⟨_, rfl⟩
  obtain ⟨K, hK⟩ : ∃ K, K = need.length := ⟨_, rfl⟩
  have hNm : N ≤ 9223372036854775807 := by have h1 := ht.p1; have h2 := ht.p2; unfold maxLen at h2; omega
  have hKm : K ≤ maxLen := by have h1 := ht.n1; have h2 := ht.n2; omega
  rw [← hN, ← hK]
  have HN := Lib.hid hN
  have HK := Lib.hid hK
  have HKM := Lib.hid hKm
  clear ht hr hN hK hKm
  have E0 : Ext w (w.alloc (.cells #[.slice pa N pc, .slice na K nc] 60)) := (Ext.refl _).alloc _
  have y1 : (w.alloc (.cells #[.slice pa N pc, .slice na K nc] 60)).cell? ⟨w.heap.size, 0, none⟩ = some (.slice pa N pc) := by go_simp
  have y2 : (w.alloc (.cells #[.slice pa N pc, .slice na K nc] 60)).cell? ⟨w.heap.size, 1, none⟩ = some (.slice na K nc) := by go_simp
  go_enter Tryz.func40, Tryz.ntmps40
  by_cases h0 : K = 0
  · have k1 : ((K : Int) == 0) = true := by simp; omega
    have hr : r = 13 := by rw [← HR.out]; unfold checkS; rw [if_pos (by rw [← HK.out]; exact h0)]
    have HR2 := Lib.hid hr
    clear hr
    subst h0
    go_wp2
    go_ret
    exact ⟨ret_int HR2.out.symm, E0⟩
  have k1 : ((K : Int) == 0) = false := by simp; omega
  by_cases h1 : 16 < K
  · have k2 : (16 : Int) < (K : Int) := by omega
    have hr : r = 5 := by rw [← HR.out]; unfold checkS; rw [if_neg (by rw [← HK.out]; exact h0), if_pos (by rw [← HK.out]; exact h1)]
    have HR2 := Lib.hid hr
    clear hr
    go_wp2
    go_ret
    exact ⟨ret_int HR2.out.symm, E0⟩
  have k2 : ¬ (16 : Int) < (K : Int) := by omega
  go_wp2_with fail
  refine (counts_any need K na nc _ HK.out HKM.out (HC.out.ext E0)).mono ?_
  rintro e w1 ⟨rfl, hE⟩
  have E1 := E0.trans hE
  have a1 := hE.cell y1
  have a2 := hE.cell y2
  clear hE E0 y1 y2
  cases hn : need.any isNeg
  case true =>
    have hr : r = 2 := by rw [← HR.out]; unfold checkS; rw [if_neg (by rw [← HK.out]; exact h0), if_neg (by rw [← HK.out]; exact h1), if_pos hn]
    have HR2 := Lib.hid hr
    clear hr hn
    go_wp2
    go_ret
    exact ⟨ret_int HR2.out.symm, E1⟩
  by_cases h3 : 64 < N
  · have k3 : (64 : Int) < (N : Int) := by omega
    have hr : r = 5 := by rw [← HR.out]; unfold checkS; rw [if_neg (by rw [← HK.out]; exact h0), if_neg (by rw [← HK.out]; exact h1), if_neg (by rw [hn]; simp), if_pos (by rw [← HN.out]; exact h3)]
    have HR2 := Lib.hid hr
    clear hr hn
    go_wp2
    go_ret
    exact ⟨ret_int HR2.out.symm, E1⟩
  have k3 : ¬ (64 : Int) < (N : Int) := by omega
  have HT : Hid (taskE K pks = r) := by
    show _ = _
    rw [← HR.out, check_tail (by rw [← HK.out]; exact h0) (by rw [← HK.out]; exact h1) hn (by rw [← HN.out]; exact h3), ← HK.out]
  clear hn
  go_wp2
  go_loopw [28] (fun t wr => ∃ k : Nat, k ≤ N ∧ t = .int .i64 k ∧ Hid (∀ j, j < k → parcelS K (pks.getD j pk0) = 0) ∧ Ext w1 wr) (fun t _ => N - (intOf t).toNat)
  case atStart => exact ⟨0, Nat.zero_le _, rfl, fun j hj => absurd hj (Nat.not_lt_zero j), Ext.refl _⟩
  case round =>
    obtain ⟨k, hkN, rfl, hz, he⟩ := hrel
    by_cases hlt : k < N
    · have hlt' : (k : Int) < (N : Int) := by omega
      have EK := E1.trans he
      obtain ⟨b, off, v, rfl, c1, c4, c2, c3⟩ := (HP.out.ext EK) k (by rw [← HN.out]; exact hlt)
      obtain ⟨ai, ci, rfl, c4, c5, c6⟩ := c4
      have hstep : ∀ e, parcelS K (pks.getD k pk0) = e → e ≠ 0 → r = e := fun e h1 h2 => by rw [← HT.out]; exact first_hit hz.out (by rw [← HN.out]; exact hlt) h1 h2
      have hnext : parcelS K (pks.getD k pk0) = 0 → ∀ j, j < k + 1 → parcelS K (pks.getD j pk0) = 0 := fun h j hj => by
        rcases Nat.lt_or_eq_of_le (Nat.le_of_lt_succ hj) with h2 | rfl
        · exact hz.out j h2
        · exact h
      generalize pks.getD k pk0 = p at c1 c2 c3 c4 c5 hstep hnext
      have HST := Lib.hid hstep
      have HNX := Lib.hid hnext
      have a1 := he.cell a1
      have a2 := he.cell a2
      have za := cell_lt a2
      dsimp only at za
      have zb := cell_lt c1
      dsimp only at zb
      have HC4 := Lib.hid c4
      obtain ⟨L, hL⟩ : ∃ L, L = p.parts.length := ⟨_, rfl⟩
      rw [← hL] at c1 c5
      have HL := Lib.hid hL
      have HLM : Hid (L ≤ maxLen) := by show _ ≤ _; omega
      clear hstep hnext c4 c5 c6 hz hL
      by_cases hKL : L = K
      · subst hKL
        go_wp2_with fail
        have E2 : Ext wr (wr.alloc (.cells #[.slice ai L ci, .int .i64 p.price, .int .i64 p.most] 94)) := (Ext.refl _).alloc _
        have d1 : (wr.alloc (.cells #[.slice ai L ci, .int .i64 p.price, .int .i64 p.most] 94)).cell? ⟨wr.heap.size, 1, none⟩ = some (.int .i64 p.price) := by go_simp
        have d2 : (wr.alloc (.cells #[.slice ai L ci, .int .i64 p.price, .int .i64 p.most] 94)).cell? ⟨wr.heap.size, 2, none⟩ = some (.int .i64 p.most) := by go_simp
        refine (counts_any p.parts L ai ci _ HL.out HLM.out (HC4.out.ext E2)).mono ?_
        rintro e w2 ⟨rfl, hE⟩
        have E3 := (EK.trans E2).trans hE
        have E4 := (he.trans E2).trans hE
        have d1 := hE.cell d1
        have d2 := hE.cell d2
        clear hE E2 a1 a2 c1 c2 c3 EK
        cases hpn : p.parts.any isNeg
        case true =>
          have HR2 : Hid (r = 2) := HST.out 2 (parcel_b HL.out.symm hpn) (by decide)
          clear hpn
          go_wp2
          go_ret
          exact ⟨ret_int HR2.out.symm, E3⟩
        have HPN := Lib.hid hpn
        clear hpn
        go_wp2_with fail
        refine (counts_any [p.price, p.most] 2 _ 2 _ rfl (by unfold maxLen; omega) (cells_two _ _ _ _ (by go_simp) (by go_simp))).mono ?_
        rintro e w3 ⟨rfl, hE⟩
        cases hpn : [p.price, p.most].any isNeg
        case true =>
          have HR2 : Hid (r = 2) := HST.out 2 (parcel_c HL.out.symm HPN.out hpn) (by decide)
          clear hpn
          go_wp2
          go_ret
          exact ⟨ret_int HR2.out.symm, (E3.alloc _).trans hE⟩
        have HG := Lib.hid (HNX.out (parcel_d HL.out.symm HPN.out hpn))
        clear hpn
        go_wp2
        exact ⟨⟨k + 1, by omega, by go_num, HG.out, (E4.alloc _).trans hE⟩, by simp [intOf]; omega⟩
      · have k5 : ((L : Int) == (K : Int)) = false := by simp; omega
        have k6 : ¬ (L : Int) = (K : Int) := by omega
        have HR2 : Hid (r = 8) := HST.out 8 (parcel_a (fun h => hKL (HL.out.trans h))) (by decide)
        have E2 : Ext w (wr.alloc (.cells #[.slice ai L ci, .int .i64 p.price, .int .i64 p.most] 94)) := EK.alloc _
        go_wp2
        go_ret
        exact ⟨ret_int HR2.out.symm, E2⟩
    · have hke : k = N := by omega
      subst hke
      have hlt' : ¬ (k : Int) < (k : Int) := by omega
      have HR2 : Hid (r = 0) := by
        show _ = _
        rw [← HT.out]
        exact first_end (by rw [← HN.out]; exact hz.out)
      go_wp2
      all_goals go_ret
      all_goals exact ⟨ret_int HR2.out.symm, E1.trans he⟩
end Go.Proofs.YtbpjbhbbkonjlaaGreatDoor
namespace Go.Proofs.YtbpjbhbbkonjlaaGreatDoor
open Go.RowKit
theorem ArrI.ext {A B : World} {b : Nat} {l : List Int} (h : ArrI A b l) (x : Ext A B) : ArrI B b l := fun j hj => by
  obtain ⟨h1, h2⟩ := h j hj
  exact ⟨x.cell h1, (Below.frozen (p := ⟨b, j, none⟩) x (cell_lt h1)).trans h2⟩
end Go.Proofs.YtbpjbhbbkonjlaaGreatDoor
namespace Go.Proofs.YtbpjbhbbkonjlaaGreatDoor
open Go.RowKit
theorem ArrI.put {w : World} {b : Nat} {l : List Int} (h : ArrI w b l) {n : Nat} (hb : n ≤ b) {W : World} (hW : Below n W w) {i : Nat} (hi : i < l.length) (x : Int) : ArrI (w.setCell ⟨b, i, none⟩ (.int .i64 x)) b (l.set i x) ∧ Below n W (w.setCell ⟨b, i, none⟩ (.int .i64 x)) :=
  ⟨h.set hi x, Below.setCell (p := ⟨b, i, none⟩) hW hb _⟩
end Go.Proofs.YtbpjbhbbkonjlaaGreatDoor
namespace Go.Proofs.YtbpjbhbbkonjlaaGreatDoor
structure Lv where
  has : Int
  least : Int
  lot : Int
def lv0 : Lv := ⟨0, 0, 0⟩
end Go.Proofs.YtbpjbhbbkonjlaaGreatDoor
namespace Go.Proofs.YtbpjbhbbkonjlaaGreatDoor
open Go.RowKit
def LevAt (w : World) (la : Option Addr) (l : List Lv) : Prop :=
  ∀ i, i < l.length → ∃ b off, la = some ⟨b, off, none⟩ ∧ w.cell? ⟨b, off + i * 3, none⟩ = some (.int .i64 (l.getD i lv0).has) ∧ w.cell? ⟨b, off + i * 3 + 1, none⟩ = some (.int .i64 (l.getD i lv0).least) ∧ w.cell? ⟨b, off + i * 3 + 2, none⟩ = some (.int .i64 (l.getD i lv0).lot)
theorem LevAt.ext {w w' : World} {la : Option Addr} {l : List Lv} (h : LevAt w la l) (he : Ext w w') : LevAt w' la l := fun i hi => by
  obtain ⟨b, off, h1, h2, h3, h4⟩ := h i hi
  exact ⟨b, off, h1, he.cell h2, he.cell h3, he.cell h4⟩
end Go.Proofs.YtbpjbhbbkonjlaaGreatDoor
namespace Go.Proofs.YtbpjbhbbkonjlaaGreatDoor
end Go.Proofs.YtbpjbhbbkonjlaaGreatDoor
namespace Go.Proofs.YtbpjbhbbkonjlaaGreatDoor
open Go.RowKit
end Go.Proofs.YtbpjbhbbkonjlaaGreatDoor
namespace Go.Proofs.YtbpjbhbbkonjlaaGreatDoor
open Go.RowKit
theorem MaxK_any (l : List Int) (K : Nat) (a : Option Addr) (cap : Nat) (w : World) (hK : 0 < K) (hn : K = l.length) (hl : K ≤ maxLen) (hc : CellsI w a l) :
    Calls Tryz.prog 41 #[.slice a K cap] w fun e w' => e = .returned (.int .i64 (maxK l (K - 1))) ∧ Ext w w' := by
  cases K with
  | zero => omega
  | succ n => exact Max_any l n a cap w hn hl hc
theorem maxK_le {l : List Int} {c : Int} : ∀ k, (∀ i, i ≤ k → l.getD i 0 ≤ c) → maxK l k ≤ c := by
  intro k
  induction k with
  | zero => intro h; exact h 0 (Nat.le_refl _)
  | succ k ih =>
    intro h
    have h1 := ih (fun i hi => h i (by omega))
    have h2 := h (k + 1) (Nat.le_refl _)
    unfold maxK
    omega
theorem PksAt.wide {w : World} {X : Nat → Prop} {pa : Option Addr} {K : Nat} {pks : List Pk} (h : PksAt w (fun _ => False) pa K pks) (hK : 0 < K) (hp : ∀ p ∈ pks, p.parts.length = K) (hx : ∀ k, X k → w.heap.size ≤ k) : PksAt w X pa K pks := fun i hi => by
  obtain ⟨b, off, ai, ci, h1, h2, h3, h4, h5, _, _⟩ := h i hi
  have z := cell_lt h2
  dsimp only at z
  have hm : pks.getD i pk0 ∈ pks := by rw [List.getD_eq_getElem?_getD, List.getElem?_eq_getElem hi]; simp
  obtain ⟨b2, o2, e2, c2⟩ := h5 0 (by rw [hp _ hm]; exact hK)
  have z2 := cell_lt c2
  dsimp only at z2
  refine ⟨b, off, ai, ci, h1, h2, h3, h4, h5, fun e => by have := hx _ e; omega, fun b' o' e e3 => ?_⟩
  rw [e2] at e
  cases e
  have := hx _ e3
  omega
theorem PkG.at {w : World} {pa : Option Addr} {pks : List Pk} {K : Nat} (h : PkG w pa pks) (hp : ∀ p ∈ pks, p.parts.length = K) : PksAt w (fun _ => False) pa K pks := fun i hi => by
  obtain ⟨b, off, v, h1, h2, ⟨ai, ci, rfl, h3, _, _⟩, h4, h5⟩ := h i hi
  rw [hp _ (getD_mem (d := pk0) hi)] at h2
  exact ⟨b, off, ai, ci, h1, h2, h4, h5, h3, fun h => h, fun _ _ _ h => h⟩
def bestOS (pks : List Pk) (need : List Int) : Bst := (buyS pks pks.length need 0 0 (List.replicate pks.length 0, bst0)).2
def orderE (pks : List Pk) (need : List Int) : Int := if checkS pks need ≠ 0 then checkS pks need else if 5 < pks.length ∨ 20 < maxK need (need.length - 1) then 12 else if (bestOS pks need).found = true then 0 else 6
def orderL (pks : List Pk) (need : List Int) : List Int := if orderE pks need = 0 then (bestOS pks need).order else []
def orderP (pks : List Pk) (need : List Int) : Int := if orderE pks need = 0 then (bestOS pks need).price else 0
def OrdP (l : List Int) (p er : Int) (w : World) (e : Ending) (w' : World) : Prop := ∃ a cap, e = .returned (.tuple #[.slice a l.length cap, .int .i64 p, .int .i64 er]) ∧ CellsI w' a l ∧ Ext w w'
set_option maxHeartbeats 4000000 in
set_option maxRecDepth 100000 in
theorem OrderGood_any {pks : List Pk} {K : Nat} {pa : Option Addr} {pc : Nat} (ht : TaskOk pks K) (hK : 0 < K) (need : List Int) (na : Option Addr) (nc : Nat) (w : World) (hnl : need.length = K) (hnn : ∀ x ∈ need, 0 ≤ x ∧ x ≤ 20) (hg : TaskG w pks need pa pc na nc) (hck : checkS pks need = 0) (r : Bst) (hr : (buyS pks pks.length need 0 0 (List.replicate pks.length 0, ⟨[], 0, 0, false⟩)).2 = r) :
    Calls Tryz.prog 20 #[.agg #[.slice pa pks.length pc, .slice na K nc]] w fun e w' => OrdP (if r.found = true then r.order else []) (if r.found = true then r.price else 0) (if r.found = true then 0 else 6) w e w' := by
  obtain ⟨lo, hlo⟩ : ∃ l, (if r.found = true then r.order else []) = l := ⟨_, rfl⟩
  obtain ⟨po, hpo⟩ : ∃ l, (if r.found = true then r.price else 0) = l := ⟨_, rfl⟩
  obtain ⟨eo, heo⟩ : ∃ l : Int, (if r.found = true then 0 else 6) = l := ⟨_, rfl⟩
  rw [hlo, hpo, heo]
  have HLO := Lib.hid (show _ ∧ _ ∧ _ from ⟨hlo, hpo, heo⟩)
  clear hlo hpo heo
  unfold OrdP
  have hp := hg.pk.at ht.parts
  have hc := hg.nd
  have hneed : ∀ k, k < K → 0 ≤ need.getD k 0 ∧ need.getD k 0 ≤ 20 := fun k hk => hnn _ (by rw [List.getD_eq_getElem?_getD, List.getElem?_eq_getElem (by omega)]; simp)
  have HCK : Hid (∀ w', Ext w w' → Calls Tryz.prog 40 #[.agg #[.slice pa pks.length pc, .slice na K nc]] w' fun e w2 => e = .returned (.int .i64 0) ∧ Ext w' w2) := fun w' he => by
    have h := CheckO_any (hg.ext he)
    rw [hck] at h
    unfold taskV at h
    rw [hnl] at h
    exact h
  have HMX : Hid (∀ w', Ext w w' → Calls Tryz.prog 41 #[.slice na K nc] w' fun e w2 => ∃ m : Int, m ≤ 20 ∧ e = .returned (.int .i64 m) ∧ Ext w' w2) := fun w' he => (MaxK_any need K na nc w' hK hnl.symm (by have := ht.kinds; unfold maxLen; omega) (hc.ext he)).mono (fun e w2 h => ⟨_, maxK_le _ (fun i hi => (hneed i (by omega)).2), h⟩)
  have HBUY : Hid (∀ xb nb fb bb nwb w', Ext w w' → w.heap.size ≤ bb → w.heap.size ≤ nwb → w'.cell? ⟨xb, 0, none⟩ = some (.slice pa pks.length pc) → w'.cell? ⟨nb, 0, none⟩ = some (.slice (some ⟨nwb, 0, none⟩) pks.length pks.length) → w'.cell? ⟨fb, 0, none⟩ = some (buyV bb nb xb fb) → xb ≠ bb → xb ≠ nwb → nb ≠ bb → nb ≠ nwb → fb ≠ bb → fb ≠ nwb → bb ≠ nwb → nwb < w'.heap.size →
      ArrI w' nwb (List.replicate pks.length 0) → w'.cell? ⟨bb, 0, none⟩ = some (.slice none 0 0) → w'.cell? ⟨bb, 1, none⟩ = some (.int .i64 0) → w'.cell? ⟨bb, 2, none⟩ = some (.int .i64 0) → w'.cell? ⟨bb, 3, none⟩ = some (.bool false) → (w'.frozen? ⟨bb, 0, none⟩ = false ∧ w'.frozen? ⟨bb, 1, none⟩ = false ∧ w'.frozen? ⟨bb, 2, none⟩ = false ∧ w'.frozen? ⟨bb, 3, none⟩ = false) →
      Calls Tryz.prog 42 #[.int .i64 0, .slice na K nc, .int .i64 0, .int .i64 0, .pointer (some ⟨bb, 0, none⟩), .pointer (some ⟨nb, 0, none⟩), .pointer (some ⟨xb, 0, none⟩), .pointer (some ⟨fb, 0, none⟩)] w' fun e w2 =>
        e = .returned (.tuple #[]) ∧ (∃ oa oc, w2.cell? ⟨bb, 0, none⟩ = some (.slice oa r.order.length oc) ∧ CellsI w2 oa r.order) ∧ w2.cell? ⟨bb, 1, none⟩ = some (.int .i64 r.price) ∧ w2.cell? ⟨bb, 3, none⟩ = some (.bool r.found) ∧ Below w.heap.size w' w2) := by
    intro xb nb fb bb nwb w' he b1 b2 cx cn cf n1 n2 n3 n4 n5 n6 n7 hnl2 ha c0 c1 c2 c3 hz
    have hno : NeedOk need 0 0 K 0 := ⟨hnl, fun k hk => by have := hneed k hk; omega, by omega, by omega⟩
    have hX : ∀ k, BX bb nwb k → w.heap.size ≤ k := fun k hk => by rcases hk with rfl | rfl <;> assumption
    have hpk : PksAt w' (BX bb nwb) pa K pks := fun i hi => by
      obtain ⟨b, off, ai, ci, h1, h2, h3, h4, h5, h6, h7⟩ := (hp.wide hK ht.parts hX) i hi
      exact ⟨b, off, ai, ci, h1, he.cell h2, he.cell h3, he.cell h4, h5.ext he, h6, h7⟩
    have henv : EnvB w' pks K xb nb fb bb nwb pa pc := ⟨cx, cn, cf, hpk, fun h => by rcases h with h | h <;> contradiction, fun h => by rcases h with h | h <;> contradiction, fun h => by rcases h with h | h <;> contradiction⟩
    have hst : StB w' bb nwb (List.replicate pks.length 0) ⟨[], 0, 0, false⟩ := ⟨ha, ⟨none, 0, c0, fun i hi => by simp at hi, fun _ _ e => by cases e⟩, c1, c2, c3, hz.1, hz.2.1, hz.2.2.1, hz.2.2.2, n7, hnl2⟩
    refine (buy_any ht w.heap.size b1 b2 pks.length 0 (by omega) need 0 0 na nc _ _ w' hno (by simp) henv hst (hc.ext he) (fun b' o' e e2 => ?_)).mono ?_
    · obtain ⟨b3, o3, e3, c3⟩ := hc 0 (by omega)
      rw [e] at e3
      cases e3
      have := cell_lt c3
      have := hX _ e2
      dsimp only at *
      omega
    · rintro e w2 ⟨h1, h2, _, h4⟩
      rw [hr] at h2
      obtain ⟨oa, oc, o1, o2, _⟩ := h2.o
      exact ⟨h1, ⟨oa, oc, o1, o2⟩, h2.p, h2.f, h4⟩
  obtain ⟨N, hN⟩ : ∃ N, N = pks.length := ⟨_, rfl⟩
  have hN5 := ht.len
  rw [← hN] at HCK HBUY hN5 ⊢
  clear ht hnl hnn hp hc hN hr hneed hg hck
  have E0 : Ext w (w.alloc (.cells #[.slice pa N pc, .slice na K nc] 60)) := (Ext.refl _).alloc _
  have y1 : (w.alloc (.cells #[.slice pa N pc, .slice na K nc] 60)).cell? ⟨w.heap.size, 0, none⟩ = some (.slice pa N pc) := by go_simp
  have y2 : (w.alloc (.cells #[.slice pa N pc, .slice na K nc] 60)).cell? ⟨w.heap.size, 1, none⟩ = some (.slice na K nc) := by go_simp
  have k3 : ¬ (5 : Int) < (N : Int) := by omega
  go_enter Tryz.func20, Tryz.ntmps20
  go_wp2_with fail
  refine (HCK.out _ E0).mono ?_
  rintro e w1 ⟨rfl, hE⟩
  have E1 := E0.trans hE
  have a1 := hE.cell y1
  have a2 := hE.cell y2
  clear hE E0 y1 y2
  go_wp2_with fail
  refine (HMX.out _ E1).mono ?_
  rintro e w2 ⟨m, hm, rfl, hE⟩
  have hm' : ¬ (20 : Int) < m := by omega
  have E2 := E1.trans hE
  have a1 := hE.cell a1
  have a2 := hE.cell a2
  clear hE E1
  have hx2 : w.heap.size < w2.heap.size := cell_lt a1
  obtain ⟨i0, hi, hi0, hi1, hi2⟩ := info_parts infoIn
  go_wp2_with (at_make; refine wpList_make_full _ rfl _ _ 49 rfl 0 3 i0 (.int .i64 0) 1 Tryz.underlying49 hi hi0 hi1 _ _ _ _ N rfl rfl rfl rfl ?b2 ?b3 ?b4 ?hK)
  case b2 => rw [hi2]; omega
  case b3 => unfold maxLen; omega
  case b4 => exact Nat.zero_le _
  case hK =>
    intro w3 hown hgr
    have E3 : Ext (w2.alloc (.cells #[.slice none 0 0, .int .i64 0, .int .i64 0, .bool false] 88)) w3 := ⟨hgr.os, hgr.tape, hgr.output, hgr.size, fun k hk => hgr.block k hk (by simp)⟩
    have HA3 : Hid (ArrI w3 (w2.heap.size + 1) (List.replicate N 0)) := fun j hj => by
      rw [List.length_replicate] at hj
      have h1 := hown.cellAt j (by omega)
      have h2 := hown.frozenAt j
      refine ⟨?_, h2⟩
      rw [h1]
      simp [madeCells, hj, Nat.mod_one, List.getD]
    have b0 : (w2.alloc (.cells #[.slice none 0 0, .int .i64 0, .int .i64 0, .bool false] 88)).cell? ⟨w2.heap.size, 0, none⟩ = some (.slice none 0 0) := by go_simp
    have b1 : (w2.alloc (.cells #[.slice none 0 0, .int .i64 0, .int .i64 0, .bool false] 88)).cell? ⟨w2.heap.size, 1, none⟩ = some (.int .i64 0) := by go_simp
    have b2 : (w2.alloc (.cells #[.slice none 0 0, .int .i64 0, .int .i64 0, .bool false] 88)).cell? ⟨w2.heap.size, 2, none⟩ = some (.int .i64 0) := by go_simp
    have b3 : (w2.alloc (.cells #[.slice none 0 0, .int .i64 0, .int .i64 0, .bool false] 88)).cell? ⟨w2.heap.size, 3, none⟩ = some (.bool false) := by go_simp
    have hz : (w2.alloc (.cells #[.slice none 0 0, .int .i64 0, .int .i64 0, .bool false] 88)).frozen? ⟨w2.heap.size, 0, none⟩ = false ∧ (w2.alloc (.cells #[.slice none 0 0, .int .i64 0, .int .i64 0, .bool false] 88)).frozen? ⟨w2.heap.size, 1, none⟩ = false ∧ (w2.alloc (.cells #[.slice none 0 0, .int .i64 0, .int .i64 0, .bool false] 88)).frozen? ⟨w2.heap.size, 2, none⟩ = false ∧ (w2.alloc (.cells #[.slice none 0 0, .int .i64 0, .int .i64 0, .bool false] 88)).frozen? ⟨w2.heap.size, 3, none⟩ = false := ⟨by go_simp, by go_simp, by go_simp, by go_simp⟩
    have E23 := (Ext.alloc (Ext.refl w2) (.cells #[.slice none 0 0, .int .i64 0, .int .i64 0, .bool false] 88)).trans E3
    have a1 := E23.cell a1
    have a2 := E23.cell a2
    have b0 := E3.cell b0
    have b1 := E3.cell b1
    have b2 := E3.cell b2
    have b3 := E3.cell b3
    have hx3 : w.heap.size < w3.heap.size := cell_lt a1
    have hy3 : w2.heap.size < w3.heap.size := cell_lt b0
    have hz3 : w2.heap.size + 1 < w3.heap.size := by
      have := rowLt hown (b := _) rfl
      simpa using this
    have hfz : ∀ o, (w2.alloc (.cells #[.slice none 0 0, .int .i64 0, .int .i64 0, .bool false] 88)).frozen? ⟨w2.heap.size, o, none⟩ = false → w3.frozen? ⟨w2.heap.size, o, none⟩ = false := fun o h => (Below.frozen (p := ⟨w2.heap.size, o, none⟩) E3 (by simp)).trans h
    have hz := And.intro (hfz 0 hz.1) (And.intro (hfz 1 hz.2.1) (And.intro (hfz 2 hz.2.2.1) (hfz 3 hz.2.2.2)))
    have E4 : ∀ t, Ext w3 ((w3.alloc (.cells #[.slice (some ⟨w2.heap.size + 1, 0, none⟩) N N] 49)).alloc (.cells #[buyV w2.heap.size w3.heap.size w.heap.size (w3.heap.size + 1)] t)) := fun t => ((Ext.refl _).alloc _).alloc _
    have cn : ∀ t, ((w3.alloc (.cells #[.slice (some ⟨w2.heap.size + 1, 0, none⟩) N N] 49)).alloc (.cells #[buyV w2.heap.size w3.heap.size w.heap.size (w3.heap.size + 1)] t)).cell? ⟨w3.heap.size, 0, none⟩ = some (.slice (some ⟨w2.heap.size + 1, 0, none⟩) N N) := fun t => by go_simp
    have cf : ∀ t, ((w3.alloc (.cells #[.slice (some ⟨w2.heap.size + 1, 0, none⟩) N N] 49)).alloc (.cells #[buyV w2.heap.size w3.heap.size w.heap.size (w3.heap.size + 1)] t)).cell? ⟨w3.heap.size + 1, 0, none⟩ = some (buyV w2.heap.size w3.heap.size w.heap.size (w3.heap.size + 1)) := fun t => by go_simp
    have EE := E2.trans E23
    have hle : w.heap.size ≤ w2.heap.size := E2.size
    have HAL : Hid (∀ t, ArrI ((w3.alloc (.cells #[.slice (some ⟨w2.heap.size + 1, 0, none⟩) N N] 49)).alloc (.cells #[buyV w2.heap.size w3.heap.size w.heap.size (w3.heap.size + 1)] t)) (w2.heap.size + 1) (List.replicate N 0)) := fun t => HA3.out.ext (E4 t)
    have HZA : Hid (∀ t, ((w3.alloc (.cells #[.slice (some ⟨w2.heap.size + 1, 0, none⟩) N N] 49)).alloc (.cells #[buyV w2.heap.size w3.heap.size w.heap.size (w3.heap.size + 1)] t)).frozen? ⟨w2.heap.size, 0, none⟩ = false ∧ ((w3.alloc (.cells #[.slice (some ⟨w2.heap.size + 1, 0, none⟩) N N] 49)).alloc (.cells #[buyV w2.heap.size w3.heap.size w.heap.size (w3.heap.size + 1)] t)).frozen? ⟨w2.heap.size, 1, none⟩ = false ∧ ((w3.alloc (.cells #[.slice (some ⟨w2.heap.size + 1, 0, none⟩) N N] 49)).alloc (.cells #[buyV w2.heap.size w3.heap.size w.heap.size (w3.heap.size + 1)] t)).frozen? ⟨w2.heap.size, 2, none⟩ = false ∧ ((w3.alloc (.cells #[.slice (some ⟨w2.heap.size + 1, 0, none⟩) N N] 49)).alloc (.cells #[buyV w2.heap.size w3.heap.size w.heap.size (w3.heap.size + 1)] t)).frozen? ⟨w2.heap.size, 3, none⟩ = false) := fun t => ⟨((E4 t).frozen (p := ⟨_, 0, none⟩) hy3).trans hz.1, ((E4 t).frozen (p := ⟨_, 1, none⟩) hy3).trans hz.2.1, ((E4 t).frozen (p := ⟨_, 2, none⟩) hy3).trans hz.2.2.1, ((E4 t).frozen (p := ⟨_, 3, none⟩) hy3).trans hz.2.2.2⟩
    clear hz hfz
    go_wp2_with fail
    refine (HBUY.out w.heap.size w3.heap.size (w3.heap.size + 1) w2.heap.size (w2.heap.size + 1) _ (EE.trans (E4 _)) (by omega) (by omega) ((E4 _).cell a1) (cn _) (cf _) (by omega) (by omega) (by omega) (by omega) (by omega) (by omega) (by omega) (by exact Nat.lt_of_lt_of_le hz3 (E4 _).size) (HAL.out _) ((E4 _).cell b0) ((E4 _).cell b1) ((E4 _).cell b2) ((E4 _).cell b3) (HZA.out _)).mono ?_
    rintro e w5 ⟨rfl, ⟨oa, oc, c0, cl⟩, c1, c3, hB⟩
    have HCL := Lib.hid cl
    clear cl
    have HB := Lib.hid (Below.trans (EE.trans (E4 _)) hB)
    have HCK2 := HCK
    clear hB HAL HZA HA3 E3 E4 E23 EE b0 b1 b2 b3 cn cf a1 a2 hown hgr HBUY HMX HCK HCK2
    have z5 := cell_lt c1
    dsimp only at z5
    cases hf : r.found
    · rw [hf] at c3
      obtain ⟨rfl, rfl, rfl⟩ : lo = [] ∧ po = 0 ∧ eo = 6 := by
        have h := HLO.out
        rw [hf, if_neg (by simp), if_neg (by simp), if_neg (by simp)] at h
        exact ⟨h.1.symm, h.2.1.symm, h.2.2.symm⟩
      clear hf
      go_wp2
      go_ret3
      exact ⟨none, 0, rfl, fun i hi => by simp at hi, HB.out⟩
    · rw [hf] at c3
      obtain ⟨rfl, rfl, rfl⟩ : lo = r.order ∧ po = r.price ∧ eo = 0 := by
        have h := HLO.out
        rw [hf, if_pos rfl, if_pos rfl, if_pos rfl] at h
        exact ⟨h.1.symm, h.2.1.symm, h.2.2.symm⟩
      clear hf
      go_wp2_with fail
      go_quiet (fail)
      go_wp2
      go_ret3
      exact ⟨oa, oc, rfl, HCL.out.ext ((Ext.refl _).drewN _), (show Ext w w5 from HB.out).drewN _⟩
theorem maxK_ge {l : List Int} : ∀ k i, i ≤ k → l.getD i 0 ≤ maxK l k := by
  intro k
  induction k with
  | zero =>
    intro i hi
    have : i = 0 := by omega
    subst this
    exact Int.le_refl _
  | succ k ih =>
    intro i hi
    unfold maxK
    by_cases h : i ≤ k
    · have := ih i h; omega
    · have : i = k + 1 := by omega
      subst this
      omega
theorem order_bad {pks : List Pk} {need : List Int} (h : orderE pks need ≠ 0) : orderL pks need = [] ∧ orderP pks need = 0 := by
  unfold orderL orderP
  rw [if_neg h, if_neg h]
  exact ⟨rfl, rfl⟩
theorem order_check {pks : List Pk} {need : List Int} (h : checkS pks need ≠ 0) : orderE pks need = checkS pks need := by unfold orderE; rw [if_pos h]
theorem order_limit {pks : List Pk} {need : List Int} (h : checkS pks need = 0) (h2 : 5 < pks.length ∨ 20 < maxK need (need.length - 1)) : orderE pks need = 12 := by unfold orderE; rw [if_neg (by rw [h]; simp), if_pos h2]
theorem order_good {pks : List Pk} {need : List Int} (h : checkS pks need = 0) (h2 : ¬ (5 < pks.length ∨ 20 < maxK need (need.length - 1))) :
    orderE pks need = (if (bestOS pks need).found = true then 0 else 6) ∧ orderL pks need = (if (bestOS pks need).found = true then (bestOS pks need).order else []) ∧ orderP pks need = (if (bestOS pks need).found = true then (bestOS pks need).price else 0) := by
  have he : orderE pks need = (if (bestOS pks need).found = true then 0 else 6) := by unfold orderE; rw [if_neg (by rw [h]; simp), if_neg h2]
  refine ⟨he, ?_⟩
  unfold orderL orderP
  rw [he]
  cases (bestOS pks need).found
  · exact ⟨rfl, rfl⟩
  · exact ⟨rfl, rfl⟩
structure Searched (pks : List Pk) (need : List Int) : Prop where
  r : RightO pks need
  len : pks.length ≤ 5
  nd : ∀ x ∈ need, 0 ≤ x ∧ x ≤ 20
theorem searched_of {pks : List Pk} {need : List Int} (h : checkS pks need = 0) (h2 : ¬ (5 < pks.length ∨ 20 < maxK need (need.length - 1))) : Searched pks need := by
  have hr := right_of h
  refine ⟨hr, by omega, fun x hx => ⟨(hr.nd x hx).1, ?_⟩⟩
  obtain ⟨i, hi, e⟩ := List.mem_iff_getElem.1 hx
  have := maxK_ge (l := need) (need.length - 1) i (by omega)
  rw [getD_of hi, e] at this
  omega
theorem Searched.task {pks : List Pk} {need : List Int} (h : Searched pks need) : TaskOk pks need.length := ⟨h.len, h.r.k1, h.r.parts, h.r.num, h.r.price, h.r.most⟩
set_option maxHeartbeats 4000000 in
theorem Order_any {pks : List Pk} {need : List Int} {pa : Option Addr} {pc : Nat} {na : Option Addr} {nc : Nat} {w : World} (ht : TaskG w pks need pa pc na nc) :
    Calls Tryz.prog 20 #[taskV pks need pa pc na nc] w fun e w' => OrdP (orderL pks need) (orderP pks need) (orderE pks need) w e w' := by
  by_cases hok : checkS pks need = 0 ∧ ¬ (5 < pks.length ∨ 20 < maxK need (need.length - 1))
  · obtain ⟨h1, h2⟩ := hok
    have hs := searched_of h1 h2
    obtain ⟨e1, e2, e3⟩ := order_good h1 h2
    rw [e1, e2, e3]
    exact OrderGood_any hs.task hs.r.k0 need na nc w rfl hs.nd ht h1 (bestOS pks need) rfl
  have HCK := Lib.hid (fun w' (he : Ext w w') => CheckO_any (ht.ext he))
  unfold taskV at HCK ⊢
  unfold OrdP
  have HD := Lib.hid ht.nd
  obtain ⟨N, hN⟩ : ∃ N, N = pks.length := ⟨_, rfl⟩
  obtain ⟨K, hK⟩ : ∃ K, K = need.length := ⟨_, rfl⟩
  obtain ⟨c, hc⟩ : ∃ c, checkS pks need = c := ⟨_, rfl⟩
  obtain ⟨eo, heo⟩ : ∃ e, orderE pks need = e := ⟨_, rfl⟩
  have he0 : orderE pks need ≠ 0 ∧ (c ≠ 0 → eo = c) ∧ (c = 0 → eo = 12) := by
    by_cases h1 : checkS pks need = 0
    · have h2 : 5 < pks.length ∨ 20 < maxK need (need.length - 1) := by
        by_cases h2 : 5 < pks.length ∨ 20 < maxK need (need.length - 1)
        · exact h2
        · exact absurd ⟨h1, h2⟩ hok
      have h3 := order_limit h1 h2
      exact ⟨by rw [h3]; simp, fun h => absurd (hc.symm.trans h1) h, fun _ => by rw [← heo]; exact h3⟩
    · have h3 := order_check h1
      exact ⟨by rw [h3]; exact h1, fun _ => by rw [← heo, h3]; exact hc, fun h => absurd (hc.trans h) h1⟩
  obtain ⟨h1, h2⟩ := order_bad he0.1
  rw [h1, h2, heo, ← hN, ← hK]
  rw [hc, ← hN, ← hK] at HCK
  have HH : Hid (c = 0 → 5 < N ∨ 20 < maxK need (K - 1)) := fun h => by
    by_cases h2 : 5 < pks.length ∨ 20 < maxK need (need.length - 1)
    · rw [hN, hK]; exact h2
    · exact absurd ⟨hc.trans h, h2⟩ hok
  have HE := Lib.hid he0.2
  have HR : Hid (c = 0 → 0 < K ∧ K ≤ 16) := fun h => by
    have hr := right_of (hc.trans h)
    have := hr.k0
    have := hr.k1
    omega
  have HK := Lib.hid hK
  clear hok ht hN hK hc heo he0 h1 h2
  have E0 : Ext w (w.alloc (.cells #[.slice pa N pc, .slice na K nc] 60)) := (Ext.refl _).alloc _
  have y1 : (w.alloc (.cells #[.slice pa N pc, .slice na K nc] 60)).cell? ⟨w.heap.size, 0, none⟩ = some (.slice pa N pc) := by go_simp
  have y2 : (w.alloc (.cells #[.slice pa N pc, .slice na K nc] 60)).cell? ⟨w.heap.size, 1, none⟩ = some (.slice na K nc) := by go_simp
  go_enter Tryz.func20, Tryz.ntmps20
  go_wp2_with fail
  refine (HCK.out _ E0).mono ?_
  rintro e w1 ⟨rfl, hE⟩
  have E1 := E0.trans hE
  have a1 := hE.cell y1
  have a2 := hE.cell y2
  have z1 := cell_lt a1
  dsimp only at z1
  clear hE E0 y1 y2 HCK
  by_cases h0 : c = 0
  · subst h0
    obtain rfl := HE.out.2 rfl
    obtain ⟨hk0, hk1⟩ := HR.out rfl
    by_cases h5 : 5 < N
    · have k3 : (5 : Int) < (N : Int) := by omega
      go_wp2
      go_ret3
      exact ⟨none, 0, rfl, fun i hi => by simp at hi, E1⟩
    · have k3 : ¬ (5 : Int) < (N : Int) := by omega
      have HM : Hid (20 < maxK need (K - 1)) := by
        show _ < _
        have := HH.out rfl
        omega
      go_wp2_with fail
      refine (MaxK_any need K na nc _ hk0 HK.out (by unfold maxLen; omega) (HD.out.ext E1)).mono ?_
      rintro e w2 ⟨rfl, hE⟩
      have hm := HM.out
      generalize maxK need (K - 1) = m at hm ⊢
      have E2 := E1.trans hE
      go_wp2
      go_ret3
      exact ⟨none, 0, rfl, fun i hi => by simp at hi, E2⟩
  · have k1 : (c == 0) = false := by simp [h0]
    obtain rfl := HE.out.1 h0
    go_wp2
    go_ret3
    exact ⟨none, 0, rfl, fun i hi => by simp at hi, E1⟩
end Go.Proofs.YtbpjbhbbkonjlaaGreatDoor
namespace Go.Proofs.YtbpjbhbbkonjlaaGreatDoor
open Go.RowKit
theorem results_cellT {fn : Func} {p : Tmp} {ty : TypeId} (h : fn.results = #[.cell p ty]) (tmps : Array Value) (P : Program) (w : World) :
    (results fn tmps).run P w = ((asAddr (tmps.getD p undef)).run P w).andThen fun a w₁ => (loadVar ty a).run P w₁ := by
  simp only [results, h]
  simp [Sem.run_bind, Result.andThen]
theorem three_order : orderL threeP [3, 2] = [1, 0, 1] ∧ orderP threeP [3, 2] = 17 ∧ orderE threeP [3, 2] = 0 := by decide +kernel
def ThreeP (w : World) (e : Ending) (w' : World) : Prop := ∃ pa na, e = .returned (.agg #[.slice pa 3 3, .slice na 2 2]) ∧ TaskG w' threeP [3, 2] pa 3 na 2 ∧ Ext w w'
theorem slice_two (w : World) (b : Nat) (x y : Int) (h0 : w.cell? ⟨b, 0, none⟩ = some (.int .i64 x)) (h1 : w.cell? ⟨b, 1, none⟩ = some (.int .i64 y)) : SliceI w (.slice (some ⟨b, 0, none⟩) 2 2) [x, y] := ⟨_, 2, rfl, cells_two w b x y h0 h1, Nat.le_refl _, by unfold maxLen; omega⟩
set_option maxHeartbeats 2000000 in
theorem Three_any (w : World) : Calls Tryz.prog 21 #[] w fun e w' => ThreeP w e w' := by
  go_enter Tryz.func21, Tryz.ntmps21
  go_wp2
  (try simp only [Exit.inBlock, Exit.then])
  refine bodyPost_ret (v := .agg #[.slice (some ⟨w.heap.size + 1 + 1 + 1 + 1, 0, none⟩) 3 3, .slice (some ⟨w.heap.size + 1 + 1 + 1 + 1 + 1, 0, none⟩) 2 2]) (by rw [results_cellT rfl]; go_simp) rfl ⟨_, _, rfl, ⟨?_, cells_two _ _ _ _ (by go_simp) (by go_simp), Nat.le_refl _, by unfold maxLen; omega, Nat.le_refl _, by unfold maxLen; omega⟩, ((((((Ext.refl _).alloc _).alloc _).alloc _).alloc _).alloc _).alloc _⟩
  intro i hi
  have h3 : i < 3 := hi
  rcases i with _ | _ | _ | i
  · exact ⟨w.heap.size + 1 + 1 + 1 + 1, 0, .slice (some ⟨w.heap.size + 1, 0, none⟩) 2 2, rfl, by go_simp, slice_two _ _ _ _ (by go_simp) (by go_simp), by show World.cell? _ _ = some (.int .i64 5); go_simp, by show World.cell? _ _ = some (.int .i64 9); go_simp⟩
  · exact ⟨w.heap.size + 1 + 1 + 1 + 1, 0, .slice (some ⟨w.heap.size + 1 + 1, 0, none⟩) 2 2, rfl, by go_simp, slice_two _ _ _ _ (by go_simp) (by go_simp), by show World.cell? _ _ = some (.int .i64 4); go_simp, by show World.cell? _ _ = some (.int .i64 9); go_simp⟩
  · exact ⟨w.heap.size + 1 + 1 + 1 + 1, 0, .slice (some ⟨w.heap.size + 1 + 1 + 1, 0, none⟩) 2 2, rfl, by go_simp, slice_two _ _ _ _ (by go_simp) (by go_simp), by show World.cell? _ _ = some (.int .i64 12); go_simp, by show World.cell? _ _ = some (.int .i64 9); go_simp⟩
  · omega
set_option maxHeartbeats 4000000 in
set_option maxRecDepth 100000 in
theorem tryStock_any (w : World) : Calls Tryz.prog 8 #[] w fun e w' => e = .returned (.bool true) ∧ Ext w w' := by
  have HO : Hid (∀ pa na W, TaskG W threeP [3, 2] pa 3 na 2 → Calls Tryz.prog 20 #[.agg #[.slice pa 3 3, .slice na 2 2]] W fun e w' => ∃ a cap, e = .returned (.tuple #[.slice a 3 cap, .int .i64 17, .int .i64 0]) ∧ CellsI w' a [1, 0, 1] ∧ Ext W w') := fun pa na W h => by
    have := Order_any h
    rw [three_order.1, three_order.2.1, three_order.2.2] at this
    exact this
  go_enter Tryz.func8, Tryz.ntmps8
  go_wp2_with fail
  refine (Three_any _).mono ?_
  rintro e w1 ⟨pa, na, rfl, hT, hE⟩
  replace HO := Lib.hid (HO.out pa na w1 hT)
  clear hT
  go_wp2_with fail
  refine HO.out.mono ?_
  rintro e w2 ⟨a, cap, rfl, _, hE2⟩
  go_wp2
  all_goals go_ret
  all_goals exact ⟨rfl, hE.trans hE2⟩
end Go.Proofs.YtbpjbhbbkonjlaaGreatDoor
namespace Go.Proofs.YtbpjbhbbkonjlaaGreatDoor
open Go.RowKit
open Go.Maps
theorem renE_inj {t : List Int} {n : Int} (ht : renE t n = 0) : (t.length : Int) = n ∧ (∀ k, k < t.length → 0 ≤ t.getD k 0 ∧ t.getD k 0 < n) ∧ ∀ a b, In n a → In n b → listFn t a = listFn t b → a = b := by
  unfold renE at ht
  by_cases hl : (t.length : Int) ≠ n
  · rw [if_pos hl] at ht; cases ht
  rw [if_neg hl] at ht
  have hl : (t.length : Int) = n := by omega
  obtain ⟨h1, h2, _⟩ := renGo_zero t [] ht
  refine ⟨hl, fun k hk => h1 _ (by rw [List.getD_eq_getElem?_getD, List.getElem?_eq_getElem hk]; exact List.getElem_mem hk), fun a b ha hb e => ?_⟩
  obtain ⟨i, rfl⟩ := Int.eq_ofNat_of_zero_le ha.1
  obtain ⟨j, rfl⟩ := Int.eq_ofNat_of_zero_le hb.1
  have hi : i < t.length := by have := ha.2; omega
  have hj : j < t.length := by have := hb.2; omega
  rw [listFn_at, listFn_at, List.getD_eq_getElem?_getD, List.getD_eq_getElem?_getD, List.getElem?_eq_getElem hi, List.getElem?_eq_getElem hj] at e
  have e : t[i] = t[j] := e
  have hp := List.pairwise_iff_getElem.1 h2
  rcases Nat.lt_trichotomy i j with h | h | h
  · exact absurd e (hp i j hi hj h)
  · rw [h]
  · exact absurd e.symm (hp j i hj hi h)
theorem renOk_list {t : List Int} {n : Int} {l : List Stp} (ht : renE t n = 0) (hf : Fine n l) (hn : n ≤ 6) : RenOk (listFn t) l := by
  obtain ⟨h1, h2, h3⟩ := renE_inj ht
  refine renOk_inj hf (fun a b ha hb e => h3 a b ha hb e) (fun a ha => ?_)
  obtain ⟨k, rfl⟩ := Int.eq_ofNat_of_zero_le ha.1
  have := h2 k (by omega)
  rw [listFn_at]
  omega
def rnmE (s : Sq) (t : List Int) : Int := if ckSeq s ≠ 0 then ckSeq s else renE t s.1
set_option maxHeartbeats 8000000 in
set_option maxRecDepth 100000 in
theorem Rename_any (n : Int) (l : List Stp) (a : Option Addr) (cap : Nat) (t : List Int) (ta : Option Addr) (tc : Nat) (w : World) (hl : l.length ≤ maxLen) (hc : CellsP w a l) (htl : t.length ≤ tc) (htm : tc ≤ maxLen) (hct : CellsI w ta t) :
    Calls Tryz.prog 15 #[.agg #[.int .i64 n, .slice a l.length cap], .slice ta t.length tc] w (SeqErr (if rnmE (n, l) t = 0 then ren (listFn t) (n, l) else sq0) (rnmE (n, l) t) w) := by
  have HC := Lib.hid hc
  have HL := Lib.hid hl
  have HT := Lib.hid hct
  obtain ⟨er, her⟩ : ∃ er, er = rnmE (n, l) t := ⟨_, rfl⟩
  obtain ⟨s, hs⟩ : ∃ s, s = if er = 0 then ren (listFn t) (n, l) else sq0 := ⟨_, rfl⟩
  obtain ⟨ck, hck⟩ : ∃ ck, ck = ckSeq (n, l) := ⟨_, rfl⟩
  rw [← her, ← hs]
  replace her : er = if ck ≠ 0 then ck else renE t n := by rw [her, hck]; rfl
  have HER := Lib.hid her
  have HS := Lib.hid hs
  have HCK := Lib.hid hck
  unfold maxLen at hl htm
  have hzs : ∀ w, (zeroValue 24).run Tryz.prog w = .ok (.agg #[.int .i64 0, .slice none 0 0]) w := fun _ => by kernel_rfl
  clear hc her hs hck hct
  go_enter Tryz.func15, Tryz.ntmps15
  go_wp2_with fail
  have E1 : Ext w ((w.alloc (.cells #[.int .i64 n, .slice a l.length cap] 24)).alloc (.cells #[.int .i64 0, .slice none 0 0] 24)) := extA
  have c0 : (((w.alloc (.cells #[.int .i64 n, .slice a l.length cap] 24)).alloc (.cells #[.int .i64 0, .slice none 0 0] 24))).cell? ⟨w.heap.size, 0, none⟩ = some (.int .i64 n) := by go_simp
  have c1 : (((w.alloc (.cells #[.int .i64 n, .slice a l.length cap] 24)).alloc (.cells #[.int .i64 0, .slice none 0 0] 24))).cell? ⟨w.heap.size, 1, none⟩ = some (.slice a l.length cap) := by go_simp
  have c2 : (((w.alloc (.cells #[.int .i64 n, .slice a l.length cap] 24)).alloc (.cells #[.int .i64 0, .slice none 0 0] 24))).cell? ⟨w.heap.size + 1, 0, none⟩ = some (.int .i64 0) := by go_simp
  have c3 : (((w.alloc (.cells #[.int .i64 n, .slice a l.length cap] 24)).alloc (.cells #[.int .i64 0, .slice none 0 0] 24))).cell? ⟨w.heap.size + 1, 1, none⟩ = some (.slice none 0 0) := by go_simp
  have d2 : (((w.alloc (.cells #[.int .i64 n, .slice a l.length cap] 24)).alloc (.cells #[.int .i64 0, .slice none 0 0] 24))).frozen? ⟨w.heap.size + 1, 0, none⟩ = false := by go_simp
  have d3 : (((w.alloc (.cells #[.int .i64 n, .slice a l.length cap] 24)).alloc (.cells #[.int .i64 0, .slice none 0 0] 24))).frozen? ⟨w.heap.size + 1, 1, none⟩ = false := by go_simp
  generalize ((w.alloc (.cells #[.int .i64 n, .slice a l.length cap] 24)).alloc (.cells #[.int .i64 0, .slice none 0 0] 24)) = W at E1 c0 c1 c2 c3 d2 d3 ⊢
  refine (Check_any n l a cap _ HL.out (HC.out.ext E1)).mono ?_
  rintro e w1 ⟨rfl, hE⟩
  rw [← HCK.out]
  have E2 := E1.trans hE
  have d2 := (Below.frozen (p := ⟨w.heap.size + 1, 0, none⟩) hE (cell_lt c2)).trans d2
  have d3 := (Below.frozen (p := ⟨w.heap.size + 1, 1, none⟩) hE (cell_lt c3)).trans d3
  have c0 := (hE).cell c0
  have c1 := (hE).cell c1
  have c2 := (hE).cell c2
  have c3 := (hE).cell c3
  clear hE
  by_cases h0 : ck = 0
  · subst h0
    have hck := HCK.out.symm
    obtain ⟨hN1, hN6, hl0, hl64, hwk, _, _⟩ := ckSeq_zero hck
    have HFI := Lib.hid (ckWalk_fine hwk)
    have her := HER.out
    rw [if_neg (by decide)] at her
    clear hck hwk HER
    by_cases hn : (t.length : Int) = n
    · subst hn
      have her2 : renGo (t.length : Int) [] t = er := by rw [her]; unfold renE; rw [if_neg (by simp)]
      have HR := Lib.hid her2
      have HRE := Lib.hid her
      have hnn : ((t.length : Int) != (t.length : Int)) = false := by simp
      clear her her2
      go_wp2
      go_loopw [23] (fun i wr => ∃ k : Nat, k ≤ t.length ∧ i = .int .i64 k ∧ Hid (renGo (t.length : Int) (t.take k) (t.drop k) = er) ∧ Ext w1 wr) (fun i _ => t.length - (intOf i).toNat)
      case atStart => exact ⟨0, Nat.zero_le _, rfl, HR, Ext.refl _⟩
      case round =>
        obtain ⟨k, hk, rfl, hz, he⟩ := hrel
        have E3 := E2.trans he
        have d2 := (Below.frozen (p := ⟨w.heap.size + 1, 0, none⟩) he (cell_lt c2)).trans d2
        have d3 := (Below.frozen (p := ⟨w.heap.size + 1, 1, none⟩) he (cell_lt c3)).trans d3
        have c0 := (he).cell c0
        have c1 := (he).cell c1
        have c2 := (he).cell c2
        have c3 := (he).cell c3
        by_cases hlt : k < t.length
        · obtain ⟨b, off, rfl, e1⟩ := HT.out k hlt
          have e1 := (E2.trans he).cell e1
          have HZ := Lib.hid (renGo_drop (t.length : Int) t k hlt _ hz.out)
          have HTK : Hid (CellsI wr (some ⟨b, off, none⟩) (t.take k)) := (HT.out.ext E3).take k
          clear hz
          generalize t.getD k 0 = x at e1 HZ
          have z1 := cell_lt e1
          have z0 := cell_lt c0
          dsimp only at z1 z0
          by_cases hb : x < 0 ∨ (t.length : Int) ≤ x
          · have hee := HZ.out.1 hb
            have hs := HS.out
            rw [hee, if_neg (by decide)] at hs
            subst hee
            subst hs
            have EF : Ext w ((wr.setCell ⟨w.heap.size + 1, 0, none⟩ (.int .i64 0)).setCell ⟨w.heap.size + 1, 1, none⟩ (.slice none 0 0)) := (E3.set (by omega) _).set (by omega) _
            clear HZ HRE HS HR
            by_cases h2 : x < 0
            · go_wp2
              exact bodyPost_ret (v := .tuple #[.agg #[.int .i64 0, .slice none 0 0], .int .i64 2]) (by rw [results_cell_tmp1 rfl]; go_simp) rfl ⟨_, rfl, seqV_zero _, EF⟩
            · have h3 : (t.length : Int) ≤ x := by omega
              go_wp2
              exact bodyPost_ret (v := .tuple #[.agg #[.int .i64 0, .slice none 0 0], .int .i64 2]) (by rw [results_cell_tmp1 rfl]; go_simp) rfl ⟨_, rfl, seqV_zero _, EF⟩
          · have HZ2 := Lib.hid (HZ.out.2 hb)
            have h2 : ¬ x < 0 := by omega
            have h3 : ¬ (t.length : Int) ≤ x := by omega
            have hkc : k ≤ tc := by omega
            obtain ⟨T, hT⟩ : ∃ T, T = t.take k := ⟨_, rfl⟩
            have hTl : T.length = k := by rw [hT, List.length_take]; omega
            rw [← hT] at HTK HZ2
            have HPL := Lib.hid (ContainsI_any T x (some ⟨b, off, none⟩) tc wr (by unfold maxLen; omega) HTK.out)
            rw [hTl] at HPL
            have HTL := Lib.hid hTl
            clear hT hTl HZ hb
            go_wp2_with fail
            refine HPL.out.mono ?_
            rintro e w5 ⟨rfl, hE⟩
            have E5 := he.trans hE
            have E6 := E3.trans hE
            have d2 := (Below.frozen (p := ⟨w.heap.size + 1, 0, none⟩) hE (cell_lt c2)).trans d2
            have d3 := (Below.frozen (p := ⟨w.heap.size + 1, 1, none⟩) hE (cell_lt c3)).trans d3
            have c0 := (hE).cell c0
            have c1 := (hE).cell c1
            have c2 := (hE).cell c2
            have c3 := (hE).cell c3
            clear hE HPL
            cases hm : mem1 T x
            · have HZ3 := Lib.hid (HZ2.out.2 hm)
              clear HZ2 hm
              go_wp2
              refine ⟨⟨k + 1, by omega, by go_num, HZ3, E5⟩, by simp [intOf]; omega⟩
            · have hee := HZ2.out.1 hm
              have hs := HS.out
              rw [hee, if_neg (by decide)] at hs
              subst hee
              subst hs
              have EF : Ext w ((w5.setCell ⟨w.heap.size + 1, 0, none⟩ (.int .i64 0)).setCell ⟨w.heap.size + 1, 1, none⟩ (.slice none 0 0)) := (E6.set (by omega) _).set (by omega) _
              clear HZ2 hm HRE HS HR
              go_wp2
              exact bodyPost_ret (v := .tuple #[.agg #[.int .i64 0, .slice none 0 0], .int .i64 7]) (by rw [results_cell_tmp1 rfl]; go_simp) rfl ⟨_, rfl, seqV_zero _, EF⟩
        · have hz2 := hz.out
          rw [drop_end t (k := k) (by omega)] at hz2
          have hz3 : (0 : Int) = er := by rw [← hz2]; rfl
          subst hz3
          have hs := HS.out
          rw [if_pos rfl] at hs
          have HSS := Lib.hid hs
          have HRZ := Lib.hid HRE.out.symm
          clear hz hz2 hs HS HR HRE
          go_wp2
          refine wp_region_heldE 4 (fun w' => w'.cell? ⟨w.heap.size, 0, none⟩ = some (.int .i64 (t.length : Int)) ∧ w'.cell? ⟨w.heap.size, 1, none⟩ = some (.slice a l.length cap)) (by kernel_rfl) ?_
          have ED : Ext wr wr.drew := extA
          have d2 := (Below.frozen (p := ⟨w.heap.size + 1, 0, none⟩) ED (cell_lt c2)).trans d2
          have d3 := (Below.frozen (p := ⟨w.heap.size + 1, 1, none⟩) ED (cell_lt c3)).trans d3
          have c0 := (ED).cell c0
          have c1 := (ED).cell c1
          have c2 := (ED).cell c2
          have c3 := (ED).cell c3
          have E8 := E3.trans ED
          generalize wr.drew = W8 at E8 c0 c1 c2 c3 d2 d3 ⊢
          have hS : W8.cell? ⟨w.heap.size, 0, none⟩ = some (.int .i64 (t.length : Int)) ∧ W8.cell? ⟨w.heap.size, 1, none⟩ = some (.slice a l.length cap) := ⟨c0, c1⟩
          have hc2 := c2
          have hc3 := c3
          have HLE := Lib.hid (letters_any t ta tc W8 (by omega) (HT.out.ext E8) (fun k hk => by have := (renE_inj HRZ.out).2.1 k hk; omega))
          ((refine eTk 0 ?_)); (refine ePu 1 ?_)
          (refine wpAnyE_one (i := 2) (o := ?_) ?_ (by kernel_rfl) (fun K hK => ?_); rotate_left; (focus ((simp only [List.getElem?_toArray, List.getElem?_cons_succ, List.getElem?_cons_zero]; exact rfl))); go_simp; refine HLE.out.mono ?_; rintro e w9 ⟨mb, rfl, hma, hmz, hE⟩; have HMA := Lib.hid hma; clear hma; go_wp2_with fail; refine hK.out _ _ ?_ (fun hHeld => ?_); rotate_left; clear hK K; (try simp only [Act.put, List.setIfInBounds_toArray, List.set_cons_zero, List.set_cons_succ]))
          rotate_left
          · exact ⟨hE.cell hS.1, hE.cell hS.2⟩
          clear hHeld HLE
          have c2 := hE.cell c2
          have c3 := hE.cell c3
          have HRN := Lib.hid (renamed_own (t.length : Int) l a cap mb t.length (listFn t) w9 (by omega) (renOk_list HRZ.out HFI.out hN6) (HC.out.ext (E8.trans hE)) (by omega) HMA.out)
          obtain ⟨P, hP⟩ : ∃ P, P = l.map (renStep (listFn t)) := ⟨_, rfl⟩
          have hren : ren (listFn t) ((t.length : Int), l) = ((t.length : Int), P) := by rw [hP]; rfl
          rw [hren] at HRN HSS
          clear hP hren
          (refine wpAnyE_one (i := 3) (o := ?_) ?_ (by kernel_rfl) (fun K hK => ?_); rotate_left; (focus ((simp only [List.getElem?_toArray, List.getElem?_cons_succ, List.getElem?_cons_zero]; exact rfl))); go_simp; refine HRN.out.mono ?_; rintro e w10 ⟨o, ov, ho, rfl, hO, hob, hE2⟩; dsimp only at hO; have HO := Lib.hid hO; have HOB := Lib.hid hob; obtain ⟨ua, uc, rfl, _, _⟩ := hO.reads; clear hO hob; go_wp2_with fail; refine hK.out _ _ ?_ (fun hHeld => ?_); rotate_left; clear hK K; (try simp only [Act.put, List.setIfInBounds_toArray, List.set_cons_zero, List.set_cons_succ]))
          rotate_left
          · exact ⟨hE2.cell (hE.cell hS.1), hE2.cell (hE.cell hS.2)⟩
          clear hHeld HRN
          have z8 : w.heap.size + 1 < W8.heap.size := cell_lt hc2
          have z10 := hE.size
          have d2 := (Below.frozen (p := ⟨w.heap.size + 1, 0, none⟩) (hE.trans hE2) (cell_lt hc2)).trans d2
          have d3 := (Below.frozen (p := ⟨w.heap.size + 1, 1, none⟩) (hE.trans hE2) (cell_lt hc3)).trans d3
          have c2 := hE2.cell c2
          have c3 := hE2.cell c3
          have E10 := (E8.trans hE).trans hE2
          clear hE hE2
          (refine wpAnyE_free (i := 4) (o := ?_) ?_ (by kernel_rfl) (by kernel_rfl) (fun K hK => ?_); rotate_left; (focus ((simp only [List.getElem?_toArray, List.getElem?_cons_succ, List.getElem?_cons_zero]; exact rfl))); go_simp; refine hK.out _ _ ?_; clear hK K; (try simp only [Act.put, List.setIfInBounds_toArray, List.set_cons_zero, List.set_cons_succ]))
          (refine ePu 5 ?_)
          refine wpAnyE_done (by kernel_rfl) ?_ _
          have EF : Ext w ((w10.setCell ⟨w.heap.size + 1, 0, none⟩ (.int .i64 (t.length : Int))).setCell ⟨w.heap.size + 1, 1, none⟩ (.slice ua P.length uc)) := (E10.set (by omega) _).set (by omega) _
          have HSV : Hid (SeqV ((w10.setCell ⟨w.heap.size + 1, 0, none⟩ (.int .i64 (t.length : Int))).setCell ⟨w.heap.size + 1, 1, none⟩ (.slice ua P.length uc)) (.agg #[.int .i64 (t.length : Int), .slice ua P.length uc]) s) := by
            have cc : Chg (fun b => b ≤ o) w10 ((w10.setCell ⟨w.heap.size + 1, 0, none⟩ (.int .i64 (t.length : Int))).setCell ⟨w.heap.size + 1, 1, none⟩ (.slice ua P.length uc)) :=
              (Chg.setCell (B := fun b => b ≤ o) ⟨w.heap.size + 1, 0, none⟩ _ (by show w.heap.size + 1 ≤ o; omega)).trans (Chg.setCell (B := fun b => b ≤ o) ⟨w.heap.size + 1, 1, none⟩ _ (by show w.heap.size + 1 ≤ o; omega))
            have h1 := (HO.out.chg cc (fun b' hb' e => by have := HOB.out b' hb'; omega)).reads
            show SeqV _ _ _
            rw [HSS.out]
            exact ⟨_, rfl, h1⟩
          go_wp2
          exact bodyPost_ret (v := .tuple #[.agg #[.int .i64 (t.length : Int), .slice ua P.length uc], .int .i64 0]) (by rw [results_cell_tmp1 rfl]; go_simp) rfl ⟨_, rfl, HSV.out, EF⟩
    · have hnn : ((t.length : Int) != n) = true := by simpa using hn
      have hre : er = 8 := by rw [her]; unfold renE; rw [if_pos hn]
      have hs := HS.out
      rw [hre, if_neg (by decide)] at hs
      subst hre
      subst hs
      have EF : Ext w ((w1.setCell ⟨w.heap.size + 1, 0, none⟩ (.int .i64 0)).setCell ⟨w.heap.size + 1, 1, none⟩ (.slice none 0 0)) := (E2.set (by omega) _).set (by omega) _
      clear hn HS her
      go_wp2
      exact bodyPost_ret (v := .tuple #[.agg #[.int .i64 0, .slice none 0 0], .int .i64 8]) (by rw [results_cell_tmp1 rfl]; go_simp) rfl ⟨_, rfl, seqV_zero _, EF⟩
  · have hn : (ck != 0) = true := by simp [h0]
    have hee := HER.out
    rw [if_pos h0] at hee
    subst hee
    have hs := HS.out
    rw [if_neg h0] at hs
    subst hs
    have EF : Ext w ((w1.setCell ⟨w.heap.size + 1, 0, none⟩ (.int .i64 0)).setCell ⟨w.heap.size + 1, 1, none⟩ (.slice none 0 0)) := (E2.set (by omega) _).set (by omega) _
    clear h0 HS HER HCK
    go_wp2
    exact bodyPost_ret (v := .tuple #[.agg #[.int .i64 0, .slice none 0 0], .int .i64 er]) (by rw [results_cell_tmp1 rfl]; go_simp) rfl ⟨_, rfl, seqV_zero _, EF⟩
end Go.Proofs.YtbpjbhbbkonjlaaGreatDoor
namespace Go.Proofs.YtbpjbhbbkonjlaaGreatDoor
open Go.RowKit
end Go.Proofs.YtbpjbhbbkonjlaaGreatDoor
