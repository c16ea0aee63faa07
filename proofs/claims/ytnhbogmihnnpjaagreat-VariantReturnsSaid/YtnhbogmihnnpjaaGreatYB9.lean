/- Steps of the proof: QAloneP, QAlone, QOwnQ, QPrsR, QOf, QParsed, QAlike, QParts, QAwakeS, QAwake. No conditions. -/
import Derived.Maps.OwnSet
import Derived.Test.YtnhbogmihnnpjaaGreatYB1
import Derived.Test.YtnhbogmihnnpjaaGreatYB2
import Derived.Test.YtnhbogmihnnpjaaGreatYB3
import Derived.Test.YtnhbogmihnnpjaaGreatYB4
import Derived.Test.YtnhbogmihnnpjaaGreatYB5
import Derived.Test.YtnhbogmihnnpjaaGreatYB6
import Derived.Test.YtnhbogmihnnpjaaGreatYB7
import Derived.Test.YtnhbogmihnnpjaaGreatYB8
/- The letters of a part of a sequence, in plain terms. -/
namespace Go.Proofs.YtnhbogmihnnpjaaGreat
open Go.RowKit

theorem partFn_succ (l : List Stp) (k : Nat) : partFn l ((k + 1 : Nat) : Int) = partFn l (k : Int) + (if movedIn (k : Int) l then 1 else 0) := by
  unfold partFn
  rw [ints_succ, List.filter_append, List.length_append, List.filter_cons]
  cases movedIn (k : Int) l <;> simp
theorem partFn_nonneg (l : List Stp) (a : Int) : 0 ≤ partFn l a := by unfold partFn; omega
theorem partFn_le (l : List Stp) (k : Nat) : partFn l (k : Int) ≤ (k : Int) := by
  unfold partFn
  have h := List.length_filter_le (fun b => movedIn b l) (ints (k : Int))
  rw [ints_length] at h
  omega
theorem partFn_mono (l : List Stp) (k d : Nat) : partFn l (k : Int) ≤ partFn l ((k + d : Nat) : Int) := by
  induction d with
  | zero => exact Int.le_refl _
  | succ d ih =>
    rw [show k + (d + 1) = k + d + 1 from rfl, partFn_succ]
    split <;> omega
theorem partFn_lt (l : List Stp) {a b : Int} (h0 : 0 ≤ a) (h : a < b) (hm : movedIn a l = true) : partFn l a < partFn l b := by
  obtain ⟨k, rfl⟩ := Int.eq_ofNat_of_zero_le h0
  obtain ⟨d, hd⟩ : ∃ d : Nat, b = ((k + 1 + d : Nat) : Int) := ⟨(b - (k + 1)).toNat, by omega⟩
  have h1 := partFn_succ l k
  rw [hm, if_pos rfl] at h1
  have h2 := partFn_mono l (k + 1) d
  rw [hd]
  omega
theorem partFn_inj (l : List Stp) {a b : Int} (ha : 0 ≤ a) (hb : 0 ≤ b) (hma : movedIn a l = true) (hmb : movedIn b l = true) (h : partFn l a = partFn l b) : a = b := by
  by_cases h1 : a < b
  · have := partFn_lt l ha h1 hma; omega
  · by_cases h2 : b < a
    · have := partFn_lt l hb h2 hmb; omega
    · omega
/-- what the map of variant.alone says before actuator k -/
def aloneFn (l : List Stp) (k : Nat) (a : Int) : Int := if (0 ≤ a ∧ a < (k : Int)) ∧ movedIn a l = true then partFn l a else 0
theorem aloneFn_zero (l : List Stp) (a : Int) : aloneFn l 0 a = 0 := by unfold aloneFn; rw [if_neg (by omega)]
theorem aloneFn_succ (l : List Stp) (k : Nat) (a : Int) : aloneFn l (k + 1) a = if a = (k : Int) ∧ movedIn (k : Int) l = true then partFn l (k : Int) else aloneFn l k a := by
  unfold aloneFn
  by_cases h : a = (k : Int)
  · subst h
    by_cases hm : movedIn (k : Int) l = true
    · rw [if_pos ⟨by omega, hm⟩, if_pos ⟨rfl, hm⟩]
    · rw [if_neg (fun h => hm h.2), if_neg (fun h => hm h.2), if_neg (fun h => hm h.2)]
  · rw [if_neg (c := a = (k : Int) ∧ _) (fun h' => h h'.1)]
    by_cases hm : (0 ≤ a ∧ a < (k : Int)) ∧ movedIn a l = true
    · rw [if_pos hm, if_pos ⟨by omega, hm.2⟩]
    · rw [if_neg hm, if_neg (fun h' => hm ⟨by omega, h'.2⟩)]
theorem movedIn_mem {l : List Stp} {x : Stp} {y : Stk} (hx : x ∈ l) (hy : y ∈ x.1) : movedIn y.1 l = true := by
  unfold movedIn movesIn
  rw [List.any_eq_true]
  exact ⟨x, hx, by rw [List.any_eq_true]; exact ⟨y, hy, by simp⟩⟩
theorem getD_mem {α : Type} {l : List α} {k : Nat} (d : α) (h : k < l.length) : l.getD k d ∈ l := by
  rw [List.getD_eq_getElem?_getD, List.getElem?_eq_getElem h]; exact List.getElem_mem h
theorem mem_getD {α : Type} {l : List α} {x : α} (d : α) (h : x ∈ l) : ∃ k, k < l.length ∧ l.getD k d = x := by
  obtain ⟨k, hk, e⟩ := List.mem_iff_getElem.1 h
  exact ⟨k, hk, by rw [List.getD_eq_getElem?_getD, List.getElem?_eq_getElem hk]; exact e⟩
theorem Fine.stroke {n : Int} {l : List Stp} (h : Fine n l) {x : Stp} {y : Stk} (hx : x ∈ l) (hy : y ∈ x.1) : 0 ≤ y.1 ∧ y.1 < n := by
  obtain ⟨k, hk, rfl⟩ := mem_getD stp0 hx
  obtain ⟨j, hj, rfl⟩ := mem_getD stk0 hy
  exact (h k hk).2 j hj
theorem renOk_in {f : Int → Int} {n : Int} {l : List Stp} (h : Fine n l) (hi : ∀ a b, 0 ≤ a ∧ a < n → 0 ≤ b ∧ b < n → movedIn a l = true → movedIn b l = true → f a = f b → a = b) (hr : ∀ a, 0 ≤ a ∧ a < n → movedIn a l = true → 0 ≤ f a ∧ f a < 6) : RenOk f l := fun k hk => by
  have h1 := (h k hk).1
  have h3 := ckStep_strokes h1
  have hx := getD_mem stp0 hk
  refine ⟨h3.2.2.1, by omega, ckStep_known h1, ?_, fun y hy => hr _ (h.stroke hx hy) (movedIn_mem hx hy)⟩
  unfold Diff
  rw [List.pairwise_map]
  refine List.Pairwise.imp_of_mem (fun {a b} ha hb hab e => hab (hi _ _ (h.stroke hx ha) (h.stroke hx hb) (movedIn_mem hx ha) (movedIn_mem hx hb) e)) (ckStrokes_diff h1)
theorem renOk_alone {N : Nat} {l : List Stp} (h : Fine (N : Int) l) (hN : N ≤ 6) : RenOk (aloneFn l N) l := by
  refine renOk_in h (fun a b ha hb hma hmb e => ?_) (fun a ha hma => ?_)
  · unfold aloneFn at e
    rw [if_pos ⟨ha, hma⟩, if_pos ⟨hb, hmb⟩] at e
    exact partFn_inj l ha.1 hb.1 hma hmb e
  · unfold aloneFn
    rw [if_pos ⟨ha, hma⟩]
    obtain ⟨k, rfl⟩ := Int.eq_ofNat_of_zero_le ha.1
    have := partFn_le l k
    have := partFn_nonneg l (k : Int)
    omega
theorem alone_map {N : Nat} {l : List Stp} (h : Fine (N : Int) l) : l.map (renStep (aloneFn l N)) = l.map (renStep (partFn l)) := by
  refine List.map_congr_left (fun x hx => ?_)
  unfold renStep
  congr 2
  refine List.map_congr_left (fun y hy => ?_)
  unfold aloneFn
  rw [if_pos ⟨h.stroke hx hy, movedIn_mem hx hy⟩]
theorem movesOf_pos (l : List Stp) (a : Int) : decide (0 < (movesOf l a).length) = movedIn a l := by
  unfold movesOf
  rw [Bool.eq_iff_iff, decide_eq_true_eq, List.length_pos_iff]
  constructor
  · intro h
    obtain ⟨k, hk⟩ := List.exists_mem_of_ne_nil _ h
    rw [List.mem_filter] at hk
    have h1 := ints_mem.1 hk.1
    unfold movedIn
    rw [List.any_eq_true]
    exact ⟨_, getD_mem stp0 (k := k.toNat) (by omega), hk.2⟩
  · intro h
    unfold movedIn at h
    rw [List.any_eq_true] at h
    obtain ⟨x, hx, hm⟩ := h
    obtain ⟨k, hk, rfl⟩ := mem_getD stp0 hx
    refine List.ne_nil_of_mem (a := (k : Int)) ?_
    rw [List.mem_filter]
    exact ⟨ints_mem.2 (by omega), hm⟩
end Go.Proofs.YtnhbogmihnnpjaaGreat
/- variant.alone. -/
namespace Go.Proofs.YtnhbogmihnnpjaaGreat
open Go.RowKit
open Go.Maps

/-- the map of variant.alone before actuator k -/
def AlMap (w : World) (b : Nat) (l : List Stp) (k : Nat) : Prop :=
  ∃ D : DataW Unit, w.ownsMap Tryz.prog 3 (plainElem Tryz.prog 3) b k D ∧ Tidy D ∧ (Maps.size D : Int) = partFn l (k : Int) ∧ (∀ a : Int, (k : Int) ≤ a → has D (.int .i64 a) = false) ∧ ∀ a : Int, D.atKey (.int .i64 a) (.lit (.int .i64 0)) = .lit (.int .i64 (aloneFn l k a))
theorem AlMap.new (w : World) (l : List Stp) : AlMap (w.alloc (.map #[] 0)) w.heap.size l 0 :=
  ⟨.map [], World.ownsMap_made w _ _ _, tidy_empty, rfl, fun _ _ => rfl, fun a => by rw [aloneFn_zero]; rfl⟩
theorem AlMap.same {A B : World} {b k : Nat} {l : List Stp} (h : AlMap A b l k) (e : B.heap[b]? = A.heap[b]?) : AlMap B b l k := by
  obtain ⟨D, ⟨es, ck, h1, h2, h3, h4⟩, h5⟩ := h
  exact ⟨D, ⟨es, ck, e.trans h1, h2, h3, h4⟩, h5⟩
theorem AlMap.lt {A : World} {b k : Nat} {l : List Stp} (h : AlMap A b l k) : b < A.heap.size := by
  obtain ⟨D, h1, _⟩ := h
  exact h1.lt
theorem AlMap.ext {A B : World} {b m : Nat} {l : List Stp} (h : AlMap A b l m) (k : Ext A B) : AlMap B b l m := h.same (Below.block k b h.lt)
theorem AlMap.skip {A : World} {b k : Nat} {l : List Stp} (h : AlMap A b l k) (hm : movedIn (k : Int) l = false) : AlMap A b l (k + 1) := by
  obtain ⟨D, h1, h2, h3, h4, h5⟩ := h
  refine ⟨D, h1.mono (Nat.le_succ k), h2, by rw [partFn_succ, hm, h3]; simp, fun a ha => h4 a (by omega), fun a => ?_⟩
  rw [aloneFn_succ, if_neg (fun h => by rw [hm] at h; cases h.2)]
  exact h5 a
theorem AlMap.map {A : World} {b k : Nat} {l : List Stp} (h : AlMap A b l k) : MapAt A b k (aloneFn l k) := by
  obtain ⟨D, h1, h2, _, _, h5⟩ := h
  exact ⟨D, h1, h2.isMap, h5⟩

set_option maxHeartbeats 8000000 in
set_option maxRecDepth 100000 in
theorem alone_any (N : Nat) (l : List Stp) (a : Option Addr) (cap : Nat) (w : World) (hN : N ≤ 6) (hl : l.length ≤ 64) (hf : Fine (N : Int) l) (hc : CellsP w a l) :
    Calls Tryz.prog 60 #[.int .i64 (N : Int), .slice a l.length cap] w (OwnPost (partOf (N : Int) l) w) := by
  have HC := Lib.hid hc
  have HF := Lib.hid hf
  obtain ⟨s, hs⟩ : ∃ s, s = partOf (N : Int) l := ⟨_, rfl⟩
  rw [← hs]
  have HS := Lib.hid hs
  have hmm : ∀ (t : TypeId) (w : World), (Instr.makeMap t none).run Tryz.prog w = .ok (.map (some w.heap.size)) (w.alloc (.map #[] 0)) := fun _ _ => rfl
  clear hc hf hs
  go_enter Tryz.func60, Tryz.ntmps60
  go_wp2
  have E1 : Ext w ((w.alloc (.cells #[.int .i64 0, .slice none 0 0] 24)).alloc (.cells #[.int .i64 0, .slice a l.length cap] 24)) := (by repeat (first | with_reducible exact Ext.refl _ | with_reducible assumption | with_reducible apply Ext.drewN | with_reducible apply Ext.drew | with_reducible apply Ext.alloc | ((with_reducible refine Ext.set ?_ ?_ _); rotate_left; first | omega | (simp; omega)) | (with_reducible refine Ext.trans ?_ (by with_reducible assumption))))
  have c0 : ((w.alloc (.cells #[.int .i64 0, .slice none 0 0] 24)).alloc (.cells #[.int .i64 0, .slice a l.length cap] 24)).cell? ⟨w.heap.size + 1, 0, none⟩ = some (.int .i64 0) := by go_simp
  have c1 : ((w.alloc (.cells #[.int .i64 0, .slice none 0 0] 24)).alloc (.cells #[.int .i64 0, .slice a l.length cap] 24)).cell? ⟨w.heap.size + 1, 1, none⟩ = some (.slice a l.length cap) := by go_simp
  have r0 : ((w.alloc (.cells #[.int .i64 0, .slice none 0 0] 24)).alloc (.cells #[.int .i64 0, .slice a l.length cap] 24)).cell? ⟨w.heap.size, 0, none⟩ = some (.int .i64 0) := by go_simp
  have r1 : ((w.alloc (.cells #[.int .i64 0, .slice none 0 0] 24)).alloc (.cells #[.int .i64 0, .slice a l.length cap] 24)).cell? ⟨w.heap.size, 1, none⟩ = some (.slice none 0 0) := by go_simp
  have fc : ((w.alloc (.cells #[.int .i64 0, .slice none 0 0] 24)).alloc (.cells #[.int .i64 0, .slice a l.length cap] 24)).frozen? ⟨w.heap.size + 1, 0, none⟩ = false := by go_simp
  have f0 : ((w.alloc (.cells #[.int .i64 0, .slice none 0 0] 24)).alloc (.cells #[.int .i64 0, .slice a l.length cap] 24)).frozen? ⟨w.heap.size, 0, none⟩ = false := by go_simp
  have f1 : ((w.alloc (.cells #[.int .i64 0, .slice none 0 0] 24)).alloc (.cells #[.int .i64 0, .slice a l.length cap] 24)).frozen? ⟨w.heap.size, 1, none⟩ = false := by go_simp
  obtain ⟨b, hb⟩ : ∃ b, b = w.heap.size + 1 + 1 := ⟨_, rfl⟩
  have hb1 : ((w.alloc (.cells #[.int .i64 0, .slice none 0 0] 24)).alloc (.cells #[.int .i64 0, .slice a l.length cap] 24)).heap.size = b := by rw [hb]; simp
  have M0 : Hid (AlMap (((w.alloc (.cells #[.int .i64 0, .slice none 0 0] 24)).alloc (.cells #[.int .i64 0, .slice a l.length cap] 24)).alloc (.map #[] 0)) b l 0) := by rw [← hb1]; exact AlMap.new _ l
  rw [← hb]
  have hzz : b < (((w.alloc (.cells #[.int .i64 0, .slice none 0 0] 24)).alloc (.cells #[.int .i64 0, .slice a l.length cap] 24)).alloc (.map #[] 0)).heap.size := by show _ < (Array.push _ _).size; rw [Array.size_push, hb1]; omega
  have EM : Ext ((w.alloc (.cells #[.int .i64 0, .slice none 0 0] 24)).alloc (.cells #[.int .i64 0, .slice a l.length cap] 24)) (((w.alloc (.cells #[.int .i64 0, .slice none 0 0] 24)).alloc (.cells #[.int .i64 0, .slice a l.length cap] 24)).alloc (.map #[] 0)) := (by repeat (first | with_reducible exact Ext.refl _ | with_reducible assumption | with_reducible apply Ext.drewN | with_reducible apply Ext.drew | with_reducible apply Ext.alloc | ((with_reducible refine Ext.set ?_ ?_ _); rotate_left; first | omega | (simp; omega)) | (with_reducible refine Ext.trans ?_ (by with_reducible assumption))))
  generalize ((w.alloc (.cells #[.int .i64 0, .slice none 0 0] 24)).alloc (.cells #[.int .i64 0, .slice a l.length cap] 24)).alloc (.map #[] 0) = W2 at M0 hzz EM ⊢
  generalize ((w.alloc (.cells #[.int .i64 0, .slice none 0 0] 24)).alloc (.cells #[.int .i64 0, .slice a l.length cap] 24)) = W1 at E1 c0 c1 r0 r1 fc f0 f1 hb1 EM
  have HB1 := Lib.hid hb1
  have HB := Lib.hid hb
  clear hb1 hb
  go_loopw [12] (fun i wr => ∃ k : Nat, k ≤ N ∧ i = .int .i64 k ∧ Hid (AlMap wr b l k) ∧ Ext W1 wr ∧ b < wr.heap.size) (fun i _ => N - (intOf i).toNat)
  case atStart => exact ⟨0, Nat.zero_le _, rfl, M0, EM, hzz⟩
  case round =>
    obtain ⟨k, hk, rfl, M, he, hbz⟩ := hrel
    clear M0 EM hzz
    have d0 := he.cell c0
    have d1 := he.cell c1
    have E2 := E1.trans he
    have zd := cell_lt d0
    dsimp only at zd
    by_cases hlt : k < N
    · have HMV := Lib.hid (moves_any (.int .i64 0) l (k : Int) a cap)
      have hpos := movesOf_pos l (k : Int)
      go_wp2_with fail
      refine (HMV.out _ (by omega) (HC.out.ext E2)).mono ?_
      rintro e w5 ⟨v, rfl, hO, _, hE⟩
      obtain ⟨va, vc, rfl, _, _⟩ := hO.reads
      generalize (movesOf l (k : Int)).length = ml at hpos ⊢
      clear hO HMV
      have M5 := Lib.hid (M.out.ext hE)
      have F5 := he.trans hE
      have hb5 := hE.size_lt hbz
      clear M
      cases hm : movedIn (k : Int) l
      · have hml : ¬ ((0 : Int) < (ml : Int)) := by rw [hm] at hpos; simp at hpos; omega
        have MN := Lib.hid (M5.out.skip hm)
        clear hpos hm
        go_wp2
        refine ⟨⟨k + 1, by omega, by go_num, MN, F5, hb5⟩, by simp [intOf]; omega⟩
      · have hml : (0 : Int) < (ml : Int) := by rw [hm] at hpos; simp at hpos; omega
        obtain ⟨D, hown, ht, hs, hh, hat⟩ := M5.out
        have HOWN := Lib.hid hown
        have HT := Lib.hid ht
        have HSZ := Lib.hid hs
        have HH := Lib.hid hh
        have HAT := Lib.hid hat
        have HMO := Lib.hid hm
        have HPF := Lib.hid (partFn_succ l k)
        have HPL := Lib.hid (partFn_le l k)
        clear hpos hm hown ht hs hh hat M5
        generalize hsz : Maps.size D = sz at HSZ
        have HSD := Lib.hid hsz
        clear hsz
        have hsk : 0 ≤ (sz : Int) ∧ (sz : Int) < 1000 := by have h1 := HPL.out; have h2 := HSZ.out; omega
        go_wp2_with (first | (at_mapUpdate; refine wpList_mapUpdate_own _ rfl _ _ _ 107 rfl 3 3 (int_keyed Tryz.underlying3) Tryz.underlying107 _ b k D rfl HOWN.out (by unfold maxLen; omega) _ _ (.int .i64 k) rfl rfl (keyInt _ (by omega)) (.lit (.int .i64 (sz : Int))) [] (plainInt _ hsk) ?_; intro w6 hown6 hgr6) | (at_len; refine wpList_len_own _ rfl _ 107 rfl 3 3 Tryz.underlying107 _ b k D rfl HOWN.out ?_; rw [HSD.out]) | fail)
        have MN : Hid (AlMap w6 b l (k + 1)) := by
          have hkk := HH.out (k : Int) (Int.le_refl _)
          refine ⟨_, hown6, HT.out.put (isKeyInt _) _, ?_, fun z hz => ?_, fun z => ?_⟩
          · rw [size_put HT.out, hkk, HPF.out, HMO.out, if_pos rfl, ← HSZ.out, HSD.out]
            simp
          · rw [has_put_other (by intro h; injection h with _ h; omega)]
            exact HH.out z (by omega)
          · rw [aloneFn_succ]
            by_cases hz : z = (k : Int)
            · subst hz
              rw [if_pos ⟨rfl, HMO.out⟩, ← HSZ.out]
              exact atKey_put_same HT.out.isMap (isKeyInt _) _ _
            · rw [if_neg (fun h => hz h.1), atKey_put_other (by intro h; injection h with _ h; exact hz h)]
              exact HAT.out z
        have he6 : Ext W1 w6 := F5.trans' (grown_below hgr6 (Nat.le_refl b) (Nat.le_of_lt hb5)) (Nat.le_of_eq HB1.out)
        have hb6 : b < w6.heap.size := Nat.lt_of_lt_of_le hb5 hgr6.size
        clear hown6 hgr6 HOWN HT HSZ HH HAT HMO HPF HPL HSD
        go_wp2
        refine ⟨⟨k + 1, by omega, by go_num, MN, he6, hb6⟩, by simp [intOf]; omega⟩
    · have hke : k = N := by omega
      subst hke
      obtain ⟨D, hown, ht, hs, hh, hat⟩ := M.out
      have HOWN := Lib.hid hown
      generalize hsz : Maps.size D = sz at hs
      have HSD := Lib.hid hsz
      have HSZ := Lib.hid hs
      have HMA := Lib.hid M.out.map
      clear hown ht hs hh hat hsz M
      have fc := (Below.frozen (p := ⟨w.heap.size + 1, 0, none⟩) he (cell_lt c0)).trans fc
      have f0 := (Below.frozen (p := ⟨w.heap.size, 0, none⟩) he (cell_lt r0)).trans f0
      have f1 := (Below.frozen (p := ⟨w.heap.size, 1, none⟩) he (cell_lt r1)).trans f1
      have r0 := he.cell r0
      have r1 := he.cell r1
      have zb : w.heap.size + 1 < b := by have := HB.out; omega
      go_wp2_with (first | (at_len; refine wpList_len_own _ rfl _ 107 rfl 3 3 Tryz.underlying107 _ b k D rfl HOWN.out ?_; rw [HSD.out]) | fail)
      have OW : Own1 (w.heap.size + 1) wr (wr.setCell ⟨w.heap.size + 1, 0, none⟩ (.int .i64 (sz : Int))) := Own1.setCell _ _
      have E5 : Ext w (wr.setCell ⟨w.heap.size + 1, 0, none⟩ (.int .i64 (sz : Int))) := E2.set (by omega) _
      have f0 := (OW.frozen (p := ⟨w.heap.size, 0, none⟩) (by show w.heap.size ≠ w.heap.size + 1; omega) r0).trans f0
      have f1 := (OW.frozen (p := ⟨w.heap.size, 1, none⟩) (by show w.heap.size ≠ w.heap.size + 1; omega) r1).trans f1
      have r0 := OW.cell (p := ⟨w.heap.size, 0, none⟩) (by show w.heap.size ≠ w.heap.size + 1; omega) r0
      have r1 := OW.cell (p := ⟨w.heap.size, 1, none⟩) (by show w.heap.size ≠ w.heap.size + 1; omega) r1
      have HMA5 := Lib.hid (HMA.out.same (OW.2 b hbz (by omega)))
      clear HMA OW HSD HOWN
      generalize wr.setCell ⟨w.heap.size + 1, 0, none⟩ (.int .i64 (sz : Int)) = w5 at E5 f0 f1 r0 r1 HMA5 ⊢
      have HRN := Lib.hid (renamed_own (sz : Int) l a cap b k (aloneFn l k) w5 (by omega) (renOk_alone HF.out hN) (HC.out.ext E5) (by omega) HMA5.out)
      obtain ⟨P, hP⟩ : ∃ P, P = l.map (renStep (aloneFn l k)) := ⟨_, rfl⟩
      have hren : ren (aloneFn l k) ((sz : Int), l) = ((sz : Int), P) := by rw [hP]; rfl
      rw [hren] at HRN
      have hsP : s = ((sz : Int), P) := by rw [HS.out, hP, alone_map HF.out, HSZ.out]; rfl
      have HSP := Lib.hid hsP
      clear hP hren hsP
      refine HRN.out.mono ?_
      rintro e w6 ⟨o, ov, ho, rfl, hO, hob, hE⟩
      dsimp only at hO ⊢
      obtain ⟨ua, uc, rfl, _, _⟩ := hO.reads
      have HO := Lib.hid hO
      have HOB := Lib.hid hob
      have z5 : w.heap.size < w5.heap.size := cell_lt r0
      have f0 := (Below.frozen (p := ⟨w.heap.size, 0, none⟩) hE (cell_lt r0)).trans f0
      have f1 := (Below.frozen (p := ⟨w.heap.size, 1, none⟩) hE (cell_lt r1)).trans f1
      have r0 := hE.cell r0
      have r1 := hE.cell r1
      clear hO hob HRN
      go_wp2
      have EF : Ext w ((w6.setCell ⟨w.heap.size, 0, none⟩ (.int .i64 (sz : Int))).setCell ⟨w.heap.size, 1, none⟩ (.slice ua P.length uc)) := ((E5.trans hE).set (by omega) _).set (by omega) _
      have cc : Chg (fun b => b ≤ o) w6 ((w6.setCell ⟨w.heap.size, 0, none⟩ (.int .i64 (sz : Int))).setCell ⟨w.heap.size, 1, none⟩ (.slice ua P.length uc)) :=
        (Chg.setCell (B := fun b => b ≤ o) ⟨w.heap.size, 0, none⟩ _ (by show w.heap.size ≤ o; omega)).trans (Chg.setCell (B := fun b => b ≤ o) ⟨w.heap.size, 1, none⟩ _ (by show w.heap.size ≤ o; omega))
      refine bodyPost_ret (v := .agg #[.int .i64 (sz : Int), .slice ua P.length uc]) (by rw [results_cell1 rfl]; go_simp) rfl ?_
      rw [HSP.out]
      exact ⟨o, _, by omega, rfl, HO.out.chg cc (fun b' hb' e => by have := HOB.out b' hb'; omega), HOB.out, EF⟩
end Go.Proofs.YtnhbogmihnnpjaaGreat
/- Sequences in slices of one's own. -/
namespace Go.Proofs.YtnhbogmihnnpjaaGreat
open Go.RowKit

/-- the value of steps u owns the steps l, outside of the blocks X -/
def QU (X : Nat → Prop) (w : World) (u : Value) (l : List Stp) : Prop := OwnsP X w u l ∧ ∀ b, u.ownBlock = some b → ¬ X b
theorem QU.chg {X : Nat → Prop} {A B : World} {u : Value} {l : List Stp} (h : QU X A u l) (c : Chg X A B) : QU X B u l := ⟨h.1.chg c h.2, h.2⟩
theorem QU.mono {X Y : Nat → Prop} {A : World} {u : Value} {l : List Stp} (h : QU X A u l) (k : ∀ b, Y b → X b) : QU Y A u l := ⟨h.1.mono k, fun b hb hy => h.2 b hb (k b hy)⟩
theorem OwnsP.lt {X : Nat → Prop} {A : World} {u : Value} {l : List Stp} (h : OwnsP X A u l) {b : Nat} (hb : u.ownBlock = some b) : b < A.heap.size := by
  obtain ⟨ps, h1, h2, h3⟩ := h
  exact rowLt h2 hb
theorem QU.up {X : Nat → Prop} {A : World} {u : Value} {l : List Stp} (h : QU X A u l) : QU (fun b => X b ∨ A.heap.size ≤ b) A u l :=
  ⟨h.1.up, fun b hb hx => by
    rcases hx with hx | hx
    · exact h.2 b hb hx
    · have := h.1.lt hb; omega⟩
def pairQ (ps : List (Value × Sq)) : List (Value × Value) := ps.map fun p => (.int .i64 p.2.1, p.1)
/-- the slice value v owns the sequences ys -/
def OwnsQ (w : World) (v : Value) (ys : List Sq) : Prop :=
  ∃ ps : List (Value × Sq), ps.map (·.2) = ys ∧ w.ownsRow 0 24 2 v ys.length (flat2 (pairQ ps)) ∧ ∀ p ∈ ps, QU (fun b => v.ownBlock = some b) w p.1 p.2.2
theorem OwnsQ.nil (w : World) : OwnsQ w (.slice none 0 0) [] := ⟨[], rfl, World.ownsRow_nil w 0 _ _, fun p hp => by cases hp⟩
theorem OwnsQ.ext {A B : World} {v : Value} {ys : List Sq} (h : OwnsQ A v ys) (k : Ext A B) : OwnsQ B v ys := by
  obtain ⟨ps, h1, h2, h3⟩ := h
  exact ⟨ps, h1, rowExt h2 k, fun p hp => (h3 p hp).chg (Chg.ext k)⟩
theorem OwnsQ.reads {A : World} {v : Value} {ys : List Sq} (h : OwnsQ A v ys) : ∃ a cap, v = .slice a ys.length cap ∧ CellsQ A a ys ∧ ys.length ≤ maxLen := by
  obtain ⟨ps, h1, h2, h3⟩ := h
  obtain ⟨a, cap, hv, hm, hr⟩ := rowReads h2
  refine ⟨a, cap, hv, fun i hi => ?_, hm⟩
  have hl : ps.length = ys.length := by rw [← h1]; simp
  have hi' : i < (pairQ ps).length := by simp [pairQ]; omega
  have hip : i < ps.length := by omega
  have hg := flat2_get (pairQ ps) i hi'
  have e1 : (pairQ ps)[i].1 = .int .i64 ps[i].2.1 := by simp [pairQ]
  have e2 : (pairQ ps)[i].2 = ps[i].1 := by simp [pairQ]
  rw [e1, e2] at hg
  have ey : ys.getD i sq0 = ps[i].2 := by rw [← h1]; simp [List.getD, hip]
  obtain ⟨b, hb, _, g1, _⟩ := hr _ _ hg.1
  obtain ⟨b', hb', _, g2, _⟩ := hr _ _ hg.2
  rw [hb] at hb'
  cases hb'
  refine ⟨b, 0, ps[i].1, hb, ?_, ?_, ?_⟩
  · rw [ey, Nat.zero_add]; exact g1
  · rw [Nat.zero_add]; exact g2
  · rw [ey]; exact (h3 _ (List.getElem_mem hip)).1.reads
/-- one sequence more -/
theorem OwnsQ.app {A B : World} {v v' : Value} {ys : List Sq} {u : Value} {y : Sq} (h : OwnsQ A v ys) (hu : QU (fun b => v.ownBlock = some b) A u y.2)
    (hown : B.ownsRow 0 24 2 v' (ys.length + 1) (flat2 (pairQ (Classical.choose h)) ++ [.int .i64 y.1, u])) (he : AppEnd A B v v') : OwnsQ B v' (ys ++ [y]) := by
  obtain ⟨h1, h2, h3⟩ := Classical.choose_spec h
  refine ⟨Classical.choose h ++ [(u, y)], by rw [List.map_append, h1]; rfl, ?_, ?_⟩
  · unfold pairQ at hown ⊢
    rw [List.length_append, List.map_append, flat2_append]
    exact hown
  · have c : Chg (fun b => v.ownBlock = some b ∨ A.heap.size ≤ b) A B := (Chg.app (B := fun b => v.ownBlock = some b) he (fun b hb => hb)).mono (fun b h => .inl h)
    have hy : ∀ b, v'.ownBlock = some b → v.ownBlock = some b ∨ A.heap.size ≤ b := he.chg.2.2
    intro p hp
    rcases List.mem_append.1 hp with hp | hp
    · exact ((h3 p hp).up.chg c).mono hy
    · rcases List.mem_singleton.1 hp with rfl
      exact (hu.up.chg c).mono hy
theorem OwnPost.qu {s : Sq} {w : World} {e : Ending} {w' : World} (h : OwnPost s w e w') : ∃ u, e = .returned (.agg #[.int .i64 s.1, u]) ∧ QU (fun b => b < w.heap.size) w' u s.2 ∧ Ext w w' := by
  obtain ⟨o, v, ho, he, h1, h2, h3⟩ := h
  exact ⟨v, he, ⟨h1.mono (fun b hb => by omega), fun b hb hx => by have := h2 b hb; omega⟩, h3⟩
/-- sequences and an error are returned -/
def SeqsPost (l : List Sq) (err : Int) (w : World) (e : Ending) (w' : World) : Prop := ∃ a cap, e = .returned (.tuple #[.slice a l.length cap, .int .i64 err]) ∧ CellsQ w' a l ∧ l.length ≤ maxLen ∧ Ext w w'
theorem CellsQ.nil (w : World) (a : Option Addr) : CellsQ w a [] := fun i hi => by simp at hi

/- The parts, in plain terms. -/
def partAt (s : Sq) (i : Nat) : Sq := partOf s.1 ((s.2.take (endOf s (pauses s) i)).drop ((pauses s).getD i 0).toNat)
def partsK (s : Sq) (k : Nat) : List Sq := (List.range k).map (partAt s)
theorem partsK_succ (s : Sq) (k : Nat) : partsK s (k + 1) = partsK s k ++ [partAt s k] := by unfold partsK; rw [List.range_succ, List.map_append]; rfl
theorem partsK_len (s : Sq) (k : Nat) : (partsK s k).length = k := by simp [partsK]
theorem pauses_asc (s : Sq) : (pauses s).Pairwise fun a b => a < b := (ints_asc _).filter _
theorem pauses_in {s : Sq} {k : Nat} (h : k < (pauses s).length) : 0 ≤ (pauses s).getD k 0 ∧ (pauses s).getD k 0 < (s.2.length : Int) := by
  have := getD_mem 0 h
  unfold pauses at this
  exact ints_mem.1 (List.mem_filter.1 this).1
theorem pauses_lt {s : Sq} {k : Nat} (h : k + 1 < (pauses s).length) : (pauses s).getD k 0 < (pauses s).getD (k + 1) 0 := by
  have := List.pairwise_iff_getElem.1 (pauses_asc s) k (k + 1) (by omega) h (by omega)
  rw [List.getD_eq_getElem?_getD, List.getD_eq_getElem?_getD, List.getElem?_eq_getElem h, List.getElem?_eq_getElem (show k < _ by omega)]
  exact this
theorem pauses_le (s : Sq) : (pauses s).length ≤ s.2.length := by
  unfold pauses
  refine Nat.le_trans (List.length_filter_le _ _) ?_
  rw [ints_length]; omega
theorem Fine.of_mem {n : Int} {l m : List Stp} (h : Fine n l) (k : ∀ x ∈ m, x ∈ l) : Fine n m := fun i hi => by
  have hm := k _ (getD_mem stp0 hi)
  obtain ⟨j, hj, e⟩ := mem_getD stp0 hm
  rw [← e]
  exact h j hj
theorem Fine.part {n : Int} {l : List Stp} (h : Fine n l) (e k : Nat) : Fine n ((l.take e).drop k) := h.of_mem fun _x hx => List.mem_of_mem_take (List.mem_of_mem_drop hx)
end Go.Proofs.YtnhbogmihnnpjaaGreat
/- The reference's Parse of steps (of right texts alone). -/
namespace Go.Proofs.YtnhbogmihnnpjaaGreat
open Go.RowKit

theorem cutGo_small (s b : ByteArray) (n i f : Nat) : ∀ x ∈ cutGo s b n i f, x.size ≤ s.size := by
  have hx : ∀ i j : Nat, (s.extract i j).size ≤ s.size := fun i j => by rw [ByteArray.size_extract]; omega
  induction n generalizing i f with
  | zero => intro x h; simp only [cutGo, List.mem_singleton] at h; subst h; exact hx _ _
  | succ n ih =>
    intro x h
    unfold cutGo at h
    split at h
    · split at h
      · split at h
        · rcases List.mem_cons.1 h with rfl | h
          · exact hx _ _
          · exact ih _ _ _ h
        · exact ih _ _ _ h
      · exact ih _ _ _ h
    · rw [List.mem_singleton] at h; subst h; exact hx _ _
def olB (w : World) : Nat → Prop := fun b => b < w.heap.size
def StpsPost (l : List Stp) (w : World) (e : Ending) (w' : World) : Prop := ∃ v, e = .returned (.tuple #[v, .int .i64 0, .int .i64 0]) ∧ QU (olB w) w' v l ∧ Ext w w'
theorem OwnsP.app2 {X : Nat → Prop} {A B : World} {v v' : Value} {ys : List Stp} {u : Value} {y : Stp} {ps : List (Value × Stp)} (h1 : ps.map (·.2) = ys) (h3 : ∀ p ∈ ps, SliceKX (fun b => X b ∨ v.ownBlock = some b) A p.1 p.2.1) (hu : SliceKX (fun b => X b ∨ v.ownBlock = some b) A u y.1) (_hX : ∀ b, X b → b < A.heap.size)
    (hown : B.ownsRow 0 87 2 v' (ys.length + 1) (flat2 (pairP ps) ++ [u, .int .i64 y.2])) (he : AppEnd A B v v') : OwnsP X B v' (ys ++ [y]) := by
  refine ⟨ps ++ [(u, y)], by rw [List.map_append, h1]; rfl, ?_, ?_⟩
  · unfold pairP at hown ⊢
    rw [List.length_append, List.map_append, flat2_append]
    exact hown
  · have c : Chg (fun b => X b ∨ v.ownBlock = some b) A B := by
      rcases he with ⟨_, _, hg⟩ | ⟨_, hx⟩
      · exact ⟨hg.size, fun k hk hn => hg.block k hk (fun e => hn (.inr e.symm))⟩
      · exact Chg.ext hx
    have hy : ∀ b, b < A.heap.size → (X b ∨ v'.ownBlock = some b) → (X b ∨ v.ownBlock = some b) := fun b hb hh => by
      rcases hh with hh | hh
      · exact .inl hh
      · rcases he with ⟨hv, _, _⟩ | ⟨hv, _⟩
        · exact .inr (hv ▸ hh)
        · rw [hv] at hh; cases hh; omega
    intro p hp
    rcases List.mem_append.1 hp with hp | hp
    · exact (h3 p hp).chgX c hy
    · rcases List.mem_singleton.1 hp with rfl
      exact hu.chgX c hy
set_option maxHeartbeats 8000000 in
set_option maxRecDepth 100000 in
theorem PrsR_any (s : ByteArray) (L : List Stp) (w : World) (h : parseL s.toList = some L) :
    Calls Tryz.prog 109 #[.string s] w (StpsPost L w) := by
  obtain ⟨h1, h64, hsz, h0⟩ : stepsL ((cutS s ⟨#[59, 32]⟩).map ByteArray.toList) = some L ∧ L.length ≤ 64 ∧ s.size ≤ 4096 ∧ s.size ≠ 0 := by
    unfold parseL at h
    have h2 := Option.filter_eq_some_iff.1 h
    rw [toL_len] at h2
    have h3 := of_decide_eq_true h2.2
    refine ⟨?_, h3⟩
    rw [cutS_map, show (⟨#[59, 32]⟩ : ByteArray).toList = [59, 32] by rw [ByteArray.toList_eq]]
    exact h2.1
  obtain ⟨ws, hws⟩ : ∃ ws, ws = cutS s ⟨#[59, 32]⟩ := ⟨_, rfl⟩
  have hsm : ∀ x ∈ ws, x.size ≤ 5000 := fun x hx => by
    rw [hws] at hx
    have := cutGo_small _ _ _ _ _ x hx
    omega
  rw [← hws] at h1
  unfold stepsL at h1
  have h2 := allSome_get h1
  have hlen : ws.length = L.length := by have := congrArg List.length h2; simpa using this
  have hln1 : ws.length ≤ L.length := by omega
  have hln2 : L.length ≤ ws.length := by omega
  have HS : Hid (∀ k, k < ws.length → stepL (ws.getD k str0).toList = some (L.getD k stp0) ∧ (ws.getD k str0).size ≤ 5000) := fun k hk => by
    have := congrArg (fun l => l[k]?) h2
    simp only [List.getElem?_map] at this
    rw [List.getElem?_eq_getElem hk, List.getElem?_eq_getElem (by omega)] at this
    have e1 : ws.getD k str0 = ws[k] := by rw [List.getD_eq_getElem?_getD, List.getElem?_eq_getElem hk]; rfl
    have e2 : L.getD k stp0 = L[k] := by rw [List.getD_eq_getElem?_getD, List.getElem?_eq_getElem (by omega)]; rfl
    rw [e1, e2]
    exact ⟨Option.some.inj this, hsm _ (List.getElem_mem hk)⟩
  have hs1 : ¬ ((4096 : Int) < (s.size : Int)) := by omega
  have hne : (s.toList == ([] : List UInt8)) = false := by
    rw [← toL_len] at h0
    cases hs : s.toList with
    | nil => rw [hs] at h0; simp at h0
    | cons c l => rfl
  clear h h1 h2 h0 hsm hlen
  obtain ⟨i0, hi, hi0, hi1, hi2⟩ := info_parts infoStp
  go_enter Tryz.func109, Tryz.ntmps109
  go_wp2_with fail
  refine (Cut_any s ⟨#[59, 32]⟩ _ (by omega) (by decide) (by decide)).mono ?_
  rintro e W ⟨ta, tc, rfl, hcs, hls, _, hE⟩
  rw [← hws] at hcs hls ⊢
  unfold maxLen at hls
  have HCS := Lib.hid hcs
  clear hcs hws
  go_wp2
  go_loopw [8, 7, 5] (fun i m v wr => ∃ k : Nat, k ≤ ws.length ∧ i = .int .i64 k ∧ (∃ q : Int, m = .int .i64 q) ∧ (∃ vv, v = vv ∧ Hid (OwnsP (olB w) wr vv (L.take k) ∧ ∀ b, vv.ownBlock = some b → W.heap.size ≤ b)) ∧ Ext W wr) (fun i _ _ _ => ws.length - (intOf i).toNat)
  case atStart => exact ⟨0, by omega, rfl, ⟨0, rfl⟩, ⟨_, rfl, OwnsP.nil _ _, fun b hb => by cases hb⟩, Ext.refl _⟩
  case round =>
    obtain ⟨k, hk, rfl, ⟨q, rfl⟩, ⟨vv, hvv, hO⟩, he⟩ := hrel
    obtain rfl := hvv.symm
    have O2 := Lib.hid hO.out.1
    have OB := Lib.hid hO.out.2
    have hEw : w.heap.size ≤ W.heap.size := hE.size
    have hnx : ∀ b, vv.ownBlock = some b → ¬ olB w b := fun b hb => by have := hO.out.2 b hb; unfold olB; omega
    clear hO
    by_cases hlt : k < ws.length
    · obtain ⟨hst, hsmk⟩ := HS.out k hlt
      obtain ⟨tb, tf, rfl, t1⟩ := HCS.out k hlt
      have HT0 := Lib.hid t1
      have t1 := he.cell t1
      have HLT : Hid (L.take (k + 1) = L.take k ++ [L.getD k stp0]) := by
        show _ = _
        rw [List.take_succ_eq_append_getElem (by omega), List.getD_eq_getElem?_getD, List.getElem?_eq_getElem (by omega)]; rfl
      have HTL : Hid ((L.take k).length = k) := by show _ = _; rw [List.length_take]; omega
      generalize L.take k = P at O2 HLT HTL
      have hk64 : ((k : Int) == 64) = false := by simp; omega
      generalize ws.getD k str0 = y at t1 hst hsmk HT0
      generalize L.getD k stp0 = x at hst HLT
      have HST := Lib.hid hst
      clear hst
      obtain ⟨st, wait⟩ := x
      go_wp2_with fail
      refine (Step_any y (st, wait) _ hsmk HST.out).mono ?_
      rintro e w3 ⟨u, rfl, hu, hub, hE3⟩
      dsimp only at hu
      obtain ⟨sa, sc, rfl, hcs, hls2, hsb⟩ := hu.reads
      have HCK := Lib.hid hcs
      have HSB : Hid (∀ b off, sa = some ⟨b, off, none⟩ → st ≠ [] → wr.heap.size ≤ b) := fun b off hb hne => hub b (hsb b off hb hne).2.1
      have HU := Lib.hid hu
      have HUB := Lib.hid hub
      have t1 := hE3.cell t1
      have z1 := cell_lt t1
      dsimp only at z1
      have E3 : Ext W w3 := he.trans hE3
      have O3 := Lib.hid (O2.out.chg (Chg.ext hE3) hnx)
      have OLT : Hid (∀ b, vv.ownBlock = some b → b < wr.heap.size) := fun b hb => O2.out.lt hb
      clear hu hub hcs hsb hE3 O2
      have E6 : Ext w3 ((w3.alloc (.cells #[.slice sa st.length sc, .int .i64 wait] 87)).alloc (.cells #[.slice sa st.length sc, .int .i64 wait] 87)) := (by repeat (first | with_reducible exact Ext.refl _ | with_reducible assumption | with_reducible apply Ext.drewN | with_reducible apply Ext.drew | with_reducible apply Ext.alloc | ((with_reducible refine Ext.set ?_ ?_ _); rotate_left; first | omega | (simp; omega)) | (with_reducible refine Ext.trans ?_ (by with_reducible assumption))))
      obtain ⟨ps, hp1, hp2, hp3⟩ := O3.out.chg (Chg.ext E6) hnx
      have HP3 := Lib.hid hp3
      have HP1 := Lib.hid hp1
      obtain ⟨F, hF⟩ : ∃ F, F = flat2 (pairP ps) := ⟨_, rfl⟩
      rw [← hF] at hp2
      have HF := Lib.hid hF
      have HP2 := Lib.hid hp2
      clear hp1 hp2 hp3 hF
      go_wp2_with (at_builtin; refine wpList_append1 _ rfl _ _ 22 rfl 87 i0 (.agg #[.slice none 0 0, .int .i64 0]) 2 32 Tryz.underlying22 hi hi0 hi1 hi2 rfl (by decide) vv P.length F rfl HP2.out ⟨w3.heap.size + 1, 0, none⟩ 1 1 (by decide) [.slice sa st.length sc, .int .i64 wait] rfl rfl ?hn ?c1 ?c2 ?c3 ?c4)
      case hn =>
        have hh := cells_one (w3.alloc (.cells #[.slice sa st.length sc, .int .i64 wait] 87)) [.slice sa st.length sc, .int .i64 wait] 87
        simpa using hh
      case c1 => intro u hu; simp at hu; rcases hu with rfl | rfl <;> rfl
      case c2 => rw [HTL.out]; unfold maxLen; omega
      case c3 => rw [HTL.out]; omega
      case c4 =>
        intro v' w7 hown7 hend7
        have hs6 := E6.size
        have hsW := E3.size
        have O7 : Hid (OwnsP (olB w) w7 v' (L.take (k + 1))) := by
          show OwnsP _ _ _ _
          rw [HLT.out]
          rw [HF.out] at hown7
          refine OwnsP.app2 (u := .slice sa st.length sc) (y := (st, wait)) HP1.out HP3.out ?_ (fun b hb => by unfold olB at hb; omega) hown7 hend7
          refine ⟨sa, sc, rfl, (HCK.out.ext E6), hls2, fun b off hb hne hx => ?_⟩
          rcases hx with hx | hx
          · unfold olB at hx
            have h1 := HSB.out b off hb hne
            have := he.size
            omega
          · have h1 := HSB.out b off hb hne
            have h2 := OLT.out b hx
            omega
        have B7 : Ext W w7 := (E3.trans E6).trans' (hend7.below (n := W.heap.size) (by omega) OB.out) (Nat.le_refl _)
        have OB7 : Hid (∀ b, v'.ownBlock = some b → W.heap.size ≤ b) := hend7.ge (n := W.heap.size) (by omega) OB.out
        have t7 := B7.cell (p := ⟨tb, tf + k, none⟩) (show W.cell? _ = _ from HT0.out)
        clear hown7 hend7 HP1 HP2 HP3 HF O3 E6 OB HSB HU HUB
        go_wp2
        refine ⟨⟨k + 1, by omega, by go_num, ⟨_, rfl⟩, ⟨v', rfl, O7.out, OB7.out⟩, B7⟩, by simp [intOf]; omega⟩
    · have hke : k = ws.length := by omega
      have HTE : Hid (L.take k = L) := by show _ = _; rw [hke, List.take_of_length_le (by omega)]
      go_wp2
      go_ret3
      exact ⟨_, rfl, ⟨by rw [← HTE.out]; exact O2.out, hnx⟩, hE.trans he⟩
end Go.Proofs.YtnhbogmihnnpjaaGreat
/- The reference's Of. -/
namespace Go.Proofs.YtnhbogmihnnpjaaGreat
open Go.RowKit

structure OfSt (o : Nat) (W0 wr : World) (m : Int) (u : Value) : Prop where
  be : Below o W0 wr
  c0 : wr.cell? ⟨o, 0, none⟩ = some (.int .i64 m)
  c1 : wr.cell? ⟨o, 1, none⟩ = some u
  f0 : wr.frozen? ⟨o, 0, none⟩ = false
def ofK (st : List Stk) (m : Int) : Int := st.foldl (fun m y => max m (y.1 + 1)) m
def Low (l : List Stp) : Prop := ∀ i, i < l.length → (l.getD i stp0).1.length ≤ 6 ∧ ∀ j, j < (l.getD i stp0).1.length → 0 ≤ ((l.getD i stp0).1.getD j stk0).1 ∧ ((l.getD i stp0).1.getD j stk0).1 < 6
theorem ofGo_take (l : List Stp) (m : Int) {k : Nat} (h : k < l.length) : ofGo (l.take (k + 1)) m = ofK (l.getD k stp0).1 (ofGo (l.take k) m) := by
  unfold ofGo
  rw [List.take_succ_eq_append_getElem h, List.foldl_append, List.getD_eq_getElem?_getD, List.getElem?_eq_getElem h]; rfl
theorem ofK_take (st : List Stk) (m : Int) {k : Nat} (h : k < st.length) : ofK (st.take (k + 1)) m = max (ofK (st.take k) m) ((st.getD k stk0).1 + 1) := by
  unfold ofK
  rw [List.take_succ_eq_append_getElem h, List.foldl_append, List.getD_eq_getElem?_getD, List.getElem?_eq_getElem h]; rfl

set_option maxHeartbeats 8000000 in
set_option maxRecDepth 100000 in
theorem Of_any (l : List Stp) (a : Option Addr) (cap : Nat) (w : World) (hl : l.length ≤ 64) (hc : CellsP w a l) (hlow : Low l) :
    Calls Tryz.prog 110 #[.slice a l.length cap] w fun r w' => r = .returned (.agg #[.int .i64 (ofGo l 0), .slice a l.length cap]) ∧ Ext w w' := by
  have HC := Lib.hid hc
  have HLO := Lib.hid hlow
  obtain ⟨G, hG⟩ : ∃ G, G = ofGo l 0 := ⟨_, rfl⟩
  rw [← hG]
  have HG := Lib.hid hG
  clear hc hlow hG
  go_enter Tryz.func110, Tryz.ntmps110
  go_wp2
  have E1 : Ext w ((w.alloc (.cells #[.int .i64 0, .slice none 0 0] 24)).alloc (.cells #[.int .i64 0, .slice a l.length cap] 24)) := (by repeat (first | with_reducible exact Ext.refl _ | with_reducible assumption | with_reducible apply Ext.drewN | with_reducible apply Ext.drew | with_reducible apply Ext.alloc | ((with_reducible refine Ext.set ?_ ?_ _); rotate_left; first | omega | (simp; omega)) | (with_reducible refine Ext.trans ?_ (by with_reducible assumption))))
  have c0 : ((w.alloc (.cells #[.int .i64 0, .slice none 0 0] 24)).alloc (.cells #[.int .i64 0, .slice a l.length cap] 24)).cell? ⟨w.heap.size, 0, none⟩ = some (.int .i64 0) := by go_simp
  have c1 : ((w.alloc (.cells #[.int .i64 0, .slice none 0 0] 24)).alloc (.cells #[.int .i64 0, .slice a l.length cap] 24)).cell? ⟨w.heap.size, 1, none⟩ = some (.slice none 0 0) := by go_simp
  have f0 : ((w.alloc (.cells #[.int .i64 0, .slice none 0 0] 24)).alloc (.cells #[.int .i64 0, .slice a l.length cap] 24)).frozen? ⟨w.heap.size, 0, none⟩ = false := by go_simp
  have f1 : ((w.alloc (.cells #[.int .i64 0, .slice none 0 0] 24)).alloc (.cells #[.int .i64 0, .slice a l.length cap] 24)).frozen? ⟨w.heap.size, 1, none⟩ = false := by go_simp
  have M0 : Hid (OfSt (w.heap.size + 1) ((w.alloc (.cells #[.int .i64 0, .slice none 0 0] 24)).alloc (.cells #[.int .i64 0, .slice a l.length cap] 24)) ((w.alloc (.cells #[.int .i64 0, .slice none 0 0] 24)).alloc (.cells #[.int .i64 0, .slice a l.length cap] 24)) (ofGo (l.take 0) 0) (.slice a l.length cap)) := ⟨Below.refl _ _, by show _ = some (Value.int .i64 0); go_simp, by go_simp, by go_simp⟩
  generalize ((w.alloc (.cells #[.int .i64 0, .slice none 0 0] 24)).alloc (.cells #[.int .i64 0, .slice a l.length cap] 24)) = W at E1 c0 c1 f0 f1 M0 ⊢
  go_loopw [4] (fun i wr => ∃ k : Nat, k ≤ l.length ∧ i = .int .i64 k ∧ Hid (OfSt (w.heap.size + 1) W wr (ofGo (l.take k) 0) (.slice a l.length cap))) (fun i _ => l.length - (intOf i).toNat)
  case atStart => exact ⟨0, by omega, rfl, M0⟩
  case round =>
    obtain ⟨k, hk, rfl, M⟩ := hrel
    clear M0
    obtain ⟨wo, hwo⟩ : ∃ wo : World, wo = wr := ⟨_, rfl⟩
    subst hwo
    by_cases hlt : k < l.length
    · obtain ⟨hl6, hlo⟩ := HLO.out k hlt
      obtain ⟨b, off, v, ha, p1, hv, p2⟩ := HC.out k hlt
      obtain ⟨sa, sc, rfl, hcs, hls⟩ := hv
      have HGS := Lib.hid (ofGo_take l 0 hlt)
      generalize l.getD k stp0 = x at hl6 hlo p1 p2 hcs hls HGS
      obtain ⟨st, wait⟩ := x
      dsimp only at hl6 hlo p1 p2 hcs hls HGS
      have HLX := Lib.hid hlo
      have HCS := Lib.hid hcs
      have P1 := Lib.hid p1
      have hbz := cell_lt p1
      dsimp only at hbz
      generalize ofGo (l.take k) 0 = M1 at M HGS
      have M2 : Hid (OfSt (w.heap.size + 1) W wo (ofK (st.take 0) M1) (.slice a l.length cap)) := M.out
      clear hlo hcs M p1 p2
      subst ha
      go_wp2
      go_loopw [5] (fun i wr => ∃ j : Nat, j ≤ st.length ∧ i = .int .i64 j ∧ Hid (OfSt (w.heap.size + 1) W wr (ofK (st.take j) M1) (.slice (some ⟨b, off, none⟩) l.length cap))) (fun i _ => st.length - (intOf i).toNat)
      case atStart => exact ⟨0, by omega, rfl, M2⟩
      case round =>
        obtain ⟨j, hj, rfl, M⟩ := hrel
        clear M2
        have hbe := M.out.be
        have he := E1.trans' hbe (by omega)
        have m1 := he.cell P1.out
        by_cases hjl : j < st.length
        · obtain ⟨kb, ko, ha, r1, r2⟩ := HCS.out j hjl
          subst ha
          have hy := HLX.out j hjl
          have HKS := Lib.hid (ofK_take st M1 hjl)
          generalize st.getD j stk0 = y at r1 r2 hy HKS
          obtain ⟨ya, yo⟩ := y
          dsimp only at r1 r2 hy HKS
          have hkz := cell_lt r1
          dsimp only at hkz
          have r1 := he.cell r1
          generalize ofK (st.take j) M1 = M3 at M HKS
          have m0 := M.out.c0
          have mc := M.out.c1
          have mf := M.out.f0
          have hoz := cell_lt m0
          dsimp only at hoz
          have hw1 : IntKind.i64.wrap (ya + 1) = ya + 1 := IntWalk.i64_in _ (by omega)
          go_wp2
          go_region
          have HMX : Hid (ofK (st.take (j + 1)) M1 = if M3 < ya + 1 then ya + 1 else M3) := by
            show _ = _
            rw [HKS.out]
            split <;> omega
          generalize (if M3 < ya + 1 then ya + 1 else M3) = M4 at HMX ⊢
          have MN : Hid (OfSt (w.heap.size + 1) W ((wr.setCell ⟨w.heap.size + 1, 0, none⟩ (.int .i64 M4)).drew) (ofK (st.take (j + 1)) M1) (.slice (some ⟨b, off, none⟩) l.length cap)) := by
            have ED : Ext (wr.setCell ⟨w.heap.size + 1, 0, none⟩ (.int .i64 M4)) ((wr.setCell ⟨w.heap.size + 1, 0, none⟩ (.int .i64 M4)).drew) := (Ext.refl _).drew
            have d0 : (wr.setCell ⟨w.heap.size + 1, 0, none⟩ (.int .i64 M4)).cell? ⟨w.heap.size + 1, 0, none⟩ = some (.int .i64 M4) := World.cell?_setCell_same _ _ _ m0
            refine ⟨(hbe.setCell (p := ⟨w.heap.size + 1, 0, none⟩) (Nat.le_refl _) _).drew, ?_, ED.cell ?_, ?_⟩
            · rw [HMX.out]; exact ED.cell d0
            · rw [World.cell?_setCell_other _ _ _ _ (fun h => by simp only [Addr.mk.injEq] at h; omega)]; exact mc
            · exact (Below.frozen (p := ⟨w.heap.size + 1, 0, none⟩) ED (cell_lt d0)).trans (by rw [World.frozen?_setCell]; exact mf)
          generalize (wr.setCell ⟨w.heap.size + 1, 0, none⟩ (.int .i64 M4)).drew = w8 at MN ⊢
          clear M HKS HMX m0 mc mf
          go_wp2
          refine ⟨⟨j + 1, by omega, by go_num, MN⟩, by simp [intOf]; omega⟩
        · have hje : j = st.length := by omega
          have MN : Hid (OfSt (w.heap.size + 1) W wr (ofGo (l.take (k + 1)) 0) (.slice (some ⟨b, off, none⟩) l.length cap)) := by
            show OfSt _ _ _ _ _
            have h9 := M.out
            rw [hje, List.take_length] at h9
            rw [HGS.out]
            exact h9
          clear M
          go_wp2
          refine ⟨⟨k + 1, by omega, by go_num, MN⟩, by simp [intOf]; omega⟩
    · have hke : k = l.length := by omega
      have HGE : Hid (ofGo (l.take k) 0 = G) := by show _ = _; rw [hke, List.take_length]; exact HG.out.symm
      have m0 := M.out.c0
      rw [HGE.out] at m0
      have m1 := M.out.c1
      have hbe := M.out.be
      have he := E1.trans' hbe (by omega)
      have hzo := cell_lt m0
      dsimp only at hzo
      have d0 := cellB hbe (p := ⟨w.heap.size, 0, none⟩) (by show w.heap.size < _; omega) c0
      have d1 := cellB hbe (p := ⟨w.heap.size, 1, none⟩) (by show w.heap.size < _; omega) c1
      have g0 := (Below.frozen (p := ⟨w.heap.size, 0, none⟩) hbe (by show w.heap.size < _; omega)).trans f0
      have g1 := (Below.frozen (p := ⟨w.heap.size, 1, none⟩) hbe (by show w.heap.size < _; omega)).trans f1
      have EF : Ext w ((wo.setCell ⟨w.heap.size, 0, none⟩ (.int .i64 G)).setCell ⟨w.heap.size, 1, none⟩ (.slice a l.length cap)) := (he.set (by omega) _).set (by omega) _
      clear M hbe he HGE HG
      go_wp2
      refine bodyPost_ret (v := .agg #[.int .i64 G, .slice a l.length cap]) (by rw [results_cell1 rfl]; go_simp) rfl ⟨rfl, EF⟩
end Go.Proofs.YtnhbogmihnnpjaaGreat
/- The reference's Parse of sequences, and parsed (of right texts alone). -/
namespace Go.Proofs.YtnhbogmihnnpjaaGreat
open Go.RowKit

theorem OwnsP.room {X : Nat → Prop} {A : World} {v : Value} {ys : List Stp} (h : OwnsP X A v ys) : ∃ a cap, v = .slice a ys.length cap ∧ CellsP A a ys ∧ ys.length ≤ maxLen ∧ Room a ys.length cap := by
  obtain ⟨a, cap, hv, hc, hm⟩ := h.reads
  obtain ⟨ps, h1, h2, h3⟩ := h
  exact ⟨a, cap, hv, hc, hm, rowRoom h2 hv⟩
/-- the value of a sequence with room -/
def RmPost (q : Sq) (w : World) (e : Ending) (w' : World) : Prop := ∃ a cap, e = .returned (.agg #[.int .i64 q.1, .slice a q.2.length cap]) ∧ CellsP w' a q.2 ∧ q.2.length ≤ maxLen ∧ Room a q.2.length cap ∧ Ext w w'
def RmPost3 (q : Sq) (w : World) (e : Ending) (w' : World) : Prop := ∃ a cap, e = .returned (.tuple #[.agg #[.int .i64 q.1, .slice a q.2.length cap], .int .i64 0, .int .i64 0]) ∧ (∀ B, Chg (olB w) w' B → CellsP B a q.2) ∧ q.2.length ≤ maxLen ∧ Room a q.2.length cap ∧ Ext w w'
theorem results_cell_tmp2s' {fn : Func} {p u z : Tmp} {ty : TypeId} (h : fn.results = #[.cell p ty, .tmp u, .tmp z]) (tmps : Array Value) (P : Program) (w : World) :
    (results fn tmps).run P w = ((asAddr (tmps.getD p undef)).run P w).andThen fun a w₁ => ((loadVar ty a).run P w₁).andThen fun x w₂ => .ok (.tuple #[x, tmps.getD u undef, tmps.getD z undef]) w₂ := by
  simp only [results, h]
  simp [Sem.run_bind, Result.andThen]
set_option maxHeartbeats 4000000 in
theorem Parse_any (s : ByteArray) (q : Sq) (w : World) (h : sqL s.toList = some q) :
    Calls Tryz.prog 81 #[.string s] w (RmPost3 q w) := by
  obtain ⟨L, hL, hq, hck⟩ : ∃ L, parseL s.toList = some L ∧ q = (ofGo L 0, L) ∧ ckSeq (ofGo L 0, L) = 0 := by
    unfold sqL at h
    obtain ⟨h1, h2⟩ := Option.filter_eq_some_iff.1 h
    obtain ⟨L, h3, h4⟩ := Option.map_eq_some_iff.1 h1
    subst h4
    exact ⟨L, h3, rfl, of_decide_eq_true h2⟩
  subst hq
  obtain ⟨hN1, hN6, hl0, hl64, hwk, _, _⟩ := ckSeq_zero hck
  have HF := Lib.hid (ckWalk_fine hwk)
  have hlow : Low L := fun i hi => by
    obtain ⟨f1, f2⟩ := HF.out i hi
    refine ⟨(ckStep_strokes f1).2.1, fun j hj => ?_⟩
    have := f2 j hj
    omega
  have HLW := Lib.hid hlow
  have HCK := Lib.hid hck
  clear h hck hwk hlow
  go_enter Tryz.func81, Tryz.ntmps81
  go_wp2_with fail
  have E1 : Ext w (w.alloc (.cells #[.int .i64 0, .slice none 0 0] 24)) := (by repeat (first | with_reducible exact Ext.refl _ | with_reducible assumption | with_reducible apply Ext.drewN | with_reducible apply Ext.drew | with_reducible apply Ext.alloc | ((with_reducible refine Ext.set ?_ ?_ _); rotate_left; first | omega | (simp; omega)) | (with_reducible refine Ext.trans ?_ (by with_reducible assumption))))
  have c0 : (w.alloc (.cells #[.int .i64 0, .slice none 0 0] 24)).cell? ⟨w.heap.size, 0, none⟩ = some (.int .i64 0) := by go_simp
  have c1 : (w.alloc (.cells #[.int .i64 0, .slice none 0 0] 24)).cell? ⟨w.heap.size, 1, none⟩ = some (.slice none 0 0) := by go_simp
  have f0 : (w.alloc (.cells #[.int .i64 0, .slice none 0 0] 24)).frozen? ⟨w.heap.size, 0, none⟩ = false := by go_simp
  have f1 : (w.alloc (.cells #[.int .i64 0, .slice none 0 0] 24)).frozen? ⟨w.heap.size, 1, none⟩ = false := by go_simp
  generalize (w.alloc (.cells #[.int .i64 0, .slice none 0 0] 24)) = W at E1 c0 c1 f0 f1 ⊢
  refine (PrsR_any s L _ hL).mono ?_
  rintro e w1 ⟨v, rfl, hv, hE⟩
  obtain ⟨a, cap, rfl, hc, hm, hr⟩ := hv.1.room
  have HV := Lib.hid hv
  have HC := Lib.hid hc
  have HM := Lib.hid hm
  have HR := Lib.hid hr
  clear hc hm hr hv
  have hne : ¬ ((L.length : Int) = 0) := by omega
  have hne2 : ¬ L.length = 0 := by omega
  go_wp2_with fail
  refine (Of_any L a cap _ hl64 HC.out HLW.out).mono ?_
  rintro e w2 ⟨rfl, hE2⟩
  have C2 := Lib.hid (HC.out.ext hE2)
  go_wp2_with fail
  refine (CheckR_any (ofGo L 0) L a cap _ HM.out C2.out).mono ?_
  rintro e w3 ⟨rfl, hE3⟩
  rw [HCK.out]
  have C3 := Lib.hid (C2.out.ext hE3)
  go_wp2_with fail
  refine (Of_any L a cap _ hl64 C3.out HLW.out).mono ?_
  rintro e w4 ⟨rfl, hE4⟩
  have E14 := ((hE.trans hE2).trans hE3).trans hE4
  have E4 := E1.trans E14
  have C4 := Lib.hid (C3.out.ext hE4)
  have d0 := E14.cell c0
  have d1 := E14.cell c1
  have g0 := (Below.frozen (p := ⟨w.heap.size, 0, none⟩) E14 (cell_lt c0)).trans f0
  have g1 := (Below.frozen (p := ⟨w.heap.size, 1, none⟩) E14 (cell_lt c1)).trans f1
  have hzW : olB W w.heap.size := cell_lt c0
  have hz := cell_lt d0
  dsimp only at hz
  have EF : Ext w ((w4.setCell ⟨w.heap.size, 0, none⟩ (.int .i64 (ofGo L 0))).setCell ⟨w.heap.size, 1, none⟩ (.slice a L.length cap)) := (E4.set (by omega) _).set (by omega) _
  have hCF : Hid (∀ B, Chg (olB w) ((w4.setCell ⟨w.heap.size, 0, none⟩ (.int .i64 (ofGo L 0))).setCell ⟨w.heap.size, 1, none⟩ (.slice a L.length cap)) B → CellsP B a L) := fun B hB => by
    obtain ⟨a', cap', e9, hc9, _⟩ := (HV.out.1.chg ((((Chg.ext ((hE2.trans hE3).trans hE4)).trans (Chg.setCell (B := olB W) ⟨w.heap.size, 0, none⟩ (.int .i64 (ofGo L 0)) hzW)).trans (Chg.setCell (B := olB W) ⟨w.heap.size, 1, none⟩ (.slice a L.length cap) hzW)).trans (hB.mono (fun b hb => by unfold olB at *; have := E1.size; omega))) HV.out.2).reads
    cases e9
    exact hc9
  go_wp2
  refine bodyPost_ret (v := .tuple #[.agg #[.int .i64 (ofGo L 0), .slice a L.length cap], .int .i64 0, .int .i64 0]) (by rw [results_cell_tmp2s' rfl]; go_simp) rfl ⟨a, cap, rfl, hCF.out, HM.out, HR.out, EF⟩
set_option maxHeartbeats 4000000 in
theorem parsed_any (s : ByteArray) (q : Sq) (w : World) (h : sqL s.toList = some q) :
    Calls Tryz.prog 45 #[.string s] w (RmPost q w) := by
  go_enter Tryz.func45, Tryz.ntmps45
  go_wp2_with fail
  have E1 : Ext w (w.alloc (.cells #[.int .i64 0, .slice none 0 0] 24)) := (by repeat (first | with_reducible exact Ext.refl _ | with_reducible assumption | with_reducible apply Ext.drewN | with_reducible apply Ext.drew | with_reducible apply Ext.alloc | ((with_reducible refine Ext.set ?_ ?_ _); rotate_left; first | omega | (simp; omega)) | (with_reducible refine Ext.trans ?_ (by with_reducible assumption))))
  have c0 : (w.alloc (.cells #[.int .i64 0, .slice none 0 0] 24)).cell? ⟨w.heap.size, 0, none⟩ = some (.int .i64 0) := by go_simp
  have c1 : (w.alloc (.cells #[.int .i64 0, .slice none 0 0] 24)).cell? ⟨w.heap.size, 1, none⟩ = some (.slice none 0 0) := by go_simp
  have f0 : (w.alloc (.cells #[.int .i64 0, .slice none 0 0] 24)).frozen? ⟨w.heap.size, 0, none⟩ = false := by go_simp
  have f1 : (w.alloc (.cells #[.int .i64 0, .slice none 0 0] 24)).frozen? ⟨w.heap.size, 1, none⟩ = false := by go_simp
  generalize (w.alloc (.cells #[.int .i64 0, .slice none 0 0] 24)) = W at E1 c0 c1 f0 f1 ⊢
  refine (Parse_any s q _ h).mono ?_
  rintro e w1 ⟨a, cap, rfl, hc, hm, hr, hE⟩
  obtain ⟨n, L⟩ := q
  dsimp only at hc hm hr ⊢
  have HC := Lib.hid hc
  have HM := Lib.hid hm
  have HR := Lib.hid hr
  clear hc hm hr
  have E4 := E1.trans hE
  have d0 := hE.cell c0
  have d1 := hE.cell c1
  have g0 := (Below.frozen (p := ⟨w.heap.size, 0, none⟩) hE (cell_lt c0)).trans f0
  have g1 := (Below.frozen (p := ⟨w.heap.size, 1, none⟩) hE (cell_lt c1)).trans f1
  have hzW : olB W w.heap.size := cell_lt c0
  have hz := cell_lt d0
  dsimp only at hz
  have EF : Ext w (((w1.setCell ⟨w.heap.size, 0, none⟩ (.int .i64 n)).setCell ⟨w.heap.size, 1, none⟩ (.slice a L.length cap)).alloc (.cells #[.int .i64 n, .slice a L.length cap] 24)) := ((E4.set (by omega) _).set (by omega) _).alloc _
  have hCF : Hid (CellsP (((w1.setCell ⟨w.heap.size, 0, none⟩ (.int .i64 n)).setCell ⟨w.heap.size, 1, none⟩ (.slice a L.length cap)).alloc (.cells #[.int .i64 n, .slice a L.length cap] 24)) a L) :=
    HC.out _ (((Chg.setCell (B := olB W) ⟨w.heap.size, 0, none⟩ (.int .i64 n) hzW).trans (Chg.setCell (B := olB W) ⟨w.heap.size, 1, none⟩ (.slice a L.length cap) hzW)).trans (Chg.ext ((Ext.refl _).alloc _)))
  go_wp2
  refine bodyPost_ret (v := .agg #[.int .i64 n, .slice a L.length cap]) (by rw [results_cell1 rfl]; go_simp) rfl ⟨a, cap, rfl, hCF.out, HM.out, HR.out, EF⟩
end Go.Proofs.YtnhbogmihnnpjaaGreat
/- variant.Alike. -/
namespace Go.Proofs.YtnhbogmihnnpjaaGreat
open Go.RowKit

def alikeE (s t : Sq) : Int := if ckSeq s ≠ 0 then ckSeq s else ckSeq t
def alikeB (s t : Sq) : Bool := decide (ckSeq s = 0 ∧ ckSeq t = 0) && decide (standard s = standard t)

set_option maxHeartbeats 8000000 in
set_option maxRecDepth 100000 in
theorem Alike_any (n m : Int) (l q : List Stp) (a b : Option Addr) (ca cb : Nat) (w : World) (hl : l.length ≤ maxLen) (hc : CellsP w a l) (hq : q.length ≤ maxLen) (hd : CellsP w b q) :
    Calls Tryz.prog 28 #[.agg #[.int .i64 n, .slice a l.length ca], .agg #[.int .i64 m, .slice b q.length cb]] w fun r w' => r = .returned (.tuple #[.bool (alikeB (n, l) (m, q)), .int .i64 (alikeE (n, l) (m, q))]) ∧ Ext w w' := by
  obtain ⟨er, bo, h1, h2, hr⟩ : ∃ er bo, alikeE (n, l) (m, q) = er ∧ alikeB (n, l) (m, q) = bo ∧ ((ckSeq (n, l) ≠ 0 ∧ er = ckSeq (n, l) ∧ bo = false) ∨ (ckSeq (n, l) = 0 ∧ ((ckSeq (m, q) ≠ 0 ∧ er = ckSeq (m, q) ∧ bo = false) ∨ (ckSeq (m, q) = 0 ∧ er = 0 ∧ bo = decide (standard (n, l) = standard (m, q)))))) := by
    refine ⟨_, _, rfl, rfl, ?_⟩
    unfold alikeE alikeB
    by_cases h1 : ckSeq (n, l) = 0
    · by_cases h2 : ckSeq (m, q) = 0
      · exact .inr ⟨h1, .inr ⟨h2, by simp [h1, h2], by simp [h1, h2]⟩⟩
      · exact .inr ⟨h1, .inl ⟨h2, by simp [h1], by simp [h2]⟩⟩
    · exact .inl ⟨h1, by simp [h1], by simp [h1]⟩
  rw [h1, h2]
  have HC := Lib.hid hc
  have HL := Lib.hid hl
  have HD := Lib.hid hd
  have HQ := Lib.hid hq
  have HR := Lib.hid hr
  clear hc hd hl hq h1 h2 hr
  have hzs : ∀ w, (zeroValue 24).run Tryz.prog w = .ok (.agg #[.int .i64 0, .slice none 0 0]) w := fun _ => by kernel_rfl
  go_enter Tryz.func28, Tryz.ntmps28
  go_wp2_with fail
  have E1 : Ext w (((w.alloc (.cells #[.int .i64 n, .slice a l.length ca] 24)).alloc (.cells #[.int .i64 m, .slice b q.length cb] 24)).alloc (.cells #[.int .i64 n, .slice a l.length ca, .int .i64 m, .slice b q.length cb] 24)) := (by repeat (first | with_reducible exact Ext.refl _ | with_reducible assumption | with_reducible apply Ext.drewN | with_reducible apply Ext.drew | with_reducible apply Ext.alloc | ((with_reducible refine Ext.set ?_ ?_ _); rotate_left; first | omega | (simp; omega)) | (with_reducible refine Ext.trans ?_ (by with_reducible assumption))))
  have a0 : (((w.alloc (.cells #[.int .i64 n, .slice a l.length ca] 24)).alloc (.cells #[.int .i64 m, .slice b q.length cb] 24)).alloc (.cells #[.int .i64 n, .slice a l.length ca, .int .i64 m, .slice b q.length cb] 24)).cell? ⟨w.heap.size, 0, none⟩ = some (.int .i64 n) := by go_simp
  have a1 : (((w.alloc (.cells #[.int .i64 n, .slice a l.length ca] 24)).alloc (.cells #[.int .i64 m, .slice b q.length cb] 24)).alloc (.cells #[.int .i64 n, .slice a l.length ca, .int .i64 m, .slice b q.length cb] 24)).cell? ⟨w.heap.size, 1, none⟩ = some (.slice a l.length ca) := by go_simp
  have b0 : (((w.alloc (.cells #[.int .i64 n, .slice a l.length ca] 24)).alloc (.cells #[.int .i64 m, .slice b q.length cb] 24)).alloc (.cells #[.int .i64 n, .slice a l.length ca, .int .i64 m, .slice b q.length cb] 24)).cell? ⟨w.heap.size + 1, 0, none⟩ = some (.int .i64 m) := by go_simp
  have b1 : (((w.alloc (.cells #[.int .i64 n, .slice a l.length ca] 24)).alloc (.cells #[.int .i64 m, .slice b q.length cb] 24)).alloc (.cells #[.int .i64 n, .slice a l.length ca, .int .i64 m, .slice b q.length cb] 24)).cell? ⟨w.heap.size + 1, 1, none⟩ = some (.slice b q.length cb) := by go_simp
  have s0 : (((w.alloc (.cells #[.int .i64 n, .slice a l.length ca] 24)).alloc (.cells #[.int .i64 m, .slice b q.length cb] 24)).alloc (.cells #[.int .i64 n, .slice a l.length ca, .int .i64 m, .slice b q.length cb] 24)).cell? ⟨w.heap.size + 1 + 1, 0, none⟩ = some (.int .i64 n) := by go_simp
  have s1 : (((w.alloc (.cells #[.int .i64 n, .slice a l.length ca] 24)).alloc (.cells #[.int .i64 m, .slice b q.length cb] 24)).alloc (.cells #[.int .i64 n, .slice a l.length ca, .int .i64 m, .slice b q.length cb] 24)).cell? ⟨w.heap.size + 1 + 1, 1, none⟩ = some (.slice a l.length ca) := by go_simp
  have s2 : (((w.alloc (.cells #[.int .i64 n, .slice a l.length ca] 24)).alloc (.cells #[.int .i64 m, .slice b q.length cb] 24)).alloc (.cells #[.int .i64 n, .slice a l.length ca, .int .i64 m, .slice b q.length cb] 24)).cell? ⟨w.heap.size + 1 + 1, 2, none⟩ = some (.int .i64 m) := by go_simp
  have s3 : (((w.alloc (.cells #[.int .i64 n, .slice a l.length ca] 24)).alloc (.cells #[.int .i64 m, .slice b q.length cb] 24)).alloc (.cells #[.int .i64 n, .slice a l.length ca, .int .i64 m, .slice b q.length cb] 24)).cell? ⟨w.heap.size + 1 + 1, 3, none⟩ = some (.slice b q.length cb) := by go_simp
  generalize (((w.alloc (.cells #[.int .i64 n, .slice a l.length ca] 24)).alloc (.cells #[.int .i64 m, .slice b q.length cb] 24)).alloc (.cells #[.int .i64 n, .slice a l.length ca, .int .i64 m, .slice b q.length cb] 24)) = W at E1 a0 a1 b0 b1 s0 s1 s2 s3 ⊢
  go_loopw [18] (fun i wr => ∃ k : Nat, k ≤ 2 ∧ i = .int .i64 k ∧ Hid (1 ≤ k → ckSeq (n, l) = 0) ∧ Hid (2 ≤ k → ckSeq (m, q) = 0) ∧ Ext W wr) (fun i _ => 2 - (intOf i).toNat)
  case atStart => exact ⟨0, by omega, rfl, fun h => by omega, fun h => by omega, Ext.refl _⟩
  case round =>
    obtain ⟨k, hk, rfl, K1, K2, he⟩ := hrel
    have s0 := he.cell s0
    have s1 := he.cell s1
    have s2 := he.cell s2
    have s3 := he.cell s3
    have zs := cell_lt s0
    dsimp only at zs
    have : k = 0 ∨ k = 1 ∨ k = 2 := by omega
    rcases this with rfl | rfl | rfl
    · have EB : Ext wr (wr.alloc (.cells #[.int .i64 n, .slice a l.length ca] 24)) := (by repeat (first | with_reducible exact Ext.refl _ | with_reducible assumption | with_reducible apply Ext.drewN | with_reducible apply Ext.drew | with_reducible apply Ext.alloc | ((with_reducible refine Ext.set ?_ ?_ _); rotate_left; first | omega | (simp; omega)) | (with_reducible refine Ext.trans ?_ (by with_reducible assumption))))
      have HK := Lib.hid (Check_any n l a ca _ HL.out (HC.out.ext ((E1.trans he).trans EB)))
      clear K1 K2
      go_wp2_with fail
      refine HK.out.mono ?_
      rintro e w1 ⟨rfl, hE⟩
      have E5 := E1.trans ((he.trans EB).trans hE)
      have E6 := (he.trans EB).trans hE
      clear HK
      rcases HR.out with ⟨h1, h2, h3⟩ | ⟨h1, _⟩
      · have hn : (er != 0) = true := by rw [h2]; simp [h1]
        rw [← h2]
        subst h3
        clear h1 h2 HR
        go_wp2
        go_ret2
        exact ⟨rfl, E5⟩
      · rw [h1]
        have K1 : Hid (1 ≤ 1 → ckSeq (n, l) = 0) := fun _ => h1
        clear h1
        go_wp2
        refine ⟨⟨1, by omega, by go_num, K1, (fun h => by omega), E6⟩, by simp [intOf]⟩
    · have EB : Ext wr (wr.alloc (.cells #[.int .i64 m, .slice b q.length cb] 24)) := (by repeat (first | with_reducible exact Ext.refl _ | with_reducible assumption | with_reducible apply Ext.drewN | with_reducible apply Ext.drew | with_reducible apply Ext.alloc | ((with_reducible refine Ext.set ?_ ?_ _); rotate_left; first | omega | (simp; omega)) | (with_reducible refine Ext.trans ?_ (by with_reducible assumption))))
      have HK := Lib.hid (Check_any m q b cb _ HQ.out (HD.out.ext ((E1.trans he).trans EB)))
      clear K2
      go_wp2_with fail
      refine HK.out.mono ?_
      rintro e w1 ⟨rfl, hE⟩
      have E5 := E1.trans ((he.trans EB).trans hE)
      have E6 := (he.trans EB).trans hE
      clear HK
      rcases HR.out with ⟨h1, _⟩ | ⟨_, ⟨h1, h2, h3⟩ | ⟨h1, _, _⟩⟩
      · exact absurd (K1.out (Nat.le_refl _)) h1
      · have hn : (er != 0) = true := by rw [h2]; simp [h1]
        rw [← h2]
        subst h3
        clear h1 h2 HR K1
        go_wp2
        go_ret2
        exact ⟨rfl, E5⟩
      · rw [h1]
        have K2 : Hid (2 ≤ 2 → ckSeq (m, q) = 0) := fun _ => h1
        have K3 : Hid (1 ≤ 2 → ckSeq (n, l) = 0) := fun _ => K1.out (Nat.le_refl _)
        clear h1 K1
        go_wp2
        refine ⟨⟨2, by omega, by go_num, K3, K2, E6⟩, by simp [intOf]⟩
    · have k1 := K1.out (by omega)
      have k2 := K2.out (by omega)
      rcases HR.out with ⟨h1, _⟩ | ⟨_, ⟨h1, _⟩ | ⟨_, rfl, h3⟩⟩
      · exact absurd k1 h1
      · exact absurd k2 h1
      · have a0 := he.cell a0
        have a1 := he.cell a1
        have b0 := he.cell b0
        have b1 := he.cell b1
        have E2 := E1.trans he
        have HB := Lib.hid h3
        have HSA := Lib.hid (fun W h => Standard_any n l a ca W HL.out h)
        have HSB := Lib.hid (fun W h => Standard_any m q b cb W HQ.out h)
        rw [k1] at HSA
        rw [k2] at HSB
        simp only [if_true] at HSA HSB
        clear k1 k2 K1 K2 HR h3
        generalize standard (n, l) = S1 at HB HSA
        generalize standard (m, q) = S2 at HB HSB
        obtain ⟨n1, l1⟩ := S1
        obtain ⟨n2, l2⟩ := S2
        go_wp2_with fail
        refine (HSA.out _ (HC.out.ext E2)).mono ?_
        rintro e w5 ⟨v, aa, c, rfl, ⟨u, rfl, ua, uc, rfl, hu, hul⟩, _, _, hE⟩
        dsimp only at hu hul
        have HU := Lib.hid hu
        have HUL := Lib.hid hul
        have b0 := hE.cell b0
        have b1 := hE.cell b1
        have E5 := E2.trans hE
        clear hu hul
        dsimp only
        have zb := cell_lt b0
        dsimp only at zb
        go_wp2_with fail
        have E6 : Ext w5 (w5.alloc (.cells #[.int .i64 n1, .slice ua l1.length uc] 24)) := (by repeat (first | with_reducible exact Ext.refl _ | with_reducible assumption | with_reducible apply Ext.drewN | with_reducible apply Ext.drew | with_reducible apply Ext.alloc | ((with_reducible refine Ext.set ?_ ?_ _); rotate_left; first | omega | (simp; omega)) | (with_reducible refine Ext.trans ?_ (by with_reducible assumption))))
        have x0 : (w5.alloc (.cells #[.int .i64 n1, .slice ua l1.length uc] 24)).cell? ⟨w5.heap.size, 0, none⟩ = some (.int .i64 n1) := by go_simp
        have x1 : (w5.alloc (.cells #[.int .i64 n1, .slice ua l1.length uc] 24)).cell? ⟨w5.heap.size, 1, none⟩ = some (.slice ua l1.length uc) := by go_simp
        generalize w5.alloc (.cells #[.int .i64 n1, .slice ua l1.length uc] 24) = w6 at E6 x0 x1 ⊢
        refine (HSB.out _ (HD.out.ext (E5.trans E6))).mono ?_
        rintro e w7 ⟨v, aa2, c2, rfl, ⟨u, rfl, va, vc, rfl, hu, hul⟩, _, _, hE7⟩
        dsimp only at hu hul
        have HV := Lib.hid hu
        have HVL := Lib.hid hul
        have x0 := hE7.cell x0
        have x1 := hE7.cell x1
        have zx := cell_lt x0
        dsimp only at zx
        have E7 := (E5.trans E6).trans hE7
        have E8 : Ext w7 (w7.alloc (.cells #[.int .i64 n2, .slice va l2.length vc] 24)) := (by repeat (first | with_reducible exact Ext.refl _ | with_reducible assumption | with_reducible apply Ext.drewN | with_reducible apply Ext.drew | with_reducible apply Ext.alloc | ((with_reducible refine Ext.set ?_ ?_ _); rotate_left; first | omega | (simp; omega)) | (with_reducible refine Ext.trans ?_ (by with_reducible assumption))))
        have HSM := Lib.hid (SeqSame_any n1 n2 l1 l2 ua va uc vc (w7.alloc (.cells #[.int .i64 n2, .slice va l2.length vc] 24)) HUL.out (HU.out.ext ((E6.trans hE7).trans E8)) HVL.out (HV.out.ext E8))
        rw [← HB.out] at HSM
        clear hu hul
        dsimp only
        go_wp2_with (go_at_call 67; refine HSM.out.mono ?_; rintro e w9 ⟨rfl, hE9⟩)
        go_ret2
        exact ⟨rfl, (E7.trans E8).trans hE9⟩
end Go.Proofs.YtnhbogmihnnpjaaGreat
/- variant.Parts. -/
namespace Go.Proofs.YtnhbogmihnnpjaaGreat
open Go.RowKit

set_option maxHeartbeats 8000000 in
set_option maxRecDepth 100000 in
theorem Parts_ok (N : Nat) (l : List Stp) (b off cap : Nat) (w : World) (hl : l.length ≤ maxLen) (hc : CellsP w (some ⟨b, off, none⟩) l) (hcap : l.length ≤ cap) (_hcm : cap ≤ maxLen) (hk : ckSeq ((N : Int), l) = 0) :
    Calls Tryz.prog 21 #[.agg #[.int .i64 (N : Int), .slice (some ⟨b, off, none⟩) l.length cap]] w (SeqsPost (partsOf ((N : Int), l)) 0 w) := by
  have HC := Lib.hid hc
  have HL := Lib.hid hl
  obtain ⟨hN1, hN6, hl0, hl64, hwk, _, _⟩ := ckSeq_zero hk
  have HFI := Lib.hid (ckWalk_fine hwk)
  have HCK := Lib.hid hk
  obtain ⟨R, hR⟩ : ∃ R, R = partsOf ((N : Int), l) := ⟨_, rfl⟩
  rw [← hR]
  have HR : Hid (R = partsK ((N : Int), l) (pauses ((N : Int), l)).length) := hR
  obtain ⟨i0, hi, hi0, hi1, hi2⟩ := info_parts infoSeq
  unfold maxLen at _hcm
  clear hc hl hk hwk hR
  go_enter Tryz.func21, Tryz.ntmps21
  go_wp2_with fail
  have E1 : Ext w (w.alloc (.cells #[.int .i64 (N : Int), .slice (some ⟨b, off, none⟩) l.length cap] 24)) := (by repeat (first | with_reducible exact Ext.refl _ | with_reducible assumption | with_reducible apply Ext.drewN | with_reducible apply Ext.drew | with_reducible apply Ext.alloc | ((with_reducible refine Ext.set ?_ ?_ _); rotate_left; first | omega | (simp; omega)) | (with_reducible refine Ext.trans ?_ (by with_reducible assumption))))
  have c0 : (w.alloc (.cells #[.int .i64 (N : Int), .slice (some ⟨b, off, none⟩) l.length cap] 24)).cell? ⟨w.heap.size, 0, none⟩ = some (.int .i64 (N : Int)) := by go_simp
  have c1 : (w.alloc (.cells #[.int .i64 (N : Int), .slice (some ⟨b, off, none⟩) l.length cap] 24)).cell? ⟨w.heap.size, 1, none⟩ = some (.slice (some ⟨b, off, none⟩) l.length cap) := by go_simp
  generalize w.alloc (.cells #[.int .i64 (N : Int), .slice (some ⟨b, off, none⟩) l.length cap] 24) = W at E1 c0 c1 ⊢
  refine (Pauses_any (N : Int) l _ cap _ HL.out (HC.out.ext E1)).mono ?_
  rintro e w1 ⟨pa, pc, rfl, hp1, hp2, hE⟩
  rw [if_pos HCK.out] at hp1 hp2 ⊢
  rw [HCK.out]
  have E2 := E1.trans hE
  have c0 := hE.cell c0
  have c1 := hE.cell c1
  have HASC := Lib.hid (fun k h => pauses_lt (s := ((N : Int), l)) (k := k) h)
  have HIN := Lib.hid (fun k h => pauses_in (s := ((N : Int), l)) (k := k) h)
  have hple := pauses_le ((N : Int), l)
  have HPA : Hid (∀ k, partAt ((N : Int), l) k = partOf (N : Int) ((l.take (endOf ((N : Int), l) (pauses ((N : Int), l)) k)).drop ((pauses ((N : Int), l)).getD k 0).toNat)) := fun k => rfl
  have HEN : Hid (∀ k, endOf ((N : Int), l) (pauses ((N : Int), l)) k = if k + 1 < (pauses ((N : Int), l)).length then ((pauses ((N : Int), l)).getD (k + 1) 0).toNat else l.length) := fun k => rfl
  dsimp only at hple HIN
  generalize pauses ((N : Int), l) = P at hp1 hp2 HASC HIN hple HPA HEN HR ⊢
  have HP := Lib.hid hp1
  have hpl64 : P.length ≤ 64 := by omega
  clear hE E1 hp1 hp2
  have zw : w.heap.size < w1.heap.size := cell_lt c0
  go_wp2
  go_loopw [20, 6] (fun i v wr => ∃ k : Nat, k ≤ P.length ∧ i = .int .i64 k ∧ (∃ vv, v = vv ∧ Hid (OwnsQ wr vv (partsK ((N : Int), l) k) ∧ ∀ b, vv.ownBlock = some b → w1.heap.size ≤ b)) ∧ Ext w1 wr) (fun i _ _ => P.length - (intOf i).toNat)
  case atStart => exact ⟨0, Nat.zero_le _, rfl, ⟨_, rfl, OwnsQ.nil _, fun b hb => by cases hb⟩, Ext.refl _⟩
  case round =>
    obtain ⟨k, hkl, rfl, ⟨vv, hvv, hO⟩, he⟩ := hrel
    obtain rfl := hvv.symm
    have d0 := he.cell c0
    have d1 := he.cell c1
    have E3 := E2.trans he
    by_cases hlt : k < P.length
    · obtain ⟨pb, po, rfl, q1⟩ := HP.out k hlt
      have q1 := he.cell q1
      obtain ⟨x0, x1⟩ := HIN.out k hlt
      have hen := HEN.out k
      have HMS := Lib.hid (partsK_succ ((N : Int), l) k)
      have hpk := Lib.hid (partsK_len ((N : Int), l) k)
      rw [HPA.out k] at HMS
      have hP1 : k + 1 < P.length → P.getD k 0 < P.getD (k + 1) 0 ∧ P.getD (k + 1) 0 < (l.length : Int) := fun h => ⟨HASC.out k h, (HIN.out (k + 1) h).2⟩
      have hq2 : k + 1 < P.length → wr.cell? ⟨pb, po + (k + 1), none⟩ = some (.int .i64 (P.getD (k + 1) 0)) := fun h => by
        obtain ⟨pb', po', e, q2⟩ := HP.out (k + 1) h
        cases e
        exact he.cell q2
      generalize endOf ((N : Int), l) P k = en at hen HMS
      generalize P.getD k 0 = x at q1 x0 x1 HMS hP1
      generalize P.getD (k + 1) 0 = z at hen hP1 hq2
      obtain ⟨xn, rfl⟩ := Int.eq_ofNat_of_zero_le x0
      have z9 := cell_lt q1
      dsimp only at z9
      have hw1 : IntKind.i64.wrap ((k : Int) + 1) = (k : Int) + 1 := IntWalk.i64_in _ (by omega)
      by_cases h1 : k + 1 < P.length
      · have q2 := hq2 h1
        obtain ⟨hz1, hz2⟩ := hP1 h1
        obtain ⟨zn, rfl⟩ := Int.eq_ofNat_of_zero_le (show 0 ≤ z by omega)
        rw [if_pos h1] at hen
        have hen2 : en = zn := by rw [hen]; rfl
        subst hen2
        have hlt1 : (k : Int) + 1 < (P.length : Int) := by omega
        have hlt2 : (0 : Int) ≤ (k : Int) + 1 := by omega
        have hlt3 : ((k : Int) + 1).toNat = k + 1 := by omega
        clear hen hP1 hq2
        go_wp2
        refine wp_region_heldE 99 (fun w' => w'.cell? ⟨w.heap.size, 0, none⟩ = some (.int .i64 (N : Int)) ∧ w'.cell? ⟨w.heap.size, 1, none⟩ = some (.slice (some ⟨b, off, none⟩) l.length cap)) (by kernel_rfl) ?_
        have ED : Ext wr wr.drew := (by repeat (first | with_reducible exact Ext.refl _ | with_reducible assumption | with_reducible apply Ext.drewN | with_reducible apply Ext.drew | with_reducible apply Ext.alloc | ((with_reducible refine Ext.set ?_ ?_ _); rotate_left; first | omega | (simp; omega)) | (with_reducible refine Ext.trans ?_ (by with_reducible assumption))))
        have E4 := E3.trans ED
        have F4 := he.trans ED
        have hS : wr.drew.cell? ⟨w.heap.size, 0, none⟩ = some (.int .i64 (N : Int)) ∧ wr.drew.cell? ⟨w.heap.size, 1, none⟩ = some (.slice (some ⟨b, off, none⟩) l.length cap) := ⟨ED.cell d0, ED.cell d1⟩
        have HO4 := Lib.hid (hO.out.1.ext ED)
        have HOB := Lib.hid hO.out.2
        clear hO d0 d1 q1
        generalize wr.drew = W4 at E4 F4 hS HO4 ⊢
        clear ED
        have hk1 : xn ≤ en := by omega
        have hk2 : en ≤ cap := by omega
        have hk3 : xn ≤ cap := by omega
        have hcapk : ¬ cap = xn := by omega
        ((refine wpAnyE_take (i := 0) (oi := ?_) (v := ?_) ?_ (by kernel_rfl) ?_ ?_ (by assumption) ?_; rotate_left 2; (focus ((simp only [List.getElem?_toArray, List.getElem?_cons_zero]; exact rfl))); (focus (exact fun _ _ _ h => h)); (focus (refine Or.inl ⟨by rfl, ?_⟩; intro w hSw; (try dsimp only at hSw); (first | (go_simp; done) | (go_simp; with_reducible rfl)))); (try simp only [Act.put, List.setIfInBounds_toArray, List.set_cons_zero, List.set_cons_succ])); (refine wpAnyE_take (i := 1) (oi := ?_) (v := ?_) ?_ (by kernel_rfl) ?_ ?_ (by assumption) ?_; rotate_left 2; (focus ((simp only [List.getElem?_toArray, List.getElem?_cons_succ, List.getElem?_cons_zero]; exact rfl))); (focus (exact fun _ _ _ h => h)); (focus (refine Or.inl ⟨by rfl, ?_⟩; intro w hSw; (try dsimp only at hSw); (first | (go_simp; done) | (go_simp; with_reducible rfl)))); (try simp only [Act.put, List.setIfInBounds_toArray, List.set_cons_zero, List.set_cons_succ])); (refine wpAnyE_take (i := 2) (oi := ?_) (v := ?_) ?_ (by kernel_rfl) ?_ ?_ (by assumption) ?_; rotate_left 2; (focus ((simp only [List.getElem?_toArray, List.getElem?_cons_succ, List.getElem?_cons_zero]; exact rfl))); (focus (exact fun _ _ _ h => h)); (focus (refine Or.inl ⟨by rfl, ?_⟩; intro w hSw; (try dsimp only at hSw); (first | (go_simp; done) | (go_simp; with_reducible rfl)))); (try simp only [Act.put, List.setIfInBounds_toArray, List.set_cons_zero, List.set_cons_succ])); (refine wpAnyE_take (i := 3) (oi := ?_) (v := ?_) ?_ (by kernel_rfl) ?_ ?_ (by assumption) ?_; rotate_left 2; (focus ((simp only [List.getElem?_toArray, List.getElem?_cons_succ, List.getElem?_cons_zero]; exact rfl))); (focus (exact fun _ _ _ h => h)); (focus (refine Or.inl ⟨by rfl, ?_⟩; intro w hSw; (try dsimp only at hSw); (first | (go_simp; done) | (go_simp; with_reducible rfl)))); (try simp only [Act.put, List.setIfInBounds_toArray, List.set_cons_zero, List.set_cons_succ])); (refine wpAnyE_take (i := 4) (oi := ?_) (v := ?_) ?_ (by kernel_rfl) ?_ ?_ (by assumption) ?_; rotate_left 2; (focus ((simp only [List.getElem?_toArray, List.getElem?_cons_succ, List.getElem?_cons_zero]; exact rfl))); (focus (exact fun _ _ _ h => h)); (focus (refine Or.inl ⟨by rfl, ?_⟩; intro w hSw; (try dsimp only at hSw); (first | (go_simp; done) | (go_simp; with_reducible rfl)))); (try simp only [Act.put, List.setIfInBounds_toArray, List.set_cons_zero, List.set_cons_succ])); (refine wpAnyE_take (i := 5) (oi := ?_) (v := ?_) ?_ (by kernel_rfl) ?_ ?_ (by assumption) ?_; rotate_left 2; (focus ((simp only [List.getElem?_toArray, List.getElem?_cons_succ, List.getElem?_cons_zero]; exact rfl))); (focus (exact fun _ _ _ h => h)); (focus (refine Or.inl ⟨by rfl, ?_⟩; intro w hSw; (try dsimp only at hSw); (first | (go_simp; done) | (go_simp; with_reducible rfl)))); (try simp only [Act.put, List.setIfInBounds_toArray, List.set_cons_zero, List.set_cons_succ])); (refine wpAnyE_take (i := 6) (oi := ?_) (v := ?_) ?_ (by kernel_rfl) ?_ ?_ (by assumption) ?_; rotate_left 2; (focus ((simp only [List.getElem?_toArray, List.getElem?_cons_succ, List.getElem?_cons_zero]; exact rfl))); (focus (exact fun _ _ _ h => h)); (focus (refine Or.inl ⟨by rfl, ?_⟩; intro w hSw; (try dsimp only at hSw); (first | (go_simp; done) | (go_simp; with_reducible rfl)))); (try simp only [Act.put, List.setIfInBounds_toArray, List.set_cons_zero, List.set_cons_succ])); (refine wpAnyE_take (i := 7) (oi := ?_) (v := ?_) ?_ (by kernel_rfl) ?_ ?_ (by assumption) ?_; rotate_left 2; (focus ((simp only [List.getElem?_toArray, List.getElem?_cons_succ, List.getElem?_cons_zero]; exact rfl))); (focus (exact fun _ _ _ h => h)); (focus (refine Or.inl ⟨by rfl, ?_⟩; intro w hSw; (try dsimp only at hSw); (first | (go_simp; done) | (go_simp; with_reducible rfl)))); (try simp only [Act.put, List.setIfInBounds_toArray, List.set_cons_zero, List.set_cons_succ])))
        clear hk1 hk2 hk3 hcapk
        have hsl : ((l.take en).drop xn).length = en - xn := by rw [List.length_drop, List.length_take]; omega
        have HAL := Lib.hid (alone_any N ((l.take en).drop xn) (some ⟨b, off + xn * 2, none⟩) (cap - xn) W4 (by omega) (by omega) (HFI.out.part en xn) (((HC.out.ext E4).take en).drop xn))
        rw [hsl] at HAL
        have HMS2 : Hid (partsK ((N : Int), l) (k + 1) = partsK ((N : Int), l) k ++ [partOf (N : Int) ((l.take en).drop xn)]) := HMS.out
        generalize partOf (N : Int) ((l.take en).drop xn) = y at HAL HMS2
        obtain ⟨y1, y2⟩ := y
        clear hsl HMS
        (refine wpAnyE_one (i := 8) (o := ?_) ?_ (by kernel_rfl) (fun K hK => ?_); rotate_left; (focus ((simp only [List.getElem?_toArray, List.getElem?_cons_succ, List.getElem?_cons_zero]; exact rfl))); go_simp; refine HAL.out.mono ?_; rintro e w5 hpo; obtain ⟨u, rfl, hqu, hE5⟩ := hpo.qu; dsimp only at hqu; have HQU := Lib.hid hqu; obtain ⟨ua, uc, rfl, _, _⟩ := hqu.1.reads; clear hqu hpo; go_wp2_with fail; refine hK.out _ _ ?_ (fun hHeld => ?_); rotate_left; clear hK K; (try simp only [Act.put, List.setIfInBounds_toArray, List.set_cons_zero, List.set_cons_succ]))
        rotate_left
        · exact ⟨hE5.cell hS.1, hE5.cell hS.2⟩
        clear hHeld HAL
        have E6 : Ext w5 (w5.alloc (.cells #[.int .i64 y1, .slice ua y2.length uc] 24)) := (by repeat (first | with_reducible exact Ext.refl _ | with_reducible assumption | with_reducible apply Ext.drewN | with_reducible apply Ext.drew | with_reducible apply Ext.alloc | ((with_reducible refine Ext.set ?_ ?_ _); rotate_left; first | omega | (simp; omega)) | (with_reducible refine Ext.trans ?_ (by with_reducible assumption))))
        (refine wpAnyE_one (i := 9) (o := ?_) ?_ (by kernel_rfl) (fun K hK => ?_); rotate_left; (focus ((simp only [List.getElem?_toArray, List.getElem?_cons_succ, List.getElem?_cons_zero]; exact rfl))); go_simp; refine hK.out _ _ ?_ (fun hHeld => ?_); rotate_left; clear hK K; (try simp only [Act.put, List.setIfInBounds_toArray, List.set_cons_zero, List.set_cons_succ]))
        rotate_left
        · exact ⟨E6.cell (hE5.cell hS.1), E6.cell (hE5.cell hS.2)⟩
        have F6 := (F4.trans hE5).trans E6
        have ho6 := (HO4.out.ext hE5).ext E6
        have HO6 := Lib.hid ho6
        have HU6 : Hid (QU (fun b => vv.ownBlock = some b) (w5.alloc (.cells #[.int .i64 y1, .slice ua y2.length uc] 24)) (.slice ua y2.length uc) y2) := (HQU.out.mono (fun b hb => by
          obtain ⟨ps, _, h2, _⟩ := HO4.out
          exact rowLt h2 hb)).chg (Chg.ext E6)
        clear ho6 HO4 HQU
        refine wpAnyE_one (i := 10) (o := ?_) ?_ (by kernel_rfl) (fun K hK => ?_)
        rotate_left
        · simp only [List.getElem?_toArray, List.getElem?_cons_succ, List.getElem?_cons_zero]; exact rfl
        refine step_append1 rfl _ _ 40 rfl 24 i0 (.agg #[.int .i64 0, .slice none 0 0]) 2 32 Tryz.underlying40 hi hi0 hi1 hi2 rfl (by decide) vv (partsK ((N : Int), l) k).length _ rfl (Classical.choose_spec HO6.out).2.1 ⟨w5.heap.size, 0, none⟩ 1 1 (by decide) [.int .i64 y1, .slice ua y2.length uc] rfl rfl (cells_one _ _ _) (by intro u hu; simp at hu; rcases hu with rfl | rfl <;> rfl) (by rw [hpk.out]; unfold maxLen; omega) (by rw [hpk.out]; omega) (fun v' w7 hown7 hend7 => ?_)
        have O7 : Hid (OwnsQ w7 v' (partsK ((N : Int), l) (k + 1))) := by
          show OwnsQ _ _ _
          rw [HMS2.out]
          exact HO6.out.app (y := (y1, y2)) HU6.out hown7 hend7
        have B7 : Below w1.heap.size (w5.alloc (.cells #[.int .i64 y1, .slice ua y2.length uc] 24)) w7 := hend7.below (n := w1.heap.size) F6.size HOB.out
        have V7 : Hid (∀ b, v'.ownBlock = some b → w1.heap.size ≤ b) := hend7.ge (n := w1.heap.size) F6.size HOB.out
        have F7 : Ext w1 w7 := F6.trans' B7 (Nat.le_refl _)
        refine hK.out _ _ ⟨F7.cell c0, F7.cell c1⟩ (fun hHeld => ?_)
        clear hK K hown7 hend7 HO6 HU6 HMS2 B7 F6
        simp only [Act.put, List.setIfInBounds_toArray, List.set_cons_zero, List.set_cons_succ]
        (refine wpAnyE_take (i := 11) (oi := ?_) (v := ?_) ?_ (by kernel_rfl) ?_ ?_ (by assumption) ?_; rotate_left 2; (focus ((simp only [List.getElem?_toArray, List.getElem?_cons_succ, List.getElem?_cons_zero]; exact rfl))); (focus (exact fun _ _ _ h => h)); (focus (refine Or.inl ⟨by rfl, ?_⟩; intro w hSw; (try dsimp only at hSw); (first | (go_simp; done) | (go_simp; with_reducible rfl)))); (try simp only [Act.put, List.setIfInBounds_toArray, List.set_cons_zero, List.set_cons_succ]))
        refine wpAnyE_done (by kernel_rfl) ?_ _
        go_wp2
        refine ⟨⟨k + 1, by omega, by go_num, ⟨v', rfl, O7.out, V7.out⟩, F7⟩, by simp [intOf]; omega⟩
      · rw [if_neg h1] at hen
        subst hen
        have hlt1 : ¬ ((k : Int) + 1 < (P.length : Int)) := by omega
        clear hP1 hq2
        go_wp2
        refine wp_region_heldE 99 (fun w' => w'.cell? ⟨w.heap.size, 0, none⟩ = some (.int .i64 (N : Int)) ∧ w'.cell? ⟨w.heap.size, 1, none⟩ = some (.slice (some ⟨b, off, none⟩) l.length cap)) (by kernel_rfl) ?_
        have ED : Ext wr wr.drew := (by repeat (first | with_reducible exact Ext.refl _ | with_reducible assumption | with_reducible apply Ext.drewN | with_reducible apply Ext.drew | with_reducible apply Ext.alloc | ((with_reducible refine Ext.set ?_ ?_ _); rotate_left; first | omega | (simp; omega)) | (with_reducible refine Ext.trans ?_ (by with_reducible assumption))))
        have E4 := E3.trans ED
        have F4 := he.trans ED
        have hS : wr.drew.cell? ⟨w.heap.size, 0, none⟩ = some (.int .i64 (N : Int)) ∧ wr.drew.cell? ⟨w.heap.size, 1, none⟩ = some (.slice (some ⟨b, off, none⟩) l.length cap) := ⟨ED.cell d0, ED.cell d1⟩
        have HO4 := Lib.hid (hO.out.1.ext ED)
        have HOB := Lib.hid hO.out.2
        clear hO d0 d1 q1
        generalize wr.drew = W4 at E4 F4 hS HO4 ⊢
        clear ED
        have hk1 : xn ≤ l.length := by omega
        have hk2 : l.length ≤ cap := by omega
        have hk3 : xn ≤ cap := by omega
        have hcapk : ¬ cap = xn := by omega
        ((refine wpAnyE_take (i := 0) (oi := ?_) (v := ?_) ?_ (by kernel_rfl) ?_ ?_ (by assumption) ?_; rotate_left 2; (focus ((simp only [List.getElem?_toArray, List.getElem?_cons_zero]; exact rfl))); (focus (exact fun _ _ _ h => h)); (focus (refine Or.inl ⟨by rfl, ?_⟩; intro w hSw; (try dsimp only at hSw); (first | (go_simp; done) | (go_simp; with_reducible rfl)))); (try simp only [Act.put, List.setIfInBounds_toArray, List.set_cons_zero, List.set_cons_succ])); (refine wpAnyE_take (i := 1) (oi := ?_) (v := ?_) ?_ (by kernel_rfl) ?_ ?_ (by assumption) ?_; rotate_left 2; (focus ((simp only [List.getElem?_toArray, List.getElem?_cons_succ, List.getElem?_cons_zero]; exact rfl))); (focus (exact fun _ _ _ h => h)); (focus (refine Or.inl ⟨by rfl, ?_⟩; intro w hSw; (try dsimp only at hSw); (first | (go_simp; done) | (go_simp; with_reducible rfl)))); (try simp only [Act.put, List.setIfInBounds_toArray, List.set_cons_zero, List.set_cons_succ])); (refine wpAnyE_take (i := 2) (oi := ?_) (v := ?_) ?_ (by kernel_rfl) ?_ ?_ (by assumption) ?_; rotate_left 2; (focus ((simp only [List.getElem?_toArray, List.getElem?_cons_succ, List.getElem?_cons_zero]; exact rfl))); (focus (exact fun _ _ _ h => h)); (focus (refine Or.inl ⟨by rfl, ?_⟩; intro w hSw; (try dsimp only at hSw); (first | (go_simp; done) | (go_simp; with_reducible rfl)))); (try simp only [Act.put, List.setIfInBounds_toArray, List.set_cons_zero, List.set_cons_succ])); (refine wpAnyE_take (i := 3) (oi := ?_) (v := ?_) ?_ (by kernel_rfl) ?_ ?_ (by assumption) ?_; rotate_left 2; (focus ((simp only [List.getElem?_toArray, List.getElem?_cons_succ, List.getElem?_cons_zero]; exact rfl))); (focus (exact fun _ _ _ h => h)); (focus (refine Or.inl ⟨by rfl, ?_⟩; intro w hSw; (try dsimp only at hSw); (first | (go_simp; done) | (go_simp; with_reducible rfl)))); (try simp only [Act.put, List.setIfInBounds_toArray, List.set_cons_zero, List.set_cons_succ])); (refine wpAnyE_take (i := 4) (oi := ?_) (v := ?_) ?_ (by kernel_rfl) ?_ ?_ (by assumption) ?_; rotate_left 2; (focus ((simp only [List.getElem?_toArray, List.getElem?_cons_succ, List.getElem?_cons_zero]; exact rfl))); (focus (exact fun _ _ _ h => h)); (focus (refine Or.inl ⟨by rfl, ?_⟩; intro w hSw; (try dsimp only at hSw); (first | (go_simp; done) | (go_simp; with_reducible rfl)))); (try simp only [Act.put, List.setIfInBounds_toArray, List.set_cons_zero, List.set_cons_succ])); (refine wpAnyE_take (i := 5) (oi := ?_) (v := ?_) ?_ (by kernel_rfl) ?_ ?_ (by assumption) ?_; rotate_left 2; (focus ((simp only [List.getElem?_toArray, List.getElem?_cons_succ, List.getElem?_cons_zero]; exact rfl))); (focus (exact fun _ _ _ h => h)); (focus (refine Or.inl ⟨by rfl, ?_⟩; intro w hSw; (try dsimp only at hSw); (first | (go_simp; done) | (go_simp; with_reducible rfl)))); (try simp only [Act.put, List.setIfInBounds_toArray, List.set_cons_zero, List.set_cons_succ])); (refine wpAnyE_take (i := 6) (oi := ?_) (v := ?_) ?_ (by kernel_rfl) ?_ ?_ (by assumption) ?_; rotate_left 2; (focus ((simp only [List.getElem?_toArray, List.getElem?_cons_succ, List.getElem?_cons_zero]; exact rfl))); (focus (exact fun _ _ _ h => h)); (focus (refine Or.inl ⟨by rfl, ?_⟩; intro w hSw; (try dsimp only at hSw); (first | (go_simp; done) | (go_simp; with_reducible rfl)))); (try simp only [Act.put, List.setIfInBounds_toArray, List.set_cons_zero, List.set_cons_succ])); (refine wpAnyE_take (i := 7) (oi := ?_) (v := ?_) ?_ (by kernel_rfl) ?_ ?_ (by assumption) ?_; rotate_left 2; (focus ((simp only [List.getElem?_toArray, List.getElem?_cons_succ, List.getElem?_cons_zero]; exact rfl))); (focus (exact fun _ _ _ h => h)); (focus (refine Or.inl ⟨by rfl, ?_⟩; intro w hSw; (try dsimp only at hSw); (first | (go_simp; done) | (go_simp; with_reducible rfl)))); (try simp only [Act.put, List.setIfInBounds_toArray, List.set_cons_zero, List.set_cons_succ])))
        clear hk1 hk2 hk3 hcapk
        have hsl : ((l.take l.length).drop xn).length = l.length - xn := by rw [List.length_drop, List.length_take]; omega
        have HAL := Lib.hid (alone_any N ((l.take l.length).drop xn) (some ⟨b, off + xn * 2, none⟩) (cap - xn) W4 (by omega) (by omega) (HFI.out.part l.length xn) (((HC.out.ext E4).take l.length).drop xn))
        rw [hsl] at HAL
        have HMS2 : Hid (partsK ((N : Int), l) (k + 1) = partsK ((N : Int), l) k ++ [partOf (N : Int) ((l.take l.length).drop xn)]) := HMS.out
        generalize partOf (N : Int) ((l.take l.length).drop xn) = y at HAL HMS2
        obtain ⟨y1, y2⟩ := y
        clear hsl HMS
        (refine wpAnyE_one (i := 8) (o := ?_) ?_ (by kernel_rfl) (fun K hK => ?_); rotate_left; (focus ((simp only [List.getElem?_toArray, List.getElem?_cons_succ, List.getElem?_cons_zero]; exact rfl))); go_simp; refine HAL.out.mono ?_; rintro e w5 hpo; obtain ⟨u, rfl, hqu, hE5⟩ := hpo.qu; dsimp only at hqu; have HQU := Lib.hid hqu; obtain ⟨ua, uc, rfl, _, _⟩ := hqu.1.reads; clear hqu hpo; go_wp2_with fail; refine hK.out _ _ ?_ (fun hHeld => ?_); rotate_left; clear hK K; (try simp only [Act.put, List.setIfInBounds_toArray, List.set_cons_zero, List.set_cons_succ]))
        rotate_left
        · exact ⟨hE5.cell hS.1, hE5.cell hS.2⟩
        clear hHeld HAL
        have E6 : Ext w5 (w5.alloc (.cells #[.int .i64 y1, .slice ua y2.length uc] 24)) := (by repeat (first | with_reducible exact Ext.refl _ | with_reducible assumption | with_reducible apply Ext.drewN | with_reducible apply Ext.drew | with_reducible apply Ext.alloc | ((with_reducible refine Ext.set ?_ ?_ _); rotate_left; first | omega | (simp; omega)) | (with_reducible refine Ext.trans ?_ (by with_reducible assumption))))
        (refine wpAnyE_one (i := 9) (o := ?_) ?_ (by kernel_rfl) (fun K hK => ?_); rotate_left; (focus ((simp only [List.getElem?_toArray, List.getElem?_cons_succ, List.getElem?_cons_zero]; exact rfl))); go_simp; refine hK.out _ _ ?_ (fun hHeld => ?_); rotate_left; clear hK K; (try simp only [Act.put, List.setIfInBounds_toArray, List.set_cons_zero, List.set_cons_succ]))
        rotate_left
        · exact ⟨E6.cell (hE5.cell hS.1), E6.cell (hE5.cell hS.2)⟩
        have F6 := (F4.trans hE5).trans E6
        have ho6 := (HO4.out.ext hE5).ext E6
        have HO6 := Lib.hid ho6
        have HU6 : Hid (QU (fun b => vv.ownBlock = some b) (w5.alloc (.cells #[.int .i64 y1, .slice ua y2.length uc] 24)) (.slice ua y2.length uc) y2) := (HQU.out.mono (fun b hb => by
          obtain ⟨ps, _, h2, _⟩ := HO4.out
          exact rowLt h2 hb)).chg (Chg.ext E6)
        clear ho6 HO4 HQU
        refine wpAnyE_one (i := 10) (o := ?_) ?_ (by kernel_rfl) (fun K hK => ?_)
        rotate_left
        · simp only [List.getElem?_toArray, List.getElem?_cons_succ, List.getElem?_cons_zero]; exact rfl
        refine step_append1 rfl _ _ 40 rfl 24 i0 (.agg #[.int .i64 0, .slice none 0 0]) 2 32 Tryz.underlying40 hi hi0 hi1 hi2 rfl (by decide) vv (partsK ((N : Int), l) k).length _ rfl (Classical.choose_spec HO6.out).2.1 ⟨w5.heap.size, 0, none⟩ 1 1 (by decide) [.int .i64 y1, .slice ua y2.length uc] rfl rfl (cells_one _ _ _) (by intro u hu; simp at hu; rcases hu with rfl | rfl <;> rfl) (by rw [hpk.out]; unfold maxLen; omega) (by rw [hpk.out]; omega) (fun v' w7 hown7 hend7 => ?_)
        have O7 : Hid (OwnsQ w7 v' (partsK ((N : Int), l) (k + 1))) := by
          show OwnsQ _ _ _
          rw [HMS2.out]
          exact HO6.out.app (y := (y1, y2)) HU6.out hown7 hend7
        have B7 : Below w1.heap.size (w5.alloc (.cells #[.int .i64 y1, .slice ua y2.length uc] 24)) w7 := hend7.below (n := w1.heap.size) F6.size HOB.out
        have V7 : Hid (∀ b, v'.ownBlock = some b → w1.heap.size ≤ b) := hend7.ge (n := w1.heap.size) F6.size HOB.out
        have F7 : Ext w1 w7 := F6.trans' B7 (Nat.le_refl _)
        refine hK.out _ _ ⟨F7.cell c0, F7.cell c1⟩ (fun hHeld => ?_)
        clear hK K hown7 hend7 HO6 HU6 HMS2 B7 F6
        simp only [Act.put, List.setIfInBounds_toArray, List.set_cons_zero, List.set_cons_succ]
        (refine wpAnyE_take (i := 11) (oi := ?_) (v := ?_) ?_ (by kernel_rfl) ?_ ?_ (by assumption) ?_; rotate_left 2; (focus ((simp only [List.getElem?_toArray, List.getElem?_cons_succ, List.getElem?_cons_zero]; exact rfl))); (focus (exact fun _ _ _ h => h)); (focus (refine Or.inl ⟨by rfl, ?_⟩; intro w hSw; (try dsimp only at hSw); (first | (go_simp; done) | (go_simp; with_reducible rfl)))); (try simp only [Act.put, List.setIfInBounds_toArray, List.set_cons_zero, List.set_cons_succ]))
        refine wpAnyE_done (by kernel_rfl) ?_ _
        go_wp2
        refine ⟨⟨k + 1, by omega, by go_num, ⟨v', rfl, O7.out, V7.out⟩, F7⟩, by simp [intOf]; omega⟩
    · have hke : k = P.length := by omega
      subst hke
      obtain ⟨ra, rc, hrv, hrc, hrl⟩ := hO.out.1.reads
      rw [← HR.out] at hrv hrc hrl
      have HRC := Lib.hid hrc
      subst hrv
      clear hrc hO
      go_wp2
      go_ret2
      exact ⟨ra, rc, rfl, HRC.out, hrl, E3⟩
set_option maxHeartbeats 4000000 in
theorem Parts_any (n : Int) (l : List Stp) (a : Option Addr) (cap : Nat) (w : World) (hl : l.length ≤ maxLen) (hc : CellsP w a l) (hr : Room a l.length cap) :
    Calls Tryz.prog 21 #[.agg #[.int .i64 n, .slice a l.length cap]] w (SeqsPost (if ckSeq (n, l) = 0 then partsOf (n, l) else []) (ckSeq (n, l)) w) := by
  by_cases hk : ckSeq (n, l) = 0
  · obtain ⟨hN1, hN6, hl0, _⟩ := ckSeq_zero hk
    obtain ⟨N, rfl⟩ := Int.eq_ofNat_of_zero_le (show 0 ≤ n by omega)
    obtain ⟨h1, h2, h3⟩ := hr
    obtain ⟨b, off, rfl⟩ := h3 hl0
    rw [if_pos hk, hk]
    exact Parts_ok N l b off cap w hl hc h1 h2 hk
  · rw [if_neg hk]
    have HC := Lib.hid hc
    have HL := Lib.hid hl
    clear hc hl
    have hk' : (ckSeq (n, l) != 0) = true := by simp [hk]
    have HPZ := Lib.hid (fun W h => Pauses_any n l a cap W HL.out h)
    rw [if_neg hk] at HPZ
    clear hk
    generalize ckSeq (n, l) = x at hk' HPZ ⊢
    go_enter Tryz.func21, Tryz.ntmps21
    go_wp2_with fail
    have E1 : Ext w (w.alloc (.cells #[.int .i64 n, .slice a l.length cap] 24)) := (by repeat (first | with_reducible exact Ext.refl _ | with_reducible assumption | with_reducible apply Ext.drewN | with_reducible apply Ext.drew | with_reducible apply Ext.alloc | ((with_reducible refine Ext.set ?_ ?_ _); rotate_left; first | omega | (simp; omega)) | (with_reducible refine Ext.trans ?_ (by with_reducible assumption))))
    refine (HPZ.out _ (HC.out.ext E1)).mono ?_
    rintro e w1 ⟨pa, pc, rfl, _, _, hE⟩
    go_wp2
    go_ret2
    exact ⟨none, 0, rfl, CellsQ.nil _ _, by simp, E1.trans hE⟩
end Go.Proofs.YtnhbogmihnnpjaaGreat
/- The examples of the chapter, in plain terms. (Printed by wip/genaw.py.) -/
namespace Go.Proofs.YtnhbogmihnnpjaaGreat
open Go.RowKit

def qa : Sq := (2, [([(1, true)], 0), ([(0, true)], 0), ([(0, false)], 0), ([(1, false)], 0)])
theorem qa_text : sqL (ByteArray.mk #[66, 43, 59, 32, 65, 43, 59, 32, 65, 45, 59, 32, 66, 45]).toList = some qa := by rw [ByteArray.toList_eq]; decide +kernel
def qb : Sq := (2, [([(0, true)], 0), ([(1, true)], 0), ([(1, false)], 0), ([(0, false)], 0)])
theorem qb_text : sqL (ByteArray.mk #[65, 43, 59, 32, 66, 43, 59, 32, 66, 45, 59, 32, 65, 45]).toList = some qb := by rw [ByteArray.toList_eq]; decide +kernel
def qc : Sq := (2, [([(0, true)], 0), ([(0, false)], 0), ([(1, true)], 0), ([(1, false)], 50)])
theorem qc_text : sqL (ByteArray.mk #[65, 43, 59, 32, 65, 45, 59, 32, 66, 43, 59, 32, 66, 45, 32, 53, 48]).toList = some qc := by rw [ByteArray.toList_eq]; decide +kernel
def qd : Sq := (2, [([(0, true)], 20), ([(1, true)], 0), ([(1, false)], 30), ([(0, false)], 0)])
theorem qd_text : sqL (ByteArray.mk #[65, 43, 32, 50, 48, 59, 32, 66, 43, 59, 32, 66, 45, 32, 51, 48, 59, 32, 65, 45]).toList = some qd := by rw [ByteArray.toList_eq]; decide +kernel
def qe : Sq := (2, [([(1, true)], 0), ([(1, false)], 50), ([(0, true)], 0), ([(0, false)], 0)])
theorem qe_text : sqL (ByteArray.mk #[66, 43, 59, 32, 66, 45, 32, 53, 48, 59, 32, 65, 43, 59, 32, 65, 45]).toList = some qe := by rw [ByteArray.toList_eq]; decide +kernel
def qf : Sq := (1, [([(0, true)], 0), ([(0, false)], 0)])
theorem qf_text : sqL (ByteArray.mk #[65, 43, 59, 32, 65, 45]).toList = some qf := by rw [ByteArray.toList_eq]; decide +kernel
def qg : Sq := (1, [([(0, true)], 0), ([(0, false)], 50)])
theorem qg_text : sqL (ByteArray.mk #[65, 43, 59, 32, 65, 45, 32, 53, 48]).toList = some qg := by rw [ByteArray.toList_eq]; decide +kernel
def qh : Sq := (2, [([(0, true)], 30), ([(1, true)], 0), ([(1, false)], 20), ([(0, false)], 0)])
theorem qh_text : sqL (ByteArray.mk #[65, 43, 32, 51, 48, 59, 32, 66, 43, 59, 32, 66, 45, 32, 50, 48, 59, 32, 65, 45]).toList = some qh := by rw [ByteArray.toList_eq]; decide +kernel
def qi : Sq := (2, [([(0, true)], 0), ([(1, true)], 0), ([(0, false)], 0), ([(1, false)], 10)])
theorem qi_text : sqL (ByteArray.mk #[65, 43, 59, 32, 66, 43, 59, 32, 65, 45, 59, 32, 66, 45, 32, 49, 48]).toList = some qi := by rw [ByteArray.toList_eq]; decide +kernel
def qj : Sq := (2, [([(0, true), (1, true)], 0), ([(0, false)], 0), ([(1, false)], 10)])
theorem qj_text : sqL (ByteArray.mk #[65, 43, 32, 66, 43, 59, 32, 65, 45, 59, 32, 66, 45, 32, 49, 48]).toList = some qj := by rw [ByteArray.toList_eq]; decide +kernel
def qk : Sq := (2, [([(0, true)], 0), ([(0, false), (1, true)], 0), ([(1, false)], 10)])
theorem qk_text : sqL (ByteArray.mk #[65, 43, 59, 32, 65, 45, 32, 66, 43, 59, 32, 66, 45, 32, 49, 48]).toList = some qk := by rw [ByteArray.toList_eq]; decide +kernel
def l10 : List Int := [1, 0]
def l02 : List Int := [0, 2]
def lfg : List Sq := [qf, qg]
theorem aw_std : ckSeq (qa.1, qa.2) = 0 ∧ standard (qa.1, qa.2) = qb ∧ lettersOf (qa.1, qa.2) = l10 := by decide +kernel
theorem aw_alike : alikeE (qa.1, qa.2) (qb.1, qb.2) = 0 ∧ alikeB (qa.1, qa.2) (qb.1, qb.2) = true := by decide +kernel
theorem aw_pauses : ckSeq (qc.1, qc.2) = 0 ∧ pauses (qc.1, qc.2) = l02 := by decide +kernel
theorem aw_from : fromE (qc.1, qc.2) 2 = 0 ∧ turned (qc.1, qc.2) (2 : Int).toNat = qe := by decide +kernel
theorem aw_parts : partsOf (qc.1, qc.2) = lfg := by decide +kernel
theorem aw_back : ckSeq (qd.1, qd.2) = 0 ∧ backwards (qd.1, qd.2) = qh := by decide +kernel
theorem aw_m0 : mergeE (qi.1, qi.2) 0 = 0 ∧ merged (qi.1, qi.2) (0 : Int).toNat = qj := by decide +kernel
theorem aw_m1 : mergeE (qi.1, qi.2) 1 = 0 ∧ merged (qi.1, qi.2) (1 : Int).toNat = qk := by decide +kernel

theorem qa_len : qa.2.length ≤ maxLen := by decide
theorem qb_len : qb.2.length ≤ maxLen := by decide
theorem qc_len : qc.2.length ≤ maxLen := by decide
theorem qd_len : qd.2.length ≤ maxLen := by decide
theorem qe_len : qe.2.length ≤ maxLen := by decide
theorem qf_len : qf.2.length ≤ maxLen := by decide
theorem qg_len : qg.2.length ≤ maxLen := by decide
theorem qh_len : qh.2.length ≤ maxLen := by decide
theorem qi_len : qi.2.length ≤ maxLen := by decide
theorem qj_len : qj.2.length ≤ maxLen := by decide
theorem qk_len : qk.2.length ≤ maxLen := by decide
/-- a sequence at an address -/
def QPost (q : Sq) (w : World) (e : Ending) (w' : World) : Prop := ∃ a cap, e = .returned (.tuple #[.agg #[.int .i64 q.1, .slice a q.2.length cap], .int .i64 0]) ∧ CellsP w' a q.2 ∧ Ext w w'
theorem SeqErr.q {s q : Sq} {er : Int} {w : World} {e : Ending} {w' : World} (h : SeqErr s er w e w') (hs : s = q) (he : er = 0) : QPost q w e w' := by
  subst hs
  subst he
  obtain ⟨v, rfl, ⟨u, rfl, a, cap, rfl, hc, _⟩, hE⟩ := h
  exact ⟨a, cap, rfl, hc, hE⟩
theorem aw_Standard (a : Option Addr) (cap : Nat) (w : World) (hc : CellsP w a qa.2) : Calls Tryz.prog 34 #[.agg #[.int .i64 qa.1, .slice a qa.2.length cap]] w fun e w' => ∃ b c ta tc, e = .returned (.tuple #[.agg #[.int .i64 qb.1, .slice b qb.2.length c], .slice ta l10.length tc, .int .i64 0]) ∧ CellsP w' b qb.2 ∧ CellsI w' ta l10 ∧ Ext w w' :=
  (Standard_any qa.1 qa.2 a cap w qa_len hc).mono fun e w' h => by
    rw [if_pos aw_std.1, if_pos aw_std.1, aw_std.2.1, aw_std.2.2, aw_std.1] at h
    obtain ⟨v, ta, tc, rfl, ⟨u, rfl, b, c, rfl, hc, _⟩, hi, _, hE⟩ := h
    exact ⟨b, c, ta, tc, rfl, hc, hi, hE⟩
theorem aw_Alike (a b : Option Addr) (ca cb : Nat) (w : World) (hc : CellsP w a qa.2) (hd : CellsP w b qb.2) : Calls Tryz.prog 28 #[.agg #[.int .i64 qa.1, .slice a qa.2.length ca], .agg #[.int .i64 qb.1, .slice b qb.2.length cb]] w fun r w' => r = .returned (.tuple #[.bool true, .int .i64 0]) ∧ Ext w w' :=
  (Alike_any qa.1 qb.1 qa.2 qb.2 a b ca cb w qa_len hc qb_len hd).mono fun e w' h => by
    rw [aw_alike.1, aw_alike.2] at h
    exact h
theorem aw_Pauses (a : Option Addr) (cap : Nat) (w : World) (hc : CellsP w a qc.2) : Calls Tryz.prog 13 #[.agg #[.int .i64 qc.1, .slice a qc.2.length cap]] w fun e w' => ∃ ta tc, e = .returned (.tuple #[.slice ta l02.length tc, .int .i64 0]) ∧ CellsI w' ta l02 ∧ Ext w w' :=
  (Pauses_any qc.1 qc.2 a cap w qc_len hc).mono fun e w' h => by
    rw [if_pos aw_pauses.1, aw_pauses.2, aw_pauses.1] at h
    obtain ⟨ta, tc, rfl, hi, _, hE⟩ := h
    exact ⟨ta, tc, rfl, hi, hE⟩
theorem aw_From (a : Option Addr) (cap : Nat) (w : World) (hc : CellsP w a qc.2) (hr : Room a qc.2.length cap) : Calls Tryz.prog 15 #[.agg #[.int .i64 qc.1, .slice a qc.2.length cap], .int .i64 2] w (QPost qe w) :=
  (From_any qc.1 qc.2 2 a cap w qc_len hc hr).mono fun e w' h => h.q (by rw [if_pos aw_from.1]; exact aw_from.2) aw_from.1
theorem aw_Parts (a : Option Addr) (cap : Nat) (w : World) (hc : CellsP w a qc.2) (hr : Room a qc.2.length cap) : Calls Tryz.prog 21 #[.agg #[.int .i64 qc.1, .slice a qc.2.length cap]] w fun e w' => ∃ ta tc, e = .returned (.tuple #[.slice ta lfg.length tc, .int .i64 0]) ∧ CellsQ w' ta lfg ∧ Ext w w' :=
  (Parts_any qc.1 qc.2 a cap w qc_len hc hr).mono fun e w' h => by
    rw [if_pos aw_pauses.1, aw_parts, aw_pauses.1] at h
    obtain ⟨ta, tc, rfl, hi, _, hE⟩ := h
    exact ⟨ta, tc, rfl, hi, hE⟩
theorem aw_Back (a : Option Addr) (cap : Nat) (w : World) (hc : CellsP w a qd.2) : Calls Tryz.prog 23 #[.agg #[.int .i64 qd.1, .slice a qd.2.length cap]] w (QPost qh w) :=
  (Backwards_any qd.1 qd.2 a cap w qd_len hc).mono fun e w' h => h.q (by rw [if_pos aw_back.1]; exact aw_back.2) aw_back.1
theorem aw_Merge0 (a : Option Addr) (cap : Nat) (w : World) (hc : CellsP w a qi.2) : Calls Tryz.prog 19 #[.agg #[.int .i64 qi.1, .slice a qi.2.length cap], .int .i64 0] w (QPost qj w) :=
  (Merge_any qi.1 qi.2 0 a cap w qi_len hc).mono fun e w' h => h.q (by rw [if_pos aw_m0.1]; exact aw_m0.2) aw_m0.1
theorem aw_Merge1 (a : Option Addr) (cap : Nat) (w : World) (hc : CellsP w a qi.2) : Calls Tryz.prog 19 #[.agg #[.int .i64 qi.1, .slice a qi.2.length cap], .int .i64 1] w (QPost qk w) :=
  (Merge_any qi.1 qi.2 1 a cap w qi_len hc).mono fun e w' h => h.q (by rw [if_pos aw_m1.1]; exact aw_m1.2) aw_m1.1
theorem aw_Same (q : Sq) (hq : q.2.length ≤ maxLen) (a b : Option Addr) (ca cb : Nat) (w : World) (hc : CellsP w a q.2) (hd : CellsP w b q.2) : Calls Tryz.prog 18 #[.agg #[.int .i64 q.1, .slice a q.2.length ca], .agg #[.int .i64 q.1, .slice b q.2.length cb]] w fun r w' => r = .returned (.bool true) ∧ Ext w w' :=
  (SameQ_any q.1 q.1 q.2 q.2 a b ca cb w hq hc hq hd).mono fun e w' h => ⟨by rw [h.1]; simp, h.2⟩
theorem aw_SameAll (a b : Option Addr) (ca cb : Nat) (w : World) (hc : CellsQ w a lfg) (hd : CellsQ w b lfg) : Calls Tryz.prog 25 #[.slice a lfg.length ca, .slice b lfg.length cb] w fun r w' => r = .returned (.bool true) ∧ Ext w w' :=
  (SameAll_any lfg lfg a b ca cb w (by decide) hc (by decide) hd).mono fun e w' h => ⟨by rw [h.1]; simp, h.2⟩
theorem aw_Equal (l : List Int) (hl : l.length ≤ maxLen) (a b : Option Addr) (ca cb : Nat) (w : World) (hc : CellsI w a l) (hd : CellsI w b l) : Calls Tryz.prog 17 #[.slice a l.length ca, .slice b l.length cb] w fun r w' => r = .returned (.bool true) ∧ Ext w w' :=
  (EqualInt_any l l a b ca cb w hl hc hl hd).mono fun e w' h => ⟨by rw [h.1]; simp, h.2⟩
end Go.Proofs.YtnhbogmihnnpjaaGreat
/- The examples of the chapter: the walk of awake. -/
namespace Go.Proofs.YtnhbogmihnnpjaaGreat
open Go.RowKit

theorem cellsI_two {w : World} {b : Nat} {x y : Int} (h : w.cell? ⟨b, 0, none⟩ = some (.int .i64 x)) (k : w.cell? ⟨b, 1, none⟩ = some (.int .i64 y)) : CellsI w (some ⟨b, 0, none⟩) [x, y] := fun i hi => by
  have : i = 0 ∨ i = 1 := by simp at hi; omega
  rcases this with rfl | rfl
  · exact ⟨b, 0, rfl, by simpa using h⟩
  · exact ⟨b, 0, rfl, by simpa using k⟩

theorem cellsQ_two {w : World} {b : Nat} {p q : Sq} {pa qa' : Option Addr} {pc qc' : Nat} (h1 : w.cell? ⟨b, 0, none⟩ = some (.int .i64 p.1)) (h2 : w.cell? ⟨b, 1, none⟩ = some (.slice pa p.2.length pc)) (h3 : w.cell? ⟨b, 2, none⟩ = some (.int .i64 q.1)) (h4 : w.cell? ⟨b, 3, none⟩ = some (.slice qa' q.2.length qc'))
    (hp : CellsP w pa p.2) (hq : CellsP w qa' q.2) (lp : Room pa p.2.length pc) (lq : Room qa' q.2.length qc') : CellsQ w (some ⟨b, 0, none⟩) [p, q] := fun i hi => by
  have : i = 0 ∨ i = 1 := by simp at hi; omega
  rcases this with rfl | rfl
  · exact ⟨b, 0, _, rfl, by simpa using h1, by simpa using h2, ⟨pa, pc, rfl, hp, lp⟩⟩
  · exact ⟨b, 0, _, rfl, by simpa using h3, by simpa using h4, ⟨qa', qc', rfl, hq, lq⟩⟩
theorem cellsQ_new {w : World} {p q : Sq} {pa ra : Option Addr} {pc rc : Nat} (lp : Room pa p.2.length pc) (lq : Room ra q.2.length rc) (hp : CellsP w pa p.2) (hq : CellsP w ra q.2) :
    CellsQ (w.alloc (.cells #[.int .i64 p.1, .slice pa p.2.length pc, .int .i64 q.1, .slice ra q.2.length rc] 24)) (some ⟨w.heap.size, 0, none⟩) [p, q] := by
  have E : Ext w (w.alloc (.cells #[.int .i64 p.1, .slice pa p.2.length pc, .int .i64 q.1, .slice ra q.2.length rc] 24)) := (by repeat (first | with_reducible exact Ext.refl _ | with_reducible assumption | with_reducible apply Ext.drewN | with_reducible apply Ext.drew | with_reducible apply Ext.alloc | ((with_reducible refine Ext.set ?_ ?_ _); rotate_left; first | omega | (simp; omega)) | (with_reducible refine Ext.trans ?_ (by with_reducible assumption))))
  exact cellsQ_two (p := p) (q := q) (pa := pa) (qa' := ra) (pc := pc) (qc' := rc) (by go_simp) (by go_simp) (by go_simp) (by go_simp) (hp.ext E) (hq.ext E) lp lq
set_option maxHeartbeats 8000000 in
set_option maxRecDepth 100000 in
theorem awake_any (w : World) : Calls Tryz.prog 12 #[] w fun e w' => e = .returned (.bool true) ∧ Ext w w' := by
  go_enter Tryz.func12, Tryz.ntmps12
  go_wp2_with fail
  refine (parsed_any _ qa _ qa_text).mono ?_
  rintro e w1 ⟨a1, d1, rfl, hc1, _, _, hE1⟩
  have HC1 := Lib.hid hc1
  clear hc1
  go_wp2_with fail
  refine (aw_Standard a1 d1 _ HC1.out).mono ?_
  rintro e w2 ⟨a2, d2, ta, tc, rfl, hc2, hi2, hE2⟩
  have HC2 := Lib.hid hc2
  have HI2 := Lib.hid hi2
  have F2 := hE1.trans hE2
  clear hc2 hi2 hE1 hE2 HC1
  go_wp2_with fail
  have E3 : Ext w2 (w2.alloc (.cells #[.int .i64 qb.1, .slice a2 qb.2.length d2] 24)) := (by repeat (first | with_reducible exact Ext.refl _ | with_reducible assumption | with_reducible apply Ext.drewN | with_reducible apply Ext.drew | with_reducible apply Ext.alloc | ((with_reducible refine Ext.set ?_ ?_ _); rotate_left; first | omega | (simp; omega)) | (with_reducible refine Ext.trans ?_ (by with_reducible assumption))))
  have s0 : (w2.alloc (.cells #[.int .i64 qb.1, .slice a2 qb.2.length d2] 24)).cell? ⟨w2.heap.size, 0, none⟩ = some (.int .i64 qb.1) := by go_simp
  have s1 : (w2.alloc (.cells #[.int .i64 qb.1, .slice a2 qb.2.length d2] 24)).cell? ⟨w2.heap.size, 1, none⟩ = some (.slice a2 qb.2.length d2) := by go_simp
  have HC3 := Lib.hid (HC2.out.ext E3)
  have HI3 := Lib.hid (HI2.out.ext E3)
  have F3 := F2.trans E3
  clear E3 HC2 HI2 F2
  obtain ⟨sb, hsb⟩ : ∃ sb, sb = w2.heap.size := ⟨_, rfl⟩
  rw [← hsb] at s0 s1 ⊢
  clear hsb
  generalize (w2.alloc (.cells #[.int .i64 qb.1, .slice a2 qb.2.length d2] 24)) = W3 at s0 s1 HC3 HI3 F3 ⊢
  refine (parsed_any _ qa _ qa_text).mono ?_
  rintro e w4 ⟨a4, d4, rfl, hc4, _, _, hE4⟩
  have HC4 := Lib.hid hc4
  clear hc4
  go_wp2_with fail
  refine (parsed_any _ qb _ qb_text).mono ?_
  rintro e w5 ⟨a5, d5, rfl, hc5, _, _, hE5⟩
  have HC5 := Lib.hid hc5
  have HC4 := Lib.hid (HC4.out.ext hE5)
  clear hc5
  go_wp2_with fail
  refine (aw_Alike a4 a5 d4 d5 _ HC4.out HC5.out).mono ?_
  rintro e w6 ⟨rfl, hE6⟩
  have G6 := (hE4.trans hE5).trans hE6
  have F6 := F3.trans G6
  have s0 := G6.cell s0
  have s1 := G6.cell s1
  have HC6 := Lib.hid (HC3.out.ext G6)
  have HI6 := Lib.hid (HI3.out.ext G6)
  clear hE4 hE5 hE6 HC4 HC5 G6 HC3 HI3 F3
  have z6 := cell_lt s0
  dsimp only at z6
  go_wp2_with fail
  go_region_held3 (fun w' => Sees w6 w') ((repeat (first | exact Sees.refl _ | assumption | apply Sees.store | apply Sees.drew | apply Sees.alloc | (refine Sees.ext ?_ (by assumption))))) (first | (go_at_call 17; refine (aw_Equal l10 (by decide) ta _ tc _ _ (HI6.out.ext (by exact (show Sees w6 _ by assumption).2.2)) (cellsI_two (by go_simp) (by go_simp))).mono ?_; rintro e w7 ⟨rfl, hE7⟩) | (go_at_call 45; refine (parsed_any _ qb _ qb_text).mono ?_; rintro e w8 ⟨a8, d8, rfl, hc8, _, _, hE8⟩) | (go_at_call 18; refine (aw_Same qb qb_len a2 _ d2 _ _ (HC6.out.ext (by exact (show Sees w6 _ by assumption).2.2)) (by assumption)).mono ?_; rintro e w9 ⟨rfl, hE9⟩))
  have hS := (show Sees w6 _ by assumption).2.2
  have F7 := F6.trans hS
  clear hS F6 s0 s1 HC6 HI6 z6 hE7 hE8 hE9 hc8
  generalize w9 = W7 at F7 ⊢
  go_wp2_with fail
  refine (parsed_any _ qc _ qc_text).mono ?_
  rintro e w1 ⟨a1, d1, rfl, hc1, _, hr1, hE1⟩
  have HC1 := Lib.hid hc1
  have HR1 := Lib.hid hr1
  clear hc1 hr1
  go_wp2_with fail
  have E8 : Ext w1 (w1.alloc (.cells #[.int .i64 qc.1, .slice a1 qc.2.length d1] 24)) := (by repeat (first | with_reducible exact Ext.refl _ | with_reducible assumption | with_reducible apply Ext.drewN | with_reducible apply Ext.drew | with_reducible apply Ext.alloc | ((with_reducible refine Ext.set ?_ ?_ _); rotate_left; first | omega | (simp; omega)) | (with_reducible refine Ext.trans ?_ (by with_reducible assumption))))
  have s0 : (w1.alloc (.cells #[.int .i64 qc.1, .slice a1 qc.2.length d1] 24)).cell? ⟨w1.heap.size, 0, none⟩ = some (.int .i64 qc.1) := by go_simp
  have s1 : (w1.alloc (.cells #[.int .i64 qc.1, .slice a1 qc.2.length d1] 24)).cell? ⟨w1.heap.size, 1, none⟩ = some (.slice a1 qc.2.length d1) := by go_simp
  have HC8 := Lib.hid (HC1.out.ext E8)
  have F8 := (F7.trans hE1).trans E8
  clear E8 HC1 F7 hE1
  obtain ⟨bc, hbc⟩ : ∃ bc, bc = w1.heap.size := ⟨_, rfl⟩
  rw [← hbc] at s0 s1 ⊢
  clear hbc
  generalize (w1.alloc (.cells #[.int .i64 qc.1, .slice a1 qc.2.length d1] 24)) = W8 at s0 s1 HC8 F8 ⊢
  refine (aw_Pauses a1 d1 _ HC8.out).mono ?_
  rintro e W9 ⟨tp, tq, rfl, hi9, hE⟩
  have HI9 := Lib.hid hi9
  have HC9 := Lib.hid (HC8.out.ext hE)
  have s0 := hE.cell s0
  have s1 := hE.cell s1
  have F9 := F8.trans hE
  clear hi9 hE HC8 F8
  go_wp2_with fail
  refine (aw_From a1 d1 _ HC9.out HR1.out).mono ?_
  rintro e w10 ⟨a10, d10, rfl, hc10, hE⟩
  have HC10 := Lib.hid hc10
  clear hc10
  have s0 := hE.cell s0
  have s1 := hE.cell s1
  have z10 := cell_lt s0
  dsimp only at z10
  go_wp2_with fail
  have E11 : Ext w10 (w10.alloc (.cells #[.int .i64 qe.1, .slice a10 qe.2.length d10] 24)) := (by repeat (first | with_reducible exact Ext.refl _ | with_reducible assumption | with_reducible apply Ext.drewN | with_reducible apply Ext.drew | with_reducible apply Ext.alloc | ((with_reducible refine Ext.set ?_ ?_ _); rotate_left; first | omega | (simp; omega)) | (with_reducible refine Ext.trans ?_ (by with_reducible assumption))))
  have r0 : (w10.alloc (.cells #[.int .i64 qe.1, .slice a10 qe.2.length d10] 24)).cell? ⟨w10.heap.size, 0, none⟩ = some (.int .i64 qe.1) := by go_simp
  have r1 : (w10.alloc (.cells #[.int .i64 qe.1, .slice a10 qe.2.length d10] 24)).cell? ⟨w10.heap.size, 1, none⟩ = some (.slice a10 qe.2.length d10) := by go_simp
  have G := hE.trans E11
  have s0 := E11.cell s0
  have s1 := E11.cell s1
  have HI11 := Lib.hid (HI9.out.ext G)
  have HQ11 := Lib.hid (HC10.out.ext E11)
  have HC11 := Lib.hid (HC9.out.ext G)
  have F11 := F9.trans G
  clear hE E11 G HI9 HC9 HC10 F9 z10
  obtain ⟨be, hbe⟩ : ∃ be, be = w10.heap.size := ⟨_, rfl⟩
  rw [← hbe] at r0 r1 ⊢
  clear hbe
  generalize (w10.alloc (.cells #[.int .i64 qe.1, .slice a10 qe.2.length d10] 24)) = W11 at r0 r1 s0 s1 HI11 HQ11 HC11 F11 ⊢
  refine (aw_Parts a1 d1 _ HC11.out HR1.out).mono ?_
  rintro e W12 ⟨tg, th, rfl, hq12, hE⟩
  have HP12 := Lib.hid hq12
  have r0 := hE.cell r0
  have r1 := hE.cell r1
  have HI12 := Lib.hid (HI11.out.ext hE)
  have HQ12 := Lib.hid (HQ11.out.ext hE)
  have F12 := F11.trans hE
  clear hq12 hE HI11 HQ11 HC11 F11 s0 s1 HR1
  go_wp2_with fail
  refine (parsed_any _ qd _ qd_text).mono ?_
  rintro e w13 ⟨a13, d13, rfl, hc13, _, _, hE13⟩
  have HC13 := Lib.hid hc13
  clear hc13
  go_wp2_with fail
  refine (aw_Back a13 d13 _ HC13.out).mono ?_
  rintro e w14 ⟨a14, d14, rfl, hc14, hE14⟩
  have HC14 := Lib.hid hc14
  have G := hE13.trans hE14
  have r0 := G.cell r0
  have r1 := G.cell r1
  have HI14 := Lib.hid (HI12.out.ext G)
  have HQ14 := Lib.hid (HQ12.out.ext G)
  have HP14 := Lib.hid (HP12.out.ext G)
  have F14 := F12.trans G
  have z14 := cell_lt r0
  dsimp only at z14
  clear hc14 hE13 hE14 G HI12 HQ12 HP12 F12 HC13
  go_wp2_with fail
  have E15 : Ext w14 (w14.alloc (.cells #[.int .i64 qh.1, .slice a14 qh.2.length d14] 24)) := (by repeat (first | with_reducible exact Ext.refl _ | with_reducible assumption | with_reducible apply Ext.drewN | with_reducible apply Ext.drew | with_reducible apply Ext.alloc | ((with_reducible refine Ext.set ?_ ?_ _); rotate_left; first | omega | (simp; omega)) | (with_reducible refine Ext.trans ?_ (by with_reducible assumption))))
  have s0 : (w14.alloc (.cells #[.int .i64 qh.1, .slice a14 qh.2.length d14] 24)).cell? ⟨w14.heap.size, 0, none⟩ = some (.int .i64 qh.1) := by go_simp
  have s1 : (w14.alloc (.cells #[.int .i64 qh.1, .slice a14 qh.2.length d14] 24)).cell? ⟨w14.heap.size, 1, none⟩ = some (.slice a14 qh.2.length d14) := by go_simp
  have r0 := E15.cell r0
  have r1 := E15.cell r1
  have HI15 := Lib.hid (HI14.out.ext E15)
  have HQ15 := Lib.hid (HQ14.out.ext E15)
  have HP15 := Lib.hid (HP14.out.ext E15)
  have HH15 := Lib.hid (HC14.out.ext E15)
  have F15 := F14.trans E15
  clear E15 HI14 HQ14 HP14 HC14 F14 z14
  obtain ⟨bh, hbh⟩ : ∃ bh, bh = w14.heap.size := ⟨_, rfl⟩
  rw [← hbh] at s0 s1 ⊢
  clear hbh
  generalize (w14.alloc (.cells #[.int .i64 qh.1, .slice a14 qh.2.length d14] 24)) = W15 at s0 s1 r0 r1 HI15 HQ15 HP15 HH15 F15 ⊢
  have z1 := cell_lt r0
  have z2 := cell_lt s0
  dsimp only at z1 z2
  go_region_held3 (fun w' => Sees W15 w') ((repeat (first | exact Sees.refl _ | assumption | apply Sees.store | apply Sees.drew | apply Sees.alloc | (refine Sees.ext ?_ (by assumption))))) (first
    | (go_at_call 17; refine (aw_Equal l02 (by decide) tp _ tq _ _ (HI15.out.ext (by exact (show Sees W15 _ by assumption).2.2)) (cellsI_two (by go_simp) (by go_simp))).mono ?_; rintro e w16 ⟨rfl, hE16⟩)
    | (go_at_call 45; refine Calls.mono (parsed_any _ qe _ (by with_reducible exact qe_text)) ?_; rintro e w17 ⟨a17, d17, rfl, hc17, _, _, hE17⟩)
    | (go_at_call 45; refine Calls.mono (parsed_any _ qf _ (by with_reducible exact qf_text)) ?_; rintro e w18 ⟨a18, d18, rfl, hc18, _, rm18, hE18⟩)
    | (go_at_call 45; refine Calls.mono (parsed_any _ qg _ (by with_reducible exact qg_text)) ?_; rintro e w19 ⟨a19, d19, rfl, hc19, _, rm19, hE19⟩)
    | (go_at_call 45; refine Calls.mono (parsed_any _ qh _ (by with_reducible exact qh_text)) ?_; rintro e w20 ⟨a20, d20, rfl, hc20, _, _, hE20⟩)
    | (go_at_call 25; refine (aw_SameAll tg _ th _ _ (HP15.out.ext (by exact (show Sees W15 _ by assumption).2.2)) (cellsQ_new rm18 rm19 (CellsP.ext hc18 hE19) hc19)).mono ?_; rintro e w21 ⟨rfl, hE21⟩)
    | (go_at_call 18; refine Calls.mono (aw_Same _ (by first | exact qe_len | exact qh_len) _ _ _ _ _ (by first | (with_reducible exact HQ15.out.ext (show Sees W15 _ by assumption).2.2) | (with_reducible exact HH15.out.ext (show Sees W15 _ by assumption).2.2)) (by with_reducible assumption)) ?_; rintro e w22 ⟨rfl, hE22⟩))
  have hS := (show Sees W15 _ by assumption).2.2
  have F22 := F15.trans hS
  clear hS F15 s0 s1 r0 r1 HI15 HQ15 HP15 HH15 z1 z2 hE16 hE17 hE18 hE19 hE20 hE21 hE22 hc17 hc18 hc19 hc20
  generalize w22 = W22 at F22 ⊢
  go_wp2_with fail
  refine (parsed_any _ qi _ qi_text).mono ?_
  rintro e w1 ⟨a1, d1, rfl, hc1, _, _, hE1⟩
  have HC1 := Lib.hid hc1
  clear hc1
  go_wp2_with fail
  refine (aw_Merge0 a1 d1 _ HC1.out).mono ?_
  rintro e w2 ⟨a2, d2, rfl, hc2, hE2⟩
  have HC2 := Lib.hid hc2
  have F2 := (F22.trans hE1).trans hE2
  clear hc2 hE1 hE2 HC1 F22
  go_wp2_with fail
  have E3 : Ext w2 (w2.alloc (.cells #[.int .i64 qj.1, .slice a2 qj.2.length d2] 24)) := (by repeat (first | with_reducible exact Ext.refl _ | with_reducible assumption | with_reducible apply Ext.drewN | with_reducible apply Ext.drew | with_reducible apply Ext.alloc | ((with_reducible refine Ext.set ?_ ?_ _); rotate_left; first | omega | (simp; omega)) | (with_reducible refine Ext.trans ?_ (by with_reducible assumption))))
  have s0 : (w2.alloc (.cells #[.int .i64 qj.1, .slice a2 qj.2.length d2] 24)).cell? ⟨w2.heap.size, 0, none⟩ = some (.int .i64 qj.1) := by go_simp
  have s1 : (w2.alloc (.cells #[.int .i64 qj.1, .slice a2 qj.2.length d2] 24)).cell? ⟨w2.heap.size, 1, none⟩ = some (.slice a2 qj.2.length d2) := by go_simp
  have HC3 := Lib.hid (HC2.out.ext E3)
  have F3 := F2.trans E3
  clear E3 HC2 F2
  obtain ⟨ba, hba⟩ : ∃ ba, ba = w2.heap.size := ⟨_, rfl⟩
  rw [← hba] at s0 s1 ⊢
  clear hba
  generalize (w2.alloc (.cells #[.int .i64 qj.1, .slice a2 qj.2.length d2] 24)) = W3 at s0 s1 HC3 F3 ⊢
  refine (parsed_any _ qi _ qi_text).mono ?_
  rintro e w4 ⟨a4, d4, rfl, hc4, _, _, hE4⟩
  have HC4 := Lib.hid hc4
  clear hc4
  go_wp2_with fail
  refine (aw_Merge1 a4 d4 _ HC4.out).mono ?_
  rintro e w5 ⟨a5, d5, rfl, hc5, hE5⟩
  have HC5 := Lib.hid hc5
  have G := hE4.trans hE5
  have s0 := G.cell s0
  have s1 := G.cell s1
  have HC6 := Lib.hid (HC3.out.ext G)
  have F5 := F3.trans G
  have z5 := cell_lt s0
  dsimp only at z5
  clear hc5 hE4 hE5 HC4 HC3 F3 G
  go_wp2_with fail
  have E7 : Ext w5 (w5.alloc (.cells #[.int .i64 qk.1, .slice a5 qk.2.length d5] 24)) := (by repeat (first | with_reducible exact Ext.refl _ | with_reducible assumption | with_reducible apply Ext.drewN | with_reducible apply Ext.drew | with_reducible apply Ext.alloc | ((with_reducible refine Ext.set ?_ ?_ _); rotate_left; first | omega | (simp; omega)) | (with_reducible refine Ext.trans ?_ (by with_reducible assumption))))
  have r0 : (w5.alloc (.cells #[.int .i64 qk.1, .slice a5 qk.2.length d5] 24)).cell? ⟨w5.heap.size, 0, none⟩ = some (.int .i64 qk.1) := by go_simp
  have r1 : (w5.alloc (.cells #[.int .i64 qk.1, .slice a5 qk.2.length d5] 24)).cell? ⟨w5.heap.size, 1, none⟩ = some (.slice a5 qk.2.length d5) := by go_simp
  have s0 := E7.cell s0
  have s1 := E7.cell s1
  have HC7 := Lib.hid (HC6.out.ext E7)
  have HC8 := Lib.hid (HC5.out.ext E7)
  have F7 := F5.trans E7
  clear E7 HC6 HC5 F5 z5
  obtain ⟨bb, hbb⟩ : ∃ bb, bb = w5.heap.size := ⟨_, rfl⟩
  rw [← hbb] at r0 r1 ⊢
  clear hbb
  generalize (w5.alloc (.cells #[.int .i64 qk.1, .slice a5 qk.2.length d5] 24)) = W7 at s0 s1 r0 r1 HC7 HC8 F7 ⊢
  have z1 := cell_lt r0
  have z2 := cell_lt s0
  dsimp only at z1 z2
  go_region_held3 (fun w' => Sees W7 w') ((repeat (first | exact Sees.refl _ | assumption | apply Sees.store | apply Sees.drew | apply Sees.alloc | (refine Sees.ext ?_ (by assumption))))) (first
    | (go_at_call 45; refine Calls.mono (parsed_any _ qj _ (by with_reducible exact qj_text)) ?_; rintro e w17 ⟨a17, d17, rfl, hc17, _, _, hE17⟩)
    | (go_at_call 45; refine Calls.mono (parsed_any _ qk _ (by with_reducible exact qk_text)) ?_; rintro e w18 ⟨a18, d18, rfl, hc18, _, _, hE18⟩)
    | (go_at_call 18; refine Calls.mono (aw_Same _ (by first | exact qj_len | exact qk_len) _ _ _ _ _ (by first | (with_reducible exact HC7.out.ext (show Sees W7 _ by assumption).2.2) | (with_reducible exact HC8.out.ext (show Sees W7 _ by assumption).2.2)) (by with_reducible assumption)) ?_; rintro e w22 ⟨rfl, hE22⟩))
  have hS := (show Sees W7 _ by assumption).2.2
  have F9 := F7.trans hS
  go_wp2
  go_ret
  exact ⟨rfl, F9⟩
end Go.Proofs.YtnhbogmihnnpjaaGreat
