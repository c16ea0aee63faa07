/- Steps of the proof: Order, TryStock, LRows, Open8. No conditions. -/
import Derived.Laws.EntriesVeiled
import Derived.Laws.ResultCell
import Derived.ProofKit
import Derived.OpenShut
import Derived.Lib.SmallJoins
import Derived.Deep.Slices
import Derived.Test.YtechakkdcllgoaaZRows1
import Derived.Test.YtechakkdcllgoaaZRows2
import Derived.Test.YtechakkdcllgoaaZRows3
import Derived.Test.YtechakkdcllgoaaZRows4
/- The order of a task: the check, the search, the answer. -/
namespace Go.Proofs.Ytechakkdcllgoaa
open Go.RowKit

theorem MaxK_any (l : List Int) (K : Nat) (a : Option Addr) (cap : Nat) (w : World) (hK : 0 < K) (hn : K = l.length) (hl : K ≤ maxLen) (hc : CellsI w a l) :
    Calls Try.prog 24 #[.slice a K cap] w fun e w' => e = .returned (.int .i64 (maxK l (K - 1))) ∧ Ext w w' := by
  cases K with
  | zero => omega
  | succ n => exact Max_any l n a cap w hn hl hc
theorem maxK_le {l : List Int} {c : Int} : ∀ k, (∀ i, i ≤ k → l.getD i 0 ≤ c) → maxK l k ≤ c := by
  intro k
  induction k with
  | zero => intro h; exact h 0 (Nat.le_refl _)
  | succ k ih =>
    intro h
    have h1 := ih (fun i hi => h i (by omega))
    have h2 := h (k + 1) (Nat.le_refl _)
    unfold maxK
    omega
theorem cells_two (w : World) (b : Nat) (x y : Int) (h0 : w.cell? ⟨b, 0, none⟩ = some (.int .i64 x)) (h1 : w.cell? ⟨b, 1, none⟩ = some (.int .i64 y)) : CellsI w (some ⟨b, 0, none⟩) [x, y] := fun i hi => by
  rcases i with _ | _ | i
  · exact ⟨b, 0, rfl, h0⟩
  · exact ⟨b, 0, rfl, h1⟩
  · simp only [List.length_cons, List.length_nil] at hi
    omega
theorem good_any {l : List Int} (h : ∀ x ∈ l, 0 ≤ x ∧ x ≤ 1048576) : l.any isNeg = false := by
  rw [List.any_eq_false]
  intro x hx
  have := h x hx
  unfold isNeg
  simp
  omega

set_option maxHeartbeats 4000000 in
theorem CheckGood_any {pks : List Pk} {K : Nat} {pa : Option Addr} {pc : Nat} (ht : TaskOk pks K) (hK : 0 < K) (need : List Int) (na : Option Addr) (nc : Nat) (w : World) (hnl : need.length = K) (hnn : ∀ x ∈ need, 0 ≤ x ∧ x ≤ 1048576) (hp : PksAt w (fun _ => False) pa K pks) (hc : CellsI w na need) :
    Calls Try.prog 23 #[.agg #[.slice pa pks.length pc, .slice na K nc]] w fun e w' => e = .returned (.int .i64 0) ∧ Ext w w' := by
  have HT := Lib.hid ht
  have HNL := Lib.hid hnl
  have HNN := Lib.hid (good_any hnn)
  have HP := Lib.hid hp
  have HC := Lib.hid hc
  have hK16 := ht.kinds
  have hN5 := ht.len
  obtain ⟨N, hN⟩ : ∃ N, N = pks.length := ⟨_, rfl⟩
  rw [← hN] at hN5 ⊢
  have HN := Lib.hid hN
  clear ht hnl hnn hp hc hN
  have E0 : Ext w (w.alloc (.cells #[.slice pa N pc, .slice na K nc] 57)) := (Ext.refl _).alloc _
  have y1 : (w.alloc (.cells #[.slice pa N pc, .slice na K nc] 57)).cell? ⟨w.heap.size, 0, none⟩ = some (.slice pa N pc) := by go_simp
  have y2 : (w.alloc (.cells #[.slice pa N pc, .slice na K nc] 57)).cell? ⟨w.heap.size, 1, none⟩ = some (.slice na K nc) := by go_simp
  have k1 : ((K : Int) == 0) = false := by simp; omega
  have k2 : ¬ (16 : Int) < (K : Int) := by omega
  have k3 : ¬ (64 : Int) < (N : Int) := by omega
  go_enter Try.func23, Try.ntmps23
  go_wp2_with fail
  refine (counts_any need K na nc _ HNL.out.symm (by unfold maxLen; omega) (HC.out.ext E0)).mono ?_
  rintro e w1 ⟨rfl, hE⟩
  rw [HNN.out]
  have E1 := E0.trans hE
  have a1 := hE.cell y1
  have a2 := hE.cell y2
  clear hE E0 y1 y2
  go_wp2
  go_loopw [28] (fun t wr => ∃ k : Nat, k ≤ N ∧ t = .int .i64 k ∧ Ext w1 wr) (fun t _ => N - (intOf t).toNat)
  case atStart => exact ⟨0, Nat.zero_le _, rfl, Ext.refl _⟩
  case round =>
    obtain ⟨k, hkN, rfl, he⟩ := hrel
    by_cases hlt : k < N
    · have hlt' : (k : Int) < (N : Int) := by omega
      have EK := E1.trans he
      obtain ⟨b, off, ai, ci, rfl, c1, c2, c3, c4, _, _⟩ := (HP.out.chg (Chg.ext EK)) k (by rw [← HN.out]; exact hlt)
      have hmem : pks.getD k pk0 ∈ pks := by rw [List.getD_eq_getElem?_getD, List.getElem?_eq_getElem (by rw [← HN.out]; exact hlt)]; simp
      generalize pks.getD k pk0 = p at hmem c2 c3 c4
      have a1 := he.cell a1
      have a2 := he.cell a2
      have za := cell_lt a2
      dsimp only at za
      have zb := cell_lt c1
      dsimp only at zb
      have HPL := Lib.hid (HT.out.parts p hmem)
      have HPA := Lib.hid (good_any (HT.out.num p hmem))
      have HPB := Lib.hid (good_any (l := [p.price, p.most]) (fun x hx => by
        simp at hx
        rcases hx with rfl | rfl
        · exact HT.out.price p hmem
        · exact HT.out.most p hmem))
      have HC4 := Lib.hid c4
      clear hmem c4
      go_wp2_with fail
      have E2 : Ext wr (wr.alloc (.cells #[.slice ai K ci, .int .i64 p.price, .int .i64 p.most] 79)) := (Ext.refl _).alloc _
      have d1 : (wr.alloc (.cells #[.slice ai K ci, .int .i64 p.price, .int .i64 p.most] 79)).cell? ⟨wr.heap.size, 1, none⟩ = some (.int .i64 p.price) := by go_simp
      have d2 : (wr.alloc (.cells #[.slice ai K ci, .int .i64 p.price, .int .i64 p.most] 79)).cell? ⟨wr.heap.size, 2, none⟩ = some (.int .i64 p.most) := by go_simp
      refine (counts_any p.parts K ai ci _ HPL.out.symm (by unfold maxLen; omega) (HC4.out.ext E2)).mono ?_
      rintro e w2 ⟨rfl, hE⟩
      rw [HPA.out]
      have E3 := (EK.trans E2).trans hE
      have E4 := (he.trans E2).trans hE
      have d1 := hE.cell d1
      have d2 := hE.cell d2
      clear hE E2 a1 a2 c1 c2 c3 EK
      go_wp2_with fail
      refine (counts_any [p.price, p.most] 2 _ 2 _ rfl (by unfold maxLen; omega) (cells_two _ _ _ _ (by go_simp) (by go_simp))).mono ?_
      rintro e w3 ⟨rfl, hE⟩
      rw [HPB.out]
      go_wp2
      exact ⟨⟨k + 1, by omega, by go_num, (E4.alloc _).trans hE⟩, by simp [intOf]; omega⟩
    · have hke : k = N := by omega
      subst hke
      have hlt' : ¬ (k : Int) < (k : Int) := by omega
      go_wp2
      all_goals go_ret
      all_goals exact ⟨rfl, E1.trans he⟩

theorem ArrI.ext {A B : World} {b : Nat} {l : List Int} (h : ArrI A b l) (x : Ext A B) : ArrI B b l := fun j hj => by
  obtain ⟨h1, h2⟩ := h j hj
  exact ⟨x.cell h1, (Below.frozen (p := ⟨b, j, none⟩) x (cell_lt h1)).trans h2⟩
def OrdPost (r : Bst) (w : World) (e : Ending) (w' : World) : Prop :=
  (∃ v, e = .returned (.tuple #[v, .int .i64 (if r.found then r.price else 0), .int .i64 (if r.found then 0 else 6)])) ∧ Ext w w'
theorem PksAt.wide {w : World} {X : Nat → Prop} {pa : Option Addr} {K : Nat} {pks : List Pk} (h : PksAt w (fun _ => False) pa K pks) (hK : 0 < K) (hp : ∀ p ∈ pks, p.parts.length = K) (hx : ∀ k, X k → w.heap.size ≤ k) : PksAt w X pa K pks := fun i hi => by
  obtain ⟨b, off, ai, ci, h1, h2, h3, h4, h5, _, _⟩ := h i hi
  have z := cell_lt h2
  dsimp only at z
  have hm : pks.getD i pk0 ∈ pks := by rw [List.getD_eq_getElem?_getD, List.getElem?_eq_getElem hi]; simp
  obtain ⟨b2, o2, e2, c2⟩ := h5 0 (by rw [hp _ hm]; exact hK)
  have z2 := cell_lt c2
  dsimp only at z2
  refine ⟨b, off, ai, ci, h1, h2, h3, h4, h5, fun e => by have := hx _ e; omega, fun b' o' e e3 => ?_⟩
  rw [e2] at e
  cases e
  have := hx _ e3
  omega

set_option maxHeartbeats 4000000 in
set_option maxRecDepth 100000 in
theorem OrderGood_any {pks : List Pk} {K : Nat} {pa : Option Addr} {pc : Nat} (ht : TaskOk pks K) (hK : 0 < K) (hpos : 0 < pks.length) (need : List Int) (na : Option Addr) (nc : Nat) (w : World) (hnl : need.length = K) (hnn : ∀ x ∈ need, 0 ≤ x ∧ x ≤ 20) (hp : PksAt w (fun _ => False) pa K pks) (hc : CellsI w na need) (r : Bst) (hr : (buyS pks pks.length need 0 0 (List.replicate pks.length 0, ⟨[], 0, 0, false⟩)).2 = r) :
    Calls Try.prog 15 #[.agg #[.slice pa pks.length pc, .slice na K nc]] w fun e w' => OrdPost r w e w' := by
  have hneed : ∀ k, k < K → 0 ≤ need.getD k 0 ∧ need.getD k 0 ≤ 20 := fun k hk => hnn _ (by rw [List.getD_eq_getElem?_getD, List.getElem?_eq_getElem (by omega)]; simp)
  have HCK : Hid (∀ w', Ext w w' → Calls Try.prog 23 #[.agg #[.slice pa pks.length pc, .slice na K nc]] w' fun e w2 => e = .returned (.int .i64 0) ∧ Ext w' w2) := fun w' he => CheckGood_any ht hK need na nc w' hnl (fun x hx => by have := hnn x hx; omega) (hp.chg (Chg.ext he)) (hc.ext he)
  have HMX : Hid (∀ w', Ext w w' → Calls Try.prog 24 #[.slice na K nc] w' fun e w2 => ∃ m : Int, m ≤ 20 ∧ e = .returned (.int .i64 m) ∧ Ext w' w2) := fun w' he => (MaxK_any need K na nc w' hK hnl.symm (by have := ht.kinds; unfold maxLen; omega) (hc.ext he)).mono (fun e w2 h => ⟨_, maxK_le _ (fun i hi => (hneed i (by omega)).2), h⟩)
  have HBUY : Hid (∀ xb nb fb bb nwb w', Ext w w' → w.heap.size ≤ bb → w.heap.size ≤ nwb → w'.cell? ⟨xb, 0, none⟩ = some (.slice pa pks.length pc) → w'.cell? ⟨nb, 0, none⟩ = some (.slice (some ⟨nwb, 0, none⟩) pks.length pks.length) → w'.cell? ⟨fb, 0, none⟩ = some (buyV bb nb xb fb) → xb ≠ bb → xb ≠ nwb → nb ≠ bb → nb ≠ nwb → fb ≠ bb → fb ≠ nwb → bb ≠ nwb →
      ArrI w' nwb (List.replicate pks.length 0) → w'.cell? ⟨bb, 0, none⟩ = some (.slice none 0 0) → w'.cell? ⟨bb, 1, none⟩ = some (.int .i64 0) → w'.cell? ⟨bb, 2, none⟩ = some (.int .i64 0) → w'.cell? ⟨bb, 3, none⟩ = some (.bool false) → (w'.frozen? ⟨bb, 0, none⟩ = false ∧ w'.frozen? ⟨bb, 1, none⟩ = false ∧ w'.frozen? ⟨bb, 2, none⟩ = false ∧ w'.frozen? ⟨bb, 3, none⟩ = false) →
      Calls Try.prog 25 #[.int .i64 0, .slice na K nc, .int .i64 0, .int .i64 0, .pointer (some ⟨bb, 0, none⟩), .pointer (some ⟨nb, 0, none⟩), .pointer (some ⟨xb, 0, none⟩), .pointer (some ⟨fb, 0, none⟩)] w' fun e w2 =>
        e = .returned (.tuple #[]) ∧ (∃ v, w2.cell? ⟨bb, 0, none⟩ = some v) ∧ w2.cell? ⟨bb, 1, none⟩ = some (.int .i64 r.price) ∧ w2.cell? ⟨bb, 3, none⟩ = some (.bool r.found) ∧ Below w.heap.size w' w2) := by
    intro xb nb fb bb nwb w' he b1 b2 cx cn cf n1 n2 n3 n4 n5 n6 n7 ha c0 c1 c2 c3 hz
    have hno : NeedOk need 0 0 K 0 := ⟨hnl, fun k hk => by have := hneed k hk; omega, by omega, by omega⟩
    have hX : ∀ k, BX bb nwb k → w.heap.size ≤ k := fun k hk => by rcases hk with rfl | rfl <;> assumption
    have hpk : PksAt w' (BX bb nwb) pa K pks := fun i hi => by
      obtain ⟨b, off, ai, ci, h1, h2, h3, h4, h5, h6, h7⟩ := (hp.wide hK ht.parts hX) i hi
      exact ⟨b, off, ai, ci, h1, he.cell h2, he.cell h3, he.cell h4, h5.ext he, h6, h7⟩
    have henv : EnvB w' pks K xb nb fb bb nwb pa pc := ⟨cx, cn, cf, hpk, fun h => by rcases h with h | h <;> contradiction, fun h => by rcases h with h | h <;> contradiction, fun h => by rcases h with h | h <;> contradiction⟩
    have hst : StB w' bb nwb (List.replicate pks.length 0) ⟨[], 0, 0, false⟩ := ⟨ha, ⟨none, 0, c0, fun i hi => by simp at hi, fun _ _ e => by cases e⟩, c1, c2, c3, hz.1, hz.2.1, hz.2.2.1, hz.2.2.2, n7⟩
    refine (buy_any ht w.heap.size b1 b2 hpos pks.length 0 (by omega) need 0 0 na nc _ _ w' hno (by simp) henv hst (hc.ext he) (fun b' o' e e2 => ?_)).mono ?_
    · obtain ⟨b3, o3, e3, c3⟩ := hc 0 (by omega)
      rw [e] at e3
      cases e3
      have := cell_lt c3
      have := hX _ e2
      dsimp only at *
      omega
    · rintro e w2 ⟨h1, h2, _, h4⟩
      rw [hr] at h2
      obtain ⟨oa, oc, o1, _, _⟩ := h2.o
      exact ⟨h1, ⟨_, o1⟩, h2.p, h2.f, h4⟩
  obtain ⟨N, hN⟩ : ∃ N, N = pks.length := ⟨_, rfl⟩
  have hN5 := ht.len
  rw [← hN] at HCK HBUY hN5 hpos ⊢
  clear ht hnl hnn hp hc hN hr hneed
  have E0 : Ext w (w.alloc (.cells #[.slice pa N pc, .slice na K nc] 57)) := (Ext.refl _).alloc _
  have y1 : (w.alloc (.cells #[.slice pa N pc, .slice na K nc] 57)).cell? ⟨w.heap.size, 0, none⟩ = some (.slice pa N pc) := by go_simp
  have y2 : (w.alloc (.cells #[.slice pa N pc, .slice na K nc] 57)).cell? ⟨w.heap.size, 1, none⟩ = some (.slice na K nc) := by go_simp
  have k3 : ¬ (5 : Int) < (N : Int) := by omega
  go_enter Try.func15, Try.ntmps15
  go_wp2_with fail
  refine (HCK.out _ E0).mono ?_
  rintro e w1 ⟨rfl, hE⟩
  have E1 := E0.trans hE
  have a1 := hE.cell y1
  have a2 := hE.cell y2
  clear hE E0 y1 y2
  go_wp2_with fail
  refine (HMX.out _ E1).mono ?_
  rintro e w2 ⟨m, hm, rfl, hE⟩
  have hm' : ¬ (20 : Int) < m := by omega
  have E2 := E1.trans hE
  have a1 := hE.cell a1
  have a2 := hE.cell a2
  clear hE E1
  have hx2 : w.heap.size < w2.heap.size := cell_lt a1
  obtain ⟨i0, hi, hi0, hi1, hi2⟩ := info_parts infoIn
  go_wp2_with (at_make; refine wpList_make_full _ rfl _ _ 52 rfl 0 3 i0 (.int .i64 0) 1 Try.underlying52 hi hi0 hi1 _ _ _ _ N rfl rfl rfl rfl ?b2 ?b3 ?b4 ?hK)
  case b2 => rw [hi2]; omega
  case b3 => unfold maxLen; omega
  case b4 => exact Nat.zero_le _
  case hK =>
    intro w3 hown hgr
    have E3 : Ext (w2.alloc (.cells #[.slice none 0 0, .int .i64 0, .int .i64 0, .bool false] 73)) w3 := ⟨hgr.os, hgr.tape, hgr.output, hgr.size, fun k hk => hgr.block k hk (by simp)⟩
    have HA3 : Hid (ArrI w3 (w2.heap.size + 1) (List.replicate N 0)) := fun j hj => by
      rw [List.length_replicate] at hj
      have h1 := hown.cellAt j (by omega)
      have h2 := hown.frozenAt j
      refine ⟨?_, h2⟩
      rw [h1]
      simp [madeCells, hj, Nat.mod_one, List.getD]
    have b0 : (w2.alloc (.cells #[.slice none 0 0, .int .i64 0, .int .i64 0, .bool false] 73)).cell? ⟨w2.heap.size, 0, none⟩ = some (.slice none 0 0) := by go_simp
    have b1 : (w2.alloc (.cells #[.slice none 0 0, .int .i64 0, .int .i64 0, .bool false] 73)).cell? ⟨w2.heap.size, 1, none⟩ = some (.int .i64 0) := by go_simp
    have b2 : (w2.alloc (.cells #[.slice none 0 0, .int .i64 0, .int .i64 0, .bool false] 73)).cell? ⟨w2.heap.size, 2, none⟩ = some (.int .i64 0) := by go_simp
    have b3 : (w2.alloc (.cells #[.slice none 0 0, .int .i64 0, .int .i64 0, .bool false] 73)).cell? ⟨w2.heap.size, 3, none⟩ = some (.bool false) := by go_simp
    have hz : (w2.alloc (.cells #[.slice none 0 0, .int .i64 0, .int .i64 0, .bool false] 73)).frozen? ⟨w2.heap.size, 0, none⟩ = false ∧ (w2.alloc (.cells #[.slice none 0 0, .int .i64 0, .int .i64 0, .bool false] 73)).frozen? ⟨w2.heap.size, 1, none⟩ = false ∧ (w2.alloc (.cells #[.slice none 0 0, .int .i64 0, .int .i64 0, .bool false] 73)).frozen? ⟨w2.heap.size, 2, none⟩ = false ∧ (w2.alloc (.cells #[.slice none 0 0, .int .i64 0, .int .i64 0, .bool false] 73)).frozen? ⟨w2.heap.size, 3, none⟩ = false := ⟨by go_simp, by go_simp, by go_simp, by go_simp⟩
    have E23 := (Ext.alloc (Ext.refl w2) (.cells #[.slice none 0 0, .int .i64 0, .int .i64 0, .bool false] 73)).trans E3
    have a1 := E23.cell a1
    have a2 := E23.cell a2
    have b0 := E3.cell b0
    have b1 := E3.cell b1
    have b2 := E3.cell b2
    have b3 := E3.cell b3
    have hx3 : w.heap.size < w3.heap.size := cell_lt a1
    have hy3 : w2.heap.size < w3.heap.size := cell_lt b0
    have hz3 : w2.heap.size + 1 < w3.heap.size := HA3.out.lt (by rw [List.length_replicate]; exact hpos)
    have hfz : ∀ o, (w2.alloc (.cells #[.slice none 0 0, .int .i64 0, .int .i64 0, .bool false] 73)).frozen? ⟨w2.heap.size, o, none⟩ = false → w3.frozen? ⟨w2.heap.size, o, none⟩ = false := fun o h => (Below.frozen (p := ⟨w2.heap.size, o, none⟩) E3 (by simp)).trans h
    have hz := And.intro (hfz 0 hz.1) (And.intro (hfz 1 hz.2.1) (And.intro (hfz 2 hz.2.2.1) (hfz 3 hz.2.2.2)))
    have E4 : ∀ t, Ext w3 ((w3.alloc (.cells #[.slice (some ⟨w2.heap.size + 1, 0, none⟩) N N] 52)).alloc (.cells #[buyV w2.heap.size w3.heap.size w.heap.size (w3.heap.size + 1)] t)) := fun t => ((Ext.refl _).alloc _).alloc _
    have cn : ∀ t, ((w3.alloc (.cells #[.slice (some ⟨w2.heap.size + 1, 0, none⟩) N N] 52)).alloc (.cells #[buyV w2.heap.size w3.heap.size w.heap.size (w3.heap.size + 1)] t)).cell? ⟨w3.heap.size, 0, none⟩ = some (.slice (some ⟨w2.heap.size + 1, 0, none⟩) N N) := fun t => by go_simp
    have cf : ∀ t, ((w3.alloc (.cells #[.slice (some ⟨w2.heap.size + 1, 0, none⟩) N N] 52)).alloc (.cells #[buyV w2.heap.size w3.heap.size w.heap.size (w3.heap.size + 1)] t)).cell? ⟨w3.heap.size + 1, 0, none⟩ = some (buyV w2.heap.size w3.heap.size w.heap.size (w3.heap.size + 1)) := fun t => by go_simp
    have EE := E2.trans E23
    have hle : w.heap.size ≤ w2.heap.size := E2.size
    have HAL : Hid (∀ t, ArrI ((w3.alloc (.cells #[.slice (some ⟨w2.heap.size + 1, 0, none⟩) N N] 52)).alloc (.cells #[buyV w2.heap.size w3.heap.size w.heap.size (w3.heap.size + 1)] t)) (w2.heap.size + 1) (List.replicate N 0)) := fun t => HA3.out.ext (E4 t)
    have HZA : Hid (∀ t, ((w3.alloc (.cells #[.slice (some ⟨w2.heap.size + 1, 0, none⟩) N N] 52)).alloc (.cells #[buyV w2.heap.size w3.heap.size w.heap.size (w3.heap.size + 1)] t)).frozen? ⟨w2.heap.size, 0, none⟩ = false ∧ ((w3.alloc (.cells #[.slice (some ⟨w2.heap.size + 1, 0, none⟩) N N] 52)).alloc (.cells #[buyV w2.heap.size w3.heap.size w.heap.size (w3.heap.size + 1)] t)).frozen? ⟨w2.heap.size, 1, none⟩ = false ∧ ((w3.alloc (.cells #[.slice (some ⟨w2.heap.size + 1, 0, none⟩) N N] 52)).alloc (.cells #[buyV w2.heap.size w3.heap.size w.heap.size (w3.heap.size + 1)] t)).frozen? ⟨w2.heap.size, 2, none⟩ = false ∧ ((w3.alloc (.cells #[.slice (some ⟨w2.heap.size + 1, 0, none⟩) N N] 52)).alloc (.cells #[buyV w2.heap.size w3.heap.size w.heap.size (w3.heap.size + 1)] t)).frozen? ⟨w2.heap.size, 3, none⟩ = false) := fun t => ⟨((E4 t).frozen (p := ⟨_, 0, none⟩) hy3).trans hz.1, ((E4 t).frozen (p := ⟨_, 1, none⟩) hy3).trans hz.2.1, ((E4 t).frozen (p := ⟨_, 2, none⟩) hy3).trans hz.2.2.1, ((E4 t).frozen (p := ⟨_, 3, none⟩) hy3).trans hz.2.2.2⟩
    clear hz hfz
    go_wp2_with fail
    refine (HBUY.out w.heap.size w3.heap.size (w3.heap.size + 1) w2.heap.size (w2.heap.size + 1) _ (EE.trans (E4 _)) (by omega) (by omega) ((E4 _).cell a1) (cn _) (cf _) (by omega) (by omega) (by omega) (by omega) (by omega) (by omega) (by omega) (HAL.out _) ((E4 _).cell b0) ((E4 _).cell b1) ((E4 _).cell b2) ((E4 _).cell b3) (HZA.out _)).mono ?_
    rintro e w5 ⟨rfl, ⟨v0, c0⟩, c1, c3, hB⟩
    have HB := Lib.hid (Below.trans (EE.trans (E4 _)) hB)
    have HCK2 := HCK
    clear hB HAL HZA HA3 E3 E4 E23 EE b0 b1 b2 b3 cn cf a1 a2 hown hgr HBUY HMX HCK HCK2
    have z5 := cell_lt c1
    dsimp only at z5
    cases hf : r.found
    · rw [hf] at c3
      have HR := Lib.hid hf
      clear hf
      go_wp2
      go_ret3
      exact ⟨⟨_, by rw [HR.out]; rfl⟩, HB.out⟩
    · rw [hf] at c3
      have HR := Lib.hid hf
      clear hf
      go_wp2_with fail
      go_quiet (fail)
      go_wp2
      go_ret3
      exact ⟨⟨_, by rw [HR.out]; rfl⟩, (show Ext w w5 from HB.out).drewN _⟩
end Go.Proofs.Ytechakkdcllgoaa
/- The example of the stock: its best order costs 17. -/
namespace Go.Proofs.Ytechakkdcllgoaa
open Go.RowKit

theorem results_cellT {fn : Func} {p : Tmp} {ty : TypeId} (h : fn.results = #[.cell p ty]) (tmps : Array Value) (P : Program) (w : World) :
    (results fn tmps).run P w = ((asAddr (tmps.getD p undef)).run P w).andThen fun a w₁ => (loadVar ty a).run P w₁ := by
  simp only [results, h]
  simp [Sem.run_bind, Result.andThen]
def ThreePost (w : World) (e : Ending) (w' : World) : Prop :=
  ∃ pa na, e = .returned (.agg #[.slice pa 3 3, .slice na 2 2]) ∧ PksAt w' (fun _ => False) pa 2 threeP ∧ CellsI w' na [3, 2] ∧ Ext w w'
set_option maxHeartbeats 2000000 in
theorem Three_any (w : World) : Calls Try.prog 16 #[] w fun e w' => ThreePost w e w' := by
  go_enter Try.func16, Try.ntmps16
  go_wp2
  (try simp only [Exit.inBlock, Exit.then])
  refine bodyPost_ret (v := .agg #[.slice (some ⟨w.heap.size + 1 + 1 + 1 + 1, 0, none⟩) 3 3, .slice (some ⟨w.heap.size + 1 + 1 + 1 + 1 + 1, 0, none⟩) 2 2]) (by rw [results_cellT rfl]; go_simp) rfl ⟨_, _, rfl, ?_, cells_two _ _ _ _ (by go_simp) (by go_simp), ((((((Ext.refl _).alloc _).alloc _).alloc _).alloc _).alloc _).alloc _⟩
  intro i hi
  have h3 : i < 3 := hi
  rcases i with _ | _ | _ | i
  · exact ⟨w.heap.size + 1 + 1 + 1 + 1, 0, some ⟨w.heap.size + 1, 0, none⟩, 2, rfl, by go_simp, by show World.cell? _ _ = some (.int .i64 5); go_simp, by show World.cell? _ _ = some (.int .i64 9); go_simp, cells_two _ _ _ _ (by go_simp) (by go_simp), fun h => h, fun _ _ _ h => h⟩
  · exact ⟨w.heap.size + 1 + 1 + 1 + 1, 0, some ⟨w.heap.size + 1 + 1, 0, none⟩, 2, rfl, by go_simp, by show World.cell? _ _ = some (.int .i64 4); go_simp, by show World.cell? _ _ = some (.int .i64 9); go_simp, cells_two _ _ _ _ (by go_simp) (by go_simp), fun h => h, fun _ _ _ h => h⟩
  · exact ⟨w.heap.size + 1 + 1 + 1 + 1, 0, some ⟨w.heap.size + 1 + 1 + 1, 0, none⟩, 2, rfl, by go_simp, by show World.cell? _ _ = some (.int .i64 12); go_simp, by show World.cell? _ _ = some (.int .i64 9); go_simp, cells_two _ _ _ _ (by go_simp) (by go_simp), fun h => h, fun _ _ _ h => h⟩
  · omega
theorem three_ok : TaskOk threeP 2 where
  len := by decide
  kinds := by decide
  parts := by decide
  num := by decide
  price := by decide
  most := by decide
theorem tryStock_any (w : World) : Calls Try.prog 8 #[] w fun e w' => e = .returned (.bool true) ∧ Ext w w' := by
  go_enter Try.func8, Try.ntmps8
  go_wp2_with fail
  refine (Three_any _).mono ?_
  rintro e w1 ⟨pa, na, rfl, hp, hc, hE⟩
  have HO : Hid (Calls Try.prog 15 #[.agg #[.slice pa 3 3, .slice na 2 2]] w1 fun e w' => OrdPost (buyS threeP 3 [3, 2] 0 0 ([0, 0, 0], ⟨[], 0, 0, false⟩)).2 w1 e w') :=
    OrderGood_any (pks := threeP) three_ok (by decide) (by decide) [3, 2] na 2 w1 rfl (by decide) hp hc _ rfl
  have hb := three_best
  generalize buyS threeP 3 [3, 2] 0 0 ([0, 0, 0], ⟨[], 0, 0, false⟩) = r at HO hb
  clear hp hc
  go_wp2_with fail
  refine HO.out.mono ?_
  rintro e w2 ⟨⟨v, rfl⟩, hE2⟩
  rw [if_pos hb.2, if_pos hb.2, hb.1]
  go_wp2
  all_goals go_ret
  all_goals exact ⟨rfl, hE.trans hE2⟩
end Go.Proofs.Ytechakkdcllgoaa
/- The law TopTubingRows: its walk. -/
namespace Go.Proofs.Ytechakkdcllgoaa
open Go.RowKit

set_option maxHeartbeats 4000000 in
theorem far_any (p q : Pt) (hp : InE p) (hq : InE q) (w : World) : Calls Try.prog 4 #[.agg #[.int .i64 p.1, .int .i64 p.2], .agg #[.int .i64 q.1, .int .i64 q.2]] w fun e w' => e = .returned (.int .i64 (man p q)) ∧ Ext w w' := by
  obtain ⟨p1, p2⟩ := p
  obtain ⟨q1, q2⟩ := q
  unfold InE at hp hq
  dsimp only at hp hq
  have i1 : IntKind.i64.wrap (p1 - q1) = p1 - q1 := IntWalk.i64_in _ (by omega)
  have i2 : IntKind.i64.wrap (q1 - p1) = q1 - p1 := IntWalk.i64_in _ (by omega)
  have i3 : IntKind.i64.wrap (p2 - q2) = p2 - q2 := IntWalk.i64_in _ (by omega)
  have i4 : IntKind.i64.wrap (q2 - p2) = q2 - p2 := IntWalk.i64_in _ (by omega)
  have i5 : IntKind.i64.wrap (max (p1 - q1) (q1 - p1) + max (p2 - q2) (q2 - p2)) = max (p1 - q1) (q1 - p1) + max (p2 - q2) (q2 - p2) := IntWalk.i64_in _ (by omega)
  unfold man ab
  dsimp only
  go_enter Try.func4, Try.ntmps4
  go_wp2
  all_goals go_ret
  all_goals exact ⟨ret_int (by omega), ((Ext.refl _).alloc _).alloc _⟩

/-- six cells of a new block -/
structure L6 (w : World) (b : Nat) (c0 c1 c2 c3 c4 c5 : Int) : Prop where
  g0 : w.cell? ⟨b, 0, none⟩ = some (.int .i64 c0)
  g1 : w.cell? ⟨b, 1, none⟩ = some (.int .i64 c1)
  g2 : w.cell? ⟨b, 2, none⟩ = some (.int .i64 c2)
  g3 : w.cell? ⟨b, 3, none⟩ = some (.int .i64 c3)
  g4 : w.cell? ⟨b, 4, none⟩ = some (.int .i64 c4)
  g5 : w.cell? ⟨b, 5, none⟩ = some (.int .i64 c5)
  z0 : w.frozen? ⟨b, 0, none⟩ = false
  z1 : w.frozen? ⟨b, 1, none⟩ = false
  z2 : w.frozen? ⟨b, 2, none⟩ = false
  z3 : w.frozen? ⟨b, 3, none⟩ = false
  z4 : w.frozen? ⟨b, 4, none⟩ = false
  z5 : w.frozen? ⟨b, 5, none⟩ = false
theorem L6.put0 {w : World} {b : Nat} {c0 c1 c2 c3 c4 c5 : Int} (h : L6 w b c0 c1 c2 c3 c4 c5) (a d : Int) : L6 ((w.setCell ⟨b, 0, none⟩ (.int .i64 a)).setCell ⟨b, 1, none⟩ (.int .i64 d)).drew b a d c2 c3 c4 c5 := by
  obtain ⟨l0, l1, l2, l3, l4, l5, f0, f1, f2, f3, f4, f5⟩ := h
  exact ⟨by go_simp, by go_simp, by go_simp, by go_simp, by go_simp, by go_simp, by go_simp, by go_simp, by go_simp, by go_simp, by go_simp, by go_simp⟩
theorem L6.put1 {w : World} {b : Nat} {c0 c1 c2 c3 c4 c5 : Int} (h : L6 w b c0 c1 c2 c3 c4 c5) (a d : Int) : L6 ((w.setCell ⟨b, 2, none⟩ (.int .i64 a)).setCell ⟨b, 3, none⟩ (.int .i64 d)).drew b c0 c1 a d c4 c5 := by
  obtain ⟨l0, l1, l2, l3, l4, l5, f0, f1, f2, f3, f4, f5⟩ := h
  exact ⟨by go_simp, by go_simp, by go_simp, by go_simp, by go_simp, by go_simp, by go_simp, by go_simp, by go_simp, by go_simp, by go_simp, by go_simp⟩
theorem L6.put2 {w : World} {b : Nat} {c0 c1 c2 c3 c4 c5 : Int} (h : L6 w b c0 c1 c2 c3 c4 c5) (a d : Int) : L6 ((w.setCell ⟨b, 4, none⟩ (.int .i64 a)).setCell ⟨b, 5, none⟩ (.int .i64 d)).drew b c0 c1 c2 c3 a d := by
  obtain ⟨l0, l1, l2, l3, l4, l5, f0, f1, f2, f3, f4, f5⟩ := h
  exact ⟨by go_simp, by go_simp, by go_simp, by go_simp, by go_simp, by go_simp, by go_simp, by go_simp, by go_simp, by go_simp, by go_simp, by go_simp⟩
def upTo (k : Nat) (j : Nat) (y : Int) : Int := if j < k then y else 0

set_option maxHeartbeats 4000000 in
set_option maxRecDepth 100000 in
theorem TubingRows_any (x0 x1 x2 x3 x4 x5 : Int) (w : World) (h0 : 0 ≤ x0 ∧ x0 < 256) (h1 : 0 ≤ x1 ∧ x1 < 256) (h2 : 0 ≤ x2 ∧ x2 < 256) (h3 : 0 ≤ x3 ∧ x3 < 256) (h4 : 0 ≤ x4 ∧ x4 < 256) (h5 : 0 ≤ x5 ∧ x5 < 256) :
    Calls Try.prog 3 #[.agg #[.int .u8 x0, .int .u8 x1, .int .u8 x2, .int .u8 x3, .int .u8 x4, .int .u8 x5]] w fun e w' => e = .returned (.bool true) ∧ Ext w w' := by
  go_enter Try.func3, Try.ntmps3
  have E0 : Ext w (((w.alloc (.cells #[.int .u8 x0, .int .u8 x1, .int .u8 x2, .int .u8 x3, .int .u8 x4, .int .u8 x5] 22)).alloc (.cells #[.int .i64 8, .int .i64 8, .slice none 0 0] 25)).alloc (.cells #[.int .i64 0, .int .i64 0, .int .i64 0, .int .i64 0, .int .i64 0, .int .i64 0] 28)) := (((Ext.refl _).alloc _).alloc _).alloc _
  have x0c : (((w.alloc (.cells #[.int .u8 x0, .int .u8 x1, .int .u8 x2, .int .u8 x3, .int .u8 x4, .int .u8 x5] 22)).alloc (.cells #[.int .i64 8, .int .i64 8, .slice none 0 0] 25)).alloc (.cells #[.int .i64 0, .int .i64 0, .int .i64 0, .int .i64 0, .int .i64 0, .int .i64 0] 28)).cell? ⟨w.heap.size, 0, none⟩ = some (.int .u8 x0) := by go_simp
  have x1c : (((w.alloc (.cells #[.int .u8 x0, .int .u8 x1, .int .u8 x2, .int .u8 x3, .int .u8 x4, .int .u8 x5] 22)).alloc (.cells #[.int .i64 8, .int .i64 8, .slice none 0 0] 25)).alloc (.cells #[.int .i64 0, .int .i64 0, .int .i64 0, .int .i64 0, .int .i64 0, .int .i64 0] 28)).cell? ⟨w.heap.size, 1, none⟩ = some (.int .u8 x1) := by go_simp
  have x2c : (((w.alloc (.cells #[.int .u8 x0, .int .u8 x1, .int .u8 x2, .int .u8 x3, .int .u8 x4, .int .u8 x5] 22)).alloc (.cells #[.int .i64 8, .int .i64 8, .slice none 0 0] 25)).alloc (.cells #[.int .i64 0, .int .i64 0, .int .i64 0, .int .i64 0, .int .i64 0, .int .i64 0] 28)).cell? ⟨w.heap.size, 2, none⟩ = some (.int .u8 x2) := by go_simp
  have x3c : (((w.alloc (.cells #[.int .u8 x0, .int .u8 x1, .int .u8 x2, .int .u8 x3, .int .u8 x4, .int .u8 x5] 22)).alloc (.cells #[.int .i64 8, .int .i64 8, .slice none 0 0] 25)).alloc (.cells #[.int .i64 0, .int .i64 0, .int .i64 0, .int .i64 0, .int .i64 0, .int .i64 0] 28)).cell? ⟨w.heap.size, 3, none⟩ = some (.int .u8 x3) := by go_simp
  have x4c : (((w.alloc (.cells #[.int .u8 x0, .int .u8 x1, .int .u8 x2, .int .u8 x3, .int .u8 x4, .int .u8 x5] 22)).alloc (.cells #[.int .i64 8, .int .i64 8, .slice none 0 0] 25)).alloc (.cells #[.int .i64 0, .int .i64 0, .int .i64 0, .int .i64 0, .int .i64 0, .int .i64 0] 28)).cell? ⟨w.heap.size, 4, none⟩ = some (.int .u8 x4) := by go_simp
  have x5c : (((w.alloc (.cells #[.int .u8 x0, .int .u8 x1, .int .u8 x2, .int .u8 x3, .int .u8 x4, .int .u8 x5] 22)).alloc (.cells #[.int .i64 8, .int .i64 8, .slice none 0 0] 25)).alloc (.cells #[.int .i64 0, .int .i64 0, .int .i64 0, .int .i64 0, .int .i64 0, .int .i64 0] 28)).cell? ⟨w.heap.size, 5, none⟩ = some (.int .u8 x5) := by go_simp
  have g1 : (((w.alloc (.cells #[.int .u8 x0, .int .u8 x1, .int .u8 x2, .int .u8 x3, .int .u8 x4, .int .u8 x5] 22)).alloc (.cells #[.int .i64 8, .int .i64 8, .slice none 0 0] 25)).alloc (.cells #[.int .i64 0, .int .i64 0, .int .i64 0, .int .i64 0, .int .i64 0, .int .i64 0] 28)).cell? ⟨w.heap.size + 1, 0, none⟩ = some (.int .i64 8) := by go_simp
  have g2 : (((w.alloc (.cells #[.int .u8 x0, .int .u8 x1, .int .u8 x2, .int .u8 x3, .int .u8 x4, .int .u8 x5] 22)).alloc (.cells #[.int .i64 8, .int .i64 8, .slice none 0 0] 25)).alloc (.cells #[.int .i64 0, .int .i64 0, .int .i64 0, .int .i64 0, .int .i64 0, .int .i64 0] 28)).cell? ⟨w.heap.size + 1, 1, none⟩ = some (.int .i64 8) := by go_simp
  have g3 : (((w.alloc (.cells #[.int .u8 x0, .int .u8 x1, .int .u8 x2, .int .u8 x3, .int .u8 x4, .int .u8 x5] 22)).alloc (.cells #[.int .i64 8, .int .i64 8, .slice none 0 0] 25)).alloc (.cells #[.int .i64 0, .int .i64 0, .int .i64 0, .int .i64 0, .int .i64 0, .int .i64 0] 28)).cell? ⟨w.heap.size + 1, 2, none⟩ = some (.slice none 0 0) := by go_simp
  have L0 : Hid (L6 (((w.alloc (.cells #[.int .u8 x0, .int .u8 x1, .int .u8 x2, .int .u8 x3, .int .u8 x4, .int .u8 x5] 22)).alloc (.cells #[.int .i64 8, .int .i64 8, .slice none 0 0] 25)).alloc (.cells #[.int .i64 0, .int .i64 0, .int .i64 0, .int .i64 0, .int .i64 0, .int .i64 0] 28)) (w.heap.size + 1 + 1) 0 0 0 0 0 0) := ⟨by go_simp, by go_simp, by go_simp, by go_simp, by go_simp, by go_simp, by go_simp, by go_simp, by go_simp, by go_simp, by go_simp, by go_simp⟩
  go_wp2_with fail
  generalize (((w.alloc (.cells #[.int .u8 x0, .int .u8 x1, .int .u8 x2, .int .u8 x3, .int .u8 x4, .int .u8 x5] 22)).alloc (.cells #[.int .i64 8, .int .i64 8, .slice none 0 0] 25)).alloc (.cells #[.int .i64 0, .int .i64 0, .int .i64 0, .int .i64 0, .int .i64 0, .int .i64 0] 28)) = W at E0 x0c x1c x2c x3c x4c x5c g1 g2 g3 L0 ⊢
  go_loopw [16] (fun i wr => ∃ k : Nat, k ≤ 3 ∧ i = .int .i64 k ∧ Hid (L6 wr (w.heap.size + 1 + 1) (upTo k 0 (x0 % 8)) (upTo k 0 (x1 % 8)) (upTo k 1 (x2 % 8)) (upTo k 1 (x3 % 8)) (upTo k 2 (x4 % 8)) (upTo k 2 (x5 % 8))) ∧ Hid (Chg (fun b => b = w.heap.size + 1 + 1) W wr) ∧ Hid (Ext w wr)) (fun i _ => 3 - (intOf i).toNat)
  case atStart => exact ⟨0, by omega, rfl, L0.out, Chg.refl _ _, E0⟩
  case round =>
    obtain ⟨k, hk, rfl, hl, hch, hex⟩ := hrel
    have x0c := cell_chg hch.out x0c (by omega)
    have x1c := cell_chg hch.out x1c (by omega)
    have x2c := cell_chg hch.out x2c (by omega)
    have x3c := cell_chg hch.out x3c (by omega)
    have x4c := cell_chg hch.out x4c (by omega)
    have x5c := cell_chg hch.out x5c (by omega)
    have g1 := cell_chg hch.out g1 (by omega)
    have g2 := cell_chg hch.out g2 (by omega)
    have g3 := cell_chg hch.out g3 (by omega)
    obtain ⟨l0, l1, l2, l3, l4, l5, f0, f1, f2, f3, f4, f5⟩ := hl.out
    have zx := cell_lt x0c
    have zl := cell_lt l0
    dsimp only at zx zl
    by_cases hk0 : k = 0
    · subst hk0
      clear hk
      go_wp2_with fail
      go_region
      go_wp2
      refine ⟨⟨1, by omega, by go_num, ?_, ?_, ?_⟩, by simp [intOf]⟩
      · exact hl.out.put0 _ _
      · exact ((hch.out.trans (Chg.setCell (B := fun b => b = w.heap.size + 1 + 1) ⟨w.heap.size + 1 + 1, 0, none⟩ _ rfl)).trans (Chg.setCell (B := fun b => b = w.heap.size + 1 + 1) ⟨w.heap.size + 1 + 1, 1, none⟩ _ rfl)).trans (Chg.ext (Ext.refl _).drew)
      · exact (Below.setCell (p := ⟨w.heap.size + 1 + 1, 1, none⟩) (Below.setCell (p := ⟨w.heap.size + 1 + 1, 0, none⟩) hex.out (by show w.heap.size ≤ w.heap.size + 1 + 1; omega) _) (by show w.heap.size ≤ w.heap.size + 1 + 1; omega) _).drew
    by_cases hk1 : k = 1
    · subst hk1
      clear hk
      go_wp2_with fail
      go_region
      go_wp2
      refine ⟨⟨2, by omega, by go_num, ?_, ?_, ?_⟩, by simp [intOf]⟩
      · exact hl.out.put1 _ _
      · exact ((hch.out.trans (Chg.setCell (B := fun b => b = w.heap.size + 1 + 1) ⟨w.heap.size + 1 + 1, 2, none⟩ _ rfl)).trans (Chg.setCell (B := fun b => b = w.heap.size + 1 + 1) ⟨w.heap.size + 1 + 1, 3, none⟩ _ rfl)).trans (Chg.ext (Ext.refl _).drew)
      · exact (Below.setCell (p := ⟨w.heap.size + 1 + 1, 3, none⟩) (Below.setCell (p := ⟨w.heap.size + 1 + 1, 2, none⟩) hex.out (by show w.heap.size ≤ w.heap.size + 1 + 1; omega) _) (by show w.heap.size ≤ w.heap.size + 1 + 1; omega) _).drew
    by_cases hk2 : k = 2
    · subst hk2
      clear hk
      go_wp2_with fail
      go_region
      go_wp2
      refine ⟨⟨3, by omega, by go_num, ?_, ?_, ?_⟩, by simp [intOf]⟩
      · exact hl.out.put2 _ _
      · exact ((hch.out.trans (Chg.setCell (B := fun b => b = w.heap.size + 1 + 1) ⟨w.heap.size + 1 + 1, 4, none⟩ _ rfl)).trans (Chg.setCell (B := fun b => b = w.heap.size + 1 + 1) ⟨w.heap.size + 1 + 1, 5, none⟩ _ rfl)).trans (Chg.ext (Ext.refl _).drew)
      · exact (Below.setCell (p := ⟨w.heap.size + 1 + 1, 5, none⟩) (Below.setCell (p := ⟨w.heap.size + 1 + 1, 4, none⟩) hex.out (by show w.heap.size ≤ w.heap.size + 1 + 1; omega) _) (by show w.heap.size ≤ w.heap.size + 1 + 1; omega) _).drew
    have hk3 : k = 3 := by omega
    subst hk3
    have HL : Hid (L6 wr (w.heap.size + 1 + 1) (x0 % 8) (x1 % 8) (x2 % 8) (x3 % 8) (x4 % 8) (x5 % 8)) := hl.out
    clear l0 l1 l2 l3 l4 l5 f0 f1 f2 f3 f4 f5 hl x0c x1c x2c x3c x4c x5c hk0 hk1 hk2 hk zx
    obtain ⟨l0, l1, l2, l3, l4, l5, _, _, _, _, _, _⟩ := HL.out
    have hp : InE (x0 % 8, x1 % 8) := by unfold InE; dsimp only; omega
    have hq : InE (x2 % 8, x3 % 8) := by unfold InE; dsimp only; omega
    have hr : InE (x4 % 8, x5 % 8) := by unfold InE; dsimp only; omega
    generalize x0 % 8 = y0 at l0 hp
    generalize x1 % 8 = y1 at l1 hp
    generalize x2 % 8 = y2 at l2 hq
    generalize x3 % 8 = y3 at l3 hq
    generalize x4 % 8 = y4 at l4 hr
    generalize x5 % 8 = y5 at l5 hr
    clear HL hch L0 E0
    have E1 := hex.out
    clear hex
    obtain ⟨dE, dLe, dGe⟩ := ducts_e8 hp hq hr
    obtain ⟨mE, m2⟩ := meet_e8 hp hq hr
    obtain ⟨nE, nV⟩ := len_e8 hp hq
    have b1 : 0 ≤ man (y0, y1) (y2, y3) ∧ man (y0, y1) (y2, y3) ≤ 14 := by unfold man ab InE at *; dsimp only at *; omega
    have b2 : 0 ≤ man (y0, y1) (y4, y5) ∧ man (y0, y1) (y4, y5) ≤ 14 := by unfold man ab InE at *; dsimp only at *; omega
    have b3 : 0 ≤ man (y4, y5) (y2, y3) ∧ man (y4, y5) (y2, y3) ≤ 14 := by unfold man ab InE at *; dsimp only at *; omega
    have CL : Hid (∀ w0, Calls Try.prog 5 #[.agg #[.int .i64 8, .int .i64 8, .slice none 0 0], .agg #[.int .i64 y0, .int .i64 y1], .agg #[.int .i64 y2, .int .i64 y3]] w0 fun e w' => e = .returned (.tuple #[.int .i64 (man (y0, y1) (y2, y3)), .int .i64 0]) ∧ Ext w0 w') := fun w0 => by
      rw [← nV, ← nE]
      exact Length_any e8 (y0, y1) (y2, y3) none 0 w0 (by decide) (fun i hi => by simp [e8] at hi)
    have CD : Hid (∀ w0 b, Cells4 w0 (some ⟨b, 0, none⟩) [((y0, y1), (y4, y5)), ((y4, y5), (y2, y3))] → Calls Try.prog 6 #[.agg #[.int .i64 8, .int .i64 8, .slice none 0 0], .slice (some ⟨b, 0, none⟩) 2 2] w0 fun e w' => ∃ v, e = .returned (.tuple #[v, .int .i64 (ductN e8 [((y0, y1), (y4, y5)), ((y4, y5), (y2, y3))]), .int .i64 0]) ∧ Ext w0 w') := fun w0 b hc =>
      (Ducts_any e8 [((y0, y1), (y4, y5)), ((y4, y5), (y2, y3))] none 0 (some ⟨b, 0, none⟩) 2 w0 (by decide) (fun i hi => by simp [e8] at hi) (by simp [maxLen]) hc (fun _ _ => trivial)).mono fun e w' h => by
        obtain ⟨a, cap, h1, _, h3⟩ := h
        rw [dE] at h1
        exact ⟨_, h1, h3⟩
    have CM : Hid (∀ w0, Calls Try.prog 7 #[.agg #[.int .i64 8, .int .i64 8, .slice none 0 0], .agg #[.int .i64 y0, .int .i64 y1, .int .i64 y2, .int .i64 y3, .int .i64 y4, .int .i64 y5]] w0 fun e w' => e = .returned (.tuple #[.agg #[.int .i64 (meetP e8 (y0, y1) (y2, y3) (y4, y5)).1, .int .i64 (meetP e8 (y0, y1) (y2, y3) (y4, y5)).2], .int .i64 (meetN e8 (y0, y1) (y2, y3) (y4, y5)), .int .i64 0]) ∧ Ext w0 w') := fun w0 => by
      rw [← mE]
      exact Meet_any e8 (y0, y1) (y2, y3) (y4, y5) none 0 w0 (by decide) (fun i hi => by simp [e8] at hi)
    have F1 : Hid (∀ w0, Calls Try.prog 4 #[.agg #[.int .i64 y0, .int .i64 y1], .agg #[.int .i64 y2, .int .i64 y3]] w0 fun e w' => e = .returned (.int .i64 (man (y0, y1) (y2, y3))) ∧ Ext w0 w') := fun w0 => far_any (y0, y1) (y2, y3) hp hq w0
    have F2 : Hid (∀ w0, Calls Try.prog 4 #[.agg #[.int .i64 y0, .int .i64 y1], .agg #[.int .i64 y4, .int .i64 y5]] w0 fun e w' => e = .returned (.int .i64 (man (y0, y1) (y4, y5))) ∧ Ext w0 w') := fun w0 => far_any (y0, y1) (y4, y5) hp hr w0
    have F3 : Hid (∀ w0, Calls Try.prog 4 #[.agg #[.int .i64 y4, .int .i64 y5], .agg #[.int .i64 y2, .int .i64 y3]] w0 fun e w' => e = .returned (.int .i64 (man (y4, y5) (y2, y3))) ∧ Ext w0 w') := fun w0 => far_any (y4, y5) (y2, y3) hr hq w0
    have F4 : Hid (∀ w0, Calls Try.prog 4 #[.agg #[.int .i64 y2, .int .i64 y3], .agg #[.int .i64 y4, .int .i64 y5]] w0 fun e w' => e = .returned (.int .i64 (man (y4, y5) (y2, y3))) ∧ Ext w0 w') := fun w0 => by
      rw [man_symm]
      exact far_any (y2, y3) (y4, y5) hq hr w0
    rw [man_symm (y2, y3) (y4, y5)] at m2
    clear dE mE nE nV hp hq hr h0 h1 h2 h3 h4 h5
    generalize man (y0, y1) (y2, y3) = N at b1 dLe m2 CL F1
    generalize man (y0, y1) (y4, y5) = F at b2 dGe m2 F2
    generalize man (y4, y5) (y2, y3) = D at b3 dGe m2 F3 F4
    generalize ductN e8 [((y0, y1), (y4, y5)), ((y4, y5), (y2, y3))] = M at dLe dGe CD
    generalize meetN e8 (y0, y1) (y2, y3) (y4, y5) = S at m2 CM
    generalize meetP e8 (y0, y1) (y2, y3) (y4, y5) = PM at CM
    go_wp2_with fail
    refine (CL.out _).mono ?_
    rintro e w1 ⟨rfl, hE⟩
    have E2 := E1.trans hE
    have l0 := hE.cell l0
    have l1 := hE.cell l1
    have l2 := hE.cell l2
    have l3 := hE.cell l3
    have l4 := hE.cell l4
    have l5 := hE.cell l5
    have g1 := hE.cell g1
    have g2 := hE.cell g2
    have g3 := hE.cell g3
    have zl := cell_lt l0
    have zg := cell_lt g1
    dsimp only at zl zg
    clear hE CL E1
    go_wp2_with fail
    refine (CD.out _ w1.heap.size (fun i hi => ?_)).mono ?_
    · rcases i with _ | _ | i
      · exact ⟨w1.heap.size, 0, rfl, by show World.cell? _ _ = some (.int .i64 y0); go_simp, by show World.cell? _ _ = some (.int .i64 y1); go_simp, by show World.cell? _ _ = some (.int .i64 y4); go_simp, by show World.cell? _ _ = some (.int .i64 y5); go_simp⟩
      · exact ⟨w1.heap.size, 0, rfl, by show World.cell? _ _ = some (.int .i64 y4); go_simp, by show World.cell? _ _ = some (.int .i64 y5); go_simp, by show World.cell? _ _ = some (.int .i64 y2); go_simp, by show World.cell? _ _ = some (.int .i64 y3); go_simp⟩
      · simp only [List.length_cons, List.length_nil] at hi
        omega
    rintro e w2 ⟨v, rfl, hE⟩
    have hE := ((Ext.refl w1).alloc _).trans hE
    have E3 := E2.trans hE
    have l0 := hE.cell l0
    have l1 := hE.cell l1
    have l2 := hE.cell l2
    have l3 := hE.cell l3
    have l4 := hE.cell l4
    have l5 := hE.cell l5
    have g1 := hE.cell g1
    have g2 := hE.cell g2
    have g3 := hE.cell g3
    have zl := cell_lt l0
    have zg := cell_lt g1
    dsimp only at zl zg
    clear hE CD E2
    go_wp2_with fail
    refine (CM.out _).mono ?_
    rintro e w3 ⟨rfl, hE⟩
    have E4 := E3.trans hE
    have l0 := hE.cell l0
    have l1 := hE.cell l1
    have l2 := hE.cell l2
    have l3 := hE.cell l3
    have l4 := hE.cell l4
    have l5 := hE.cell l5
    have g1 := hE.cell g1
    have g2 := hE.cell g2
    have g3 := hE.cell g3
    have zl := cell_lt l0
    have zg := cell_lt g1
    dsimp only at zl zg
    clear hE CM E3
    go_wp2_with fail
    have hA : Ext w3 (w3.alloc (.cells #[.int .i64 PM.1, .int .i64 PM.2] 27)) := (Ext.refl _).alloc _
    have l0 := hA.cell l0
    have l1 := hA.cell l1
    have l2 := hA.cell l2
    have l3 := hA.cell l3
    have l4 := hA.cell l4
    have l5 := hA.cell l5
    have zl := cell_lt l0
    dsimp only at zl
    have E5 := E4.trans hA
    generalize w3.alloc (.cells #[.int .i64 PM.1, .int .i64 PM.2] 27) = W4 at hA E5 l0 l1 l2 l3 l4 l5 zl ⊢
    clear hA E4 g1 g2 g3 zg
    have q1 : IntKind.i64.wrap (F + D) = F + D := IntWalk.i64_in _ (by omega)
    have q2 : ¬ F + D < M := by omega
    have q3 : ¬ M < N := by omega
    have q4 : decide (F + D < M) = false := by simp; omega
    have q5 : decide (M < N) = false := by simp; omega
    go_region_held3 (fun w' => Sees W4 w') ((repeat (first | exact Sees.refl _ | assumption | apply Sees.drew | apply Sees.alloc | (refine Sees.ext ?_ (by assumption))))) (first | (go_at_call 4; have k20 := k2; refine (F3.out _).mono ?_; rintro e W6 ⟨rfl, hE2⟩) | (go_at_call 4; have k10 := k1; refine (F2.out _).mono ?_; rintro e w' ⟨rfl, hE2⟩; have k2 := hE2) | (go_at_call 4; refine (F1.out _).mono ?_; rintro e w' ⟨rfl, hE2⟩; have k1 := hE2))
    have hS : Ext W4 W6 := (show Sees W4 W6 by assumption).2.2
    have E6 := E5.trans hS
    have l0 := hS.cell l0
    have l1 := hS.cell l1
    have l2 := hS.cell l2
    have l3 := hS.cell l3
    have l4 := hS.cell l4
    have l5 := hS.cell l5
    have zl := cell_lt l0
    dsimp only at zl
    clear hS E5 q1 q2 q3 q4 q5 k1 k2 k10 k20 hE2
    have r1 : IntKind.i64.wrap (2 * S) = 2 * S := IntWalk.i64_in _ (by omega)
    have r2 : IntKind.i64.wrap (N + D) = N + D := IntWalk.i64_in _ (by omega)
    have r3 : IntKind.i64.wrap (N + D + F) = N + D + F := IntWalk.i64_in _ (by omega)
    have r4 : (2 * S == N + D + F) = true := by simp; omega
    have r5 : decide (2 * S = N + D + F) = true := by simp; omega
    go_wp2_with fail
    go_region_held3 (fun w' => Sees W6 w') ((repeat (first | exact Sees.refl _ | assumption | apply Sees.drew | apply Sees.alloc | (refine Sees.ext ?_ (by assumption))))) (first | (go_at_call 8; refine (tryStock_any _).mono ?_; rintro e w' ⟨rfl, hE2⟩) | (go_at_call 4; have k20 := k2; refine (F2.out _).mono ?_; rintro e w' ⟨rfl, hE2⟩) | (go_at_call 4; have k10 := k1; refine (F4.out _).mono ?_; rintro e w' ⟨rfl, hE2⟩; have k2 := hE2) | (go_at_call 4; refine (F1.out _).mono ?_; rintro e w' ⟨rfl, hE2⟩; have k1 := hE2))
    go_wp2
    go_ret
    exact ⟨rfl, E6.trans (show Sees W6 _ by assumption).2.2⟩
end Go.Proofs.Ytechakkdcllgoaa
/- Six bytes as an argument, opened. -/
namespace Go.Proofs.Ytechakkdcllgoaa
open Go.RowKit Go.ChangeShapes Go.WideShapes Go.Joins Go.Deep

theorem list6b {α : Type} {l : List α} (h : l.length = 6) : ∃ a b c d e f, l = [a, b, c, d, e, f] := by
  match l, h with
  | [a, b, c, d, e, f], _ => exact ⟨a, b, c, d, e, f, rfl⟩
theorem cellsOfU8 : Try.prog.cellsOf 5 = 1 := by kernel_rfl
theorem byte_bd {n : Int} (h : (Lit.int .u8 n).wf = true) : 0 ≤ n ∧ n < 256 := by
  simp only [Lit.wf, Bool.and_eq_true, decide_eq_true_eq] at h
  have h1 : IntKind.u8.min = 0 := by decide
  have h2 : IntKind.u8.max = 255 := by decide
  rw [h1, h2] at h
  omega
section
variable {H : Type} {enc : TypeId × Value → H} {w : World} {base : Nat} {spare : Nat → Bool} {held : Bool}
set_option maxRecDepth 100000 in
theorem open_bytes6 {r : Reach} {b0 : Nat} {v : Value} {d : DataW H} {p : List MemPlace} (hv : Value.okWide Try.prog w r b0 22 v) (h : DataW.Trod enc Try.prog w base spare held 22 v d p) :
    ∃ x0 x1 x2 x3 x4 x5 : Int, v = .agg #[.int .u8 x0, .int .u8 x1, .int .u8 x2, .int .u8 x3, .int .u8 x4, .int .u8 x5] ∧ (0 ≤ x0 ∧ x0 < 256) ∧ (0 ≤ x1 ∧ x1 < 256) ∧ (0 ≤ x2 ∧ x2 < 256) ∧ (0 ≤ x3 ∧ x3 < 256) ∧ (0 ≤ x4 ∧ x4 < 256) ∧ (0 ≤ x5 ∧ x5 < 256) := by
  simp only [Value.okWide, Try.underlying22] at hv
  obtain ⟨cs, rfl, _, _⟩ := hv
  obtain ⟨fuel, hf⟩ := h
  obtain ⟨xs, m, _, _, hl, hxs, hx⟩ := DataW.trod_array Try.underlying22 hf
  have hl6 : cs.toList.length = 6 := hl.trans (by kernel_rfl)
  obtain ⟨a, b, c, d, e, f, hcs⟩ := list6b hl6
  have hc : (Value.agg cs).cells.toList = [a, b, c, d, e, f] := hcs
  rw [hc, cellsOfU8] at hx
  have get : ∀ i, i < 6 → ∃ y, xs[i]? = some y := fun i hi => ⟨xs[i], List.getElem?_eq_getElem (by omega)⟩
  obtain ⟨y0, g0⟩ := get 0 (by omega)
  have k0 := hx 0 (by omega)
  rw [g0] at k0
  obtain ⟨x0, e0, _, w0⟩ := DataW.trod_int Try.underlying5 k0
  simp at e0
  subst e0
  obtain ⟨y1, g1⟩ := get 1 (by omega)
  have k1 := hx 1 (by omega)
  rw [g1] at k1
  obtain ⟨x1, e1, _, w1⟩ := DataW.trod_int Try.underlying5 k1
  simp at e1
  subst e1
  obtain ⟨y2, g2⟩ := get 2 (by omega)
  have k2 := hx 2 (by omega)
  rw [g2] at k2
  obtain ⟨x2, e2, _, w2⟩ := DataW.trod_int Try.underlying5 k2
  simp at e2
  subst e2
  obtain ⟨y3, g3⟩ := get 3 (by omega)
  have k3 := hx 3 (by omega)
  rw [g3] at k3
  obtain ⟨x3, e3, _, w3⟩ := DataW.trod_int Try.underlying5 k3
  simp at e3
  subst e3
  obtain ⟨y4, g4⟩ := get 4 (by omega)
  have k4 := hx 4 (by omega)
  rw [g4] at k4
  obtain ⟨x4, e4, _, w4⟩ := DataW.trod_int Try.underlying5 k4
  simp at e4
  subst e4
  obtain ⟨y5, g5⟩ := get 5 (by omega)
  have k5 := hx 5 (by omega)
  rw [g5] at k5
  obtain ⟨x5, e5, _, w5⟩ := DataW.trod_int Try.underlying5 k5
  simp at e5
  subst e5
  refine ⟨x0, x1, x2, x3, x4, x5, ?_, byte_bd w0, byte_bd w1, byte_bd w2, byte_bd w3, byte_bd w4, byte_bd w5⟩
  rw [show cs = cs.toList.toArray by simp, hcs]
end
end Go.Proofs.Ytechakkdcllgoaa
