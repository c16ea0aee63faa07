/- Steps of the proof: USpaP, USpr, ULLst, USpq. No conditions. -/
import Derived.Test.YtmndcdjcodfchaaGreatDoorZUB1
import Derived.Test.YtmndcdjcodfchaaGreatDoorZUB2
import Derived.Test.YtmndcdjcodfchaaGreatDoorZUB3
import Derived.Test.YtmndcdjcodfchaaGreatDoorZUB4
import Derived.Test.YtmndcdjcodfchaaGreatDoorZUB5
import Derived.Test.YtmndcdjcodfchaaGreatDoorZUB6
import Derived.Test.YtmndcdjcodfchaaGreatDoorZUB7
import Derived.Test.YtmndcdjcodfchaaGreatDoorZUB8
import Derived.Test.YtmndcdjcodfchaaGreatDoorZUSpa1
namespace Go.Proofs.YtmndcdjcodfchaaGreatDoor
open Go.RowKit
theorem Searched.erase {pks : List Pk} {need : List Int} (h : Searched pks need) (i : Nat) : Searched (pks.eraseIdx i) need := by
  have hle : (pks.eraseIdx i).length ≤ pks.length := List.length_eraseIdx_le ..
  have hm : ∀ p, p ∈ pks.eraseIdx i → p ∈ pks := fun p hp => List.mem_of_mem_eraseIdx hp
  exact ⟨⟨h.r.k0, h.r.k1, h.r.nd, Nat.le_trans hle h.r.pl, fun p hp => h.r.parts p (hm p hp), fun p hp => h.r.num p (hm p hp), fun p hp => h.r.price p (hm p hp), fun p hp => h.r.most p (hm p hp)⟩, Nat.le_trans hle h.len, h.nd⟩
theorem Searched.need {pks : List Pk} {need need' : List Int} (h : Searched pks need) (hl : need'.length = need.length) (hn : ∀ x ∈ need', 0 ≤ x ∧ x ≤ 20) : Searched pks need' :=
  ⟨⟨by rw [hl]; exact h.r.k0, by rw [hl]; exact h.r.k1, fun x hx => by have := hn x hx; omega, h.r.pl, fun p hp => by rw [hl]; exact h.r.parts p hp, h.r.num, h.r.price, h.r.most⟩, h.len, hn⟩
theorem Searched.n20 {pks : List Pk} {need : List Int} (h : Searched pks need) : ∀ k, k < need.length → need.getD k 0 ≤ 20 := fun k hk => (h.nd _ (getD_mem hk)).2
theorem Searched.order {pks : List Pk} {need : List Int} (h : Searched pks need) : (orderE pks need = if (bestS pks need).found = true then 0 else 6) ∧ (orderL pks need = if (bestS pks need).found = true then (bestS pks need).order else []) ∧ (orderP pks need = if (bestS pks need).found = true then (bestS pks need).price else 0) :=
  order_good (of_right h.r) h.limit
theorem tot_nn : ∀ {l : List Int}, (∀ x ∈ l, 0 ≤ x) → 0 ≤ totS l := by
  intro l
  induction l with
  | nil => intro _; exact Int.le_refl _
  | cons n l ih =>
    intro h
    show 0 ≤ n + totS l
    have h1 := h n (by simp)
    have h2 := ih fun x hx => h x (by simp [hx])
    omega
theorem tot_ge : ∀ {l : List Int} {k : Nat}, (∀ x ∈ l, 0 ≤ x) → l.getD k 0 ≤ totS l := by
  intro l
  induction l with
  | nil => intro k _; exact Int.le_refl _
  | cons n l ih =>
    intro k h
    have h1 := h n (by simp)
    have h2 : ∀ x ∈ l, 0 ≤ x := fun x hx => h x (by simp [hx])
    have h3 := tot_nn h2
    show _ ≤ n + totS l
    cases k with
    | zero => show n ≤ _; omega
    | succ k => have := ih (k := k) h2; show l.getD k 0 ≤ _; omega
theorem spare_less {pks : List Pk} {need : List Int} (h : Searched pks need) {i k : Nat} (hi : i < pks.length) (hk : k < pks.length) (hki : k ≠ i) (hc : Covers (pks.getD k pk0) (pks.getD i pk0)) (hm : ∀ j, j < (pks.eraseIdx i).length → totS need ≤ ((pks.eraseIdx i).getD j pk0).most) :
    orderE (pks.eraseIdx i) need = orderE pks need ∧ orderP (pks.eraseIdx i) need = orderP pks need := by
  have h' := h.erase i
  obtain ⟨e1, _, e3⟩ := h.order
  obtain ⟨g1, _, g3⟩ := h'.order
  have hnn : ∀ x ∈ need, 0 ≤ x := fun x hx => (h.nd x hx).1
  obtain ⟨f1, f2⟩ := best_less (M := 20) (S := totS need) (by decide) (tot_nn hnn) h.r.ok h.n20 (fun _ _ => tot_ge hnn) hi hk hki hc (fun p hp => by
    obtain ⟨j, hj, e⟩ := List.mem_iff_getElem.1 hp
    have := hm j hj
    rw [getD_of hj, e] at this
    exact this) h.best h'.best
  rw [e1, e3, g1, g3, ← f1]
  refine ⟨rfl, ?_⟩
  cases hf : (bestS pks need).found
  · simp
  · simp only [if_true]; exact (f2 hf).symm
theorem spare_fewer {pks : List Pk} {need need' : List Int} (h : Searched pks need) (hl : need'.length = need.length) (hn : ∀ x ∈ need', 0 ≤ x ∧ x ≤ 20) (hle : ∀ k, k < need.length → need'.getD k 0 ≤ need.getD k 0) (he : orderE pks need = 0) :
    orderE pks need' = 0 ∧ orderP pks need' ≤ orderP pks need := by
  have h' := h.need hl hn
  obtain ⟨e1, _, e3⟩ := h.order
  obtain ⟨g1, _, g3⟩ := h'.order
  have hf : (bestS pks need).found = true := by
    cases hf : (bestS pks need).found
    · rw [e1, hf] at he; simp at he
    · rfl
  obtain ⟨f1, f2⟩ := best_fewer h.best h'.best hl hle hf
  rw [g1, e3, g3, f1, hf]
  exact ⟨rfl, f2⟩
theorem spare_none {pks : List Pk} {need : List Int} (h : Searched pks need) :
    Searched pks (List.replicate need.length 0) ∧ orderE pks (List.replicate need.length 0) = 0 ∧ orderP pks (List.replicate need.length 0) = 0 ∧ (orderL pks (List.replicate need.length 0)).length = pks.length ∧ totS (orderL pks (List.replicate need.length 0)) = 0 ∧ ∀ i, i < (orderL pks (List.replicate need.length 0)).length → 0 ≤ (orderL pks (List.replicate need.length 0)).getD i 0 ∧ (orderL pks (List.replicate need.length 0)).getD i 0 ≤ 1048576 := by
  have hz : ∀ x ∈ List.replicate need.length (0 : Int), 0 ≤ x ∧ x ≤ 20 := fun x hx => by rw [List.eq_of_mem_replicate hx]; decide
  have h' : Searched pks (List.replicate need.length 0) := h.need List.length_replicate hz
  refine ⟨h', ?_⟩
  obtain ⟨g1, g2, g3⟩ := h'.order
  rw [g1, g2, g3]
  have hb := h'.best
  have h20 := h'.n20
  have hr := h'.r
  generalize hnd : List.replicate need.length (0 : Int) = nd at hb h20 hr hz
  generalize bestS pks nd = b at hb
  obtain ⟨o, ho⟩ : ∃ o, o = List.replicate pks.length (0 : Int) := ⟨_, rfl⟩
  have hol : o.length = pks.length := by rw [ho, List.length_replicate]
  have hog : ∀ i, o.getD i 0 = 0 := fun i => by
    rw [ho, List.getD_eq_getElem?_getD, List.getElem?_replicate]
    split <;> rfl
  have hod : ∀ f : Pk → Int, ∀ ps : List Pk, ∀ n, dotS f ps (List.replicate n 0) = 0 := fun f ps => by
    induction ps with
    | nil => intro n; rw [dotS_nil]
    | cons p ps ih =>
      intro n
      cases n with
      | zero => rfl
      | succ n =>
        show 0 * f p + dotS f ps (List.replicate n 0) = 0
        rw [ih, Int.zero_mul]; rfl
  have hot : ∀ n, totS (List.replicate n (0 : Int)) = 0 := fun n => by
    induction n with
    | zero => rfl
    | succ n ih => show 0 + totS (List.replicate n 0) = 0; rw [ih]; rfl
  have hmeet : meetS nd pks o = true := by
    rw [meetS_iff]
    intro k hk
    have h1 : amtS pks o k = 0 := by rw [ho]; exact hod _ _ _
    have h2 : nd.getD k 0 = 0 := by
      rw [← hnd, List.getD_eq_getElem?_getD, List.getElem?_replicate]
      split <;> rfl
    omega
  have h9 := best_all hb (by decide) hr.ok h20 hol (fun i hi => by rw [hog]; exact ⟨Int.le_refl _, (hr.most _ (getD_mem hi)).1⟩) hmeet
  have hc0 : costS pks o = 0 := by rw [ho]; exact hod _ _ _
  have ht0 : totS o = 0 := by rw [ho]; exact hot _
  rw [hc0, ht0] at h9
  unfold betterS at h9
  cases hf : b.found
  · rw [hf] at h9; simp at h9
  · rw [hf] at h9
    simp at h9
    obtain ⟨q1, q2, q3, q4⟩ := hb.yes hf
    obtain ⟨q5, q6⟩ := mem_caps.1 q1
    have hg : Gives pks nd b.order := ⟨hr, q5, fun i hi => ⟨(q6 i hi).1, (q6 i hi).2.1⟩⟩
    have hc := (costT_bd hg pks.length (Nat.le_refl _)).1
    rw [dotT_full _ hg.len rfl] at hc
    have hc : 0 ≤ costS pks b.order := hc
    have ht : 0 ≤ totS b.order := tot_nn fun x hx => by
      obtain ⟨i, hi, e⟩ := List.mem_iff_getElem.1 hx
      have := (q6 i (by omega)).1
      rw [getD_of hi, e] at this
      exact this
    simp only [if_true]
    exact ⟨by simp, by omega, q5, by omega, fun i hi => gives_bd hg i (by omega)⟩
theorem zero_parts (K : Nat) : ∀ i, (List.replicate K (0 : Int)).getD i 0 = 0 := fun i => by
  rw [List.getD_eq_getElem?_getD, List.getElem?_replicate]
  split <;> rfl
end Go.Proofs.YtmndcdjcodfchaaGreatDoor
namespace Go.Proofs.YtmndcdjcodfchaaGreatDoor
open Go.RowKit
theorem erase_pk {w : World} {g N i : Nat} {f : Nat → Value} {pks : List Pk} (hR : RowC w g ((flatG f pks N).take (i * 3) ++ (flatG f pks N).drop ((i + 1) * 3))) (hN : N = pks.length) (hi : i < N) (hs : ∀ t, t < N → SliceI w (f t) (pks.getD t pk0).parts) : PkG w (some ⟨g, 0, none⟩) (pks.eraseIdx i) := by
  have hl := flatG_len f pks N
  intro t ht
  rw [List.length_eraseIdx, if_pos (by omega)] at ht
  obtain ⟨q, hq⟩ : ∃ q, q = if t < i then t else t + 1 := ⟨_, rfl⟩
  have hqN : q < N := by rw [hq]; split <;> omega
  have e : (pks.eraseIdx i).getD t pk0 = pks.getD q pk0 := by
    rw [getD_erase, hq]
    split <;> rfl
  have key : ∀ r, r < 3 → ((flatG f pks N).take (i * 3) ++ (flatG f pks N).drop ((i + 1) * 3))[t * 3 + r]? = (flatG f pks N)[q * 3 + r]? := fun r hr => by
    by_cases h : t < i
    · rw [List.getElem?_append_left (by rw [List.length_take]; omega), List.getElem?_take_of_lt (by omega), hq, if_pos h]
    · rw [List.getElem?_append_right (by rw [List.length_take]; omega), List.length_take, Nat.min_eq_left (by omega), List.getElem?_drop, hq, if_neg h]
      congr 1
      omega
  obtain ⟨g1, g2, g3⟩ := flatG_get f pks N q hqN
  rw [e]
  refine ⟨g, 0, f q, rfl, ?_, hs q hqN, ?_, ?_⟩
  · have := (hR (t * 3 + 0) _ ((key 0 (by omega)).trans g1)).1
    rw [Nat.zero_add]; exact this
  · have := (hR (t * 3 + 1) _ ((key 1 (by omega)).trans g2)).1
    rw [Nat.zero_add]; exact this
  · have := (hR (t * 3 + 2) _ ((key 2 (by omega)).trans g3)).1
    rw [Nat.zero_add]; exact this
set_option maxHeartbeats 2000000 in
theorem fewP_any {need : List Int} {na : Option Addr} {nc L : Nat} {K : Nat} {w : World} {xb : Nat} {pv : Value} (ai : Option Addr) (ci : Nat) (p m : Int) (hx : w.cell? ⟨xb, 1, none⟩ = some (.slice na K nc)) (hc : CellsI w na need) (hK : K = need.length) (hl : K ≤ 100) (hb : ∀ i, i < need.length → 0 ≤ need.getD i 0 ∧ need.getD i 0 ≤ 1048576) :
    Calls Tryz.prog 37 #[.agg #[.slice ai L ci, .int .i64 p, .int .i64 m], .pointer (some ⟨xb, 0, none⟩)] w fun e w' => e = .returned (.bool (decide (m < totS need))) ∧ Ext w w' := by
  have HS := Lib.hid (fun W (hW : Ext w W) => sumI_any need na nc W (hc.ext hW) (by omega) hb)
  rw [← hK] at HS
  generalize totS need = s at HS ⊢
  clear hc hb hK hl
  have E0 : Ext w (w.alloc (.cells #[.slice ai L ci, .int .i64 p, .int .i64 m] 62)) := (Ext.refl _).alloc _
  have y1 := E0.cell hx
  have y2 : (w.alloc (.cells #[.slice ai L ci, .int .i64 p, .int .i64 m] 62)).cell? ⟨w.heap.size, 2, none⟩ = some (.int .i64 m) := by go_simp
  go_enter Tryz.func37, Tryz.ntmps37
  go_wp2
  generalize w.alloc (.cells #[.slice ai L ci, .int .i64 p, .int .i64 m] 62) = W at E0 y1 y2 ⊢
  obtain ⟨n, hn⟩ : ∃ n, n = w.heap.size := ⟨_, rfl⟩
  rw [← hn] at y2 ⊢
  refine wp_region_heldE 99 (fun w' => w'.cell? ⟨n, 2, none⟩ = some (.int .i64 m) ∧ w'.cell? ⟨xb, 1, none⟩ = some (.slice na K nc)) (by kernel_rfl) ?_
  have hS : W.drew.cell? ⟨n, 2, none⟩ = some (.int .i64 m) ∧ W.drew.cell? ⟨xb, 1, none⟩ = some (.slice na K nc) := ⟨y2, y1⟩
  have ED : Ext w W.drew := E0.drew
  clear E0 y1 y2 hx hn
  generalize W.drew = W1 at hS ED ⊢
  ((refine eTk 0 ?_); (refine eTk 1 ?_); (refine eTk 2 ?_); (refine eTk 3 ?_))
  (refine wpAnyE_one (i := 4) (o := ?_) ?_ (by kernel_rfl) (fun K hK => ?_); rotate_left; (focus ((simp only [List.getElem?_toArray, List.getElem?_cons_succ, List.getElem?_cons_zero]; exact rfl))); go_simp; go_at_call 29; refine (HS.out _ ED).mono ?_; rintro e w2 ⟨rfl, hE⟩; go_wp2_with fail; refine hK.out _ _ ?_ (fun hHeld => ?_); rotate_left; clear hK K; (try simp only [Act.put, List.setIfInBounds_toArray, List.set_cons_zero, List.set_cons_succ]))
  rotate_left
  · exact ⟨hE.cell hS.1, hE.cell hS.2⟩
  have E2 := ED.trans hE
  clear hE ED hS
  (refine wpAnyE_pure (v := .bool (decide (m < s))) (i := 5) (oi := ?_) ?_ (by kernel_rfl) ?_ ?_ ?_ ?_; rotate_left; (focus ((simp only [List.getElem?_toArray, List.getElem?_cons_succ, List.getElem?_cons_zero]; exact rfl))); (focus (exact fun _ _ _ h => h)); (focus (refine Or.inl ⟨by rfl, ?_⟩; intro w hSw; clear hSw; go_simp)); (focus (first | exact (fun _ => by assumption) | (intro hlst; exact absurd hlst (by kernel_rfl)) | (intro hlst; cases hlst))); (try simp only [Act.put, List.setIfInBounds_toArray, List.set_cons_zero, List.set_cons_succ]))
  ((refine ePu 6 ?_))
  refine wpAnyE_done (by kernel_rfl) ?_ _
  go_wp2
  go_ret
  exact ⟨rfl, E2⟩
set_option maxHeartbeats 2000000 in
theorem IndexP_any {need : List Int} {na : Option Addr} {nc K n : Nat} {w : World} {xb : Nat} {pks : List Pk} {pa : Option Addr} {cap : Nat} (hp : PkG w pa pks) (hn : n = pks.length) (hn1 : n ≤ 100) (hx : w.cell? ⟨xb, 1, none⟩ = some (.slice na K nc)) (hc : CellsI w na need) (hK : K = need.length) (hl : K ≤ 100) (hb : ∀ i, i < need.length → 0 ≤ need.getD i 0 ∧ need.getD i 0 ≤ 1048576) :
    Calls Tryz.prog 36 #[.slice pa n cap, .func (.func 37) #[] #[.pointer (some ⟨xb, 0, none⟩)]] w fun e w' => ∃ r : Int, e = .returned (.int .i64 r) ∧ (r < 0 → ∀ j, j < n → totS need ≤ (pks.getD j pk0).most) ∧ Ext w w' := by
  have HC := Lib.hid (fun W (hW : Ext w W) (L : Nat) (ai : Option Addr) (ci : Nat) (p m : Int) => fewP_any (L := L) (need := need) (na := na) (nc := nc) (K := K) (xb := xb) (pv := .int .i64 0) ai ci p m (hW.cell hx) (hc.ext hW) hK hl hb)
  have HP := Lib.hid hp
  have HN := Lib.hid hn
  generalize totS need = s at HC ⊢
  clear hp hn hc hK hl hb hx
  go_enter Tryz.func36, Tryz.ntmps36
  go_wp2
  go_loopw [8] (fun i wr => ∃ k : Nat, k ≤ n ∧ i = .int .i64 k ∧ Hid (∀ j, j < k → s ≤ (pks.getD j pk0).most) ∧ Ext w wr) (fun i _ => n - (intOf i).toNat)
  case atStart => exact ⟨0, Nat.zero_le _, rfl, fun j hj => absurd hj (Nat.not_lt_zero j), Ext.refl _⟩
  case round =>
    obtain ⟨k, hk, rfl, hnn, he⟩ := hrel
    by_cases hlt : k < n
    · have hlt' : (k : Int) < (n : Int) := by omega
      obtain ⟨b, off, v, rfl, c1, ⟨ai, ci, rfl, _⟩, c2, c3⟩ := (HP.out.ext he) k (by rw [← HN.out]; exact hlt)
      have HNX : Hid (s ≤ (pks.getD k pk0).most → ∀ j, j < k + 1 → s ≤ (pks.getD j pk0).most) := fun h j hj => by
        rcases Nat.lt_or_eq_of_le (Nat.le_of_lt_succ hj) with h2 | rfl
        · exact hnn.out j h2
        · exact h
      generalize (pks.getD k pk0).parts.length = L at c1
      generalize (pks.getD k pk0).price = p at c2
      generalize (pks.getD k pk0).most = m at c3 HNX
      have z1 := cell_lt c1
      dsimp only at z1
      go_wp2_with fail
      refine (HC.out _ he L ai ci p m).mono ?_
      rintro e w1 ⟨rfl, hE⟩
      have E1 := he.trans hE
      by_cases hp : m < s
      · go_wp2
        go_ret
        exact ⟨(k : Int), rfl, fun h => absurd h (by omega), E1⟩
      · have HG := Lib.hid (HNX.out (by omega))
        go_wp2
        exact ⟨⟨k + 1, by omega, by go_num, HG.out, E1⟩, by simp [intOf]; omega⟩
    · have hke : n = k := by omega
      have hlt' : ¬ (k : Int) < (n : Int) := by omega
      have HA : Hid (∀ j, j < n → s ≤ (pks.getD j pk0).most) := by
        show ∀ j, _
        rw [hke]; exact hnn.out
      clear hke
      go_wp2
      go_ret
      exact ⟨-1, rfl, fun _ => HA.out, he⟩
end Go.Proofs.YtmndcdjcodfchaaGreatDoor
namespace Go.Proofs.YtmndcdjcodfchaaGreatDoor
open Go.RowKit
theorem OwnsI.set {w : World} {b n cap : Nat} {l : List Int} (h : OwnsI w (.slice (some ⟨b, 0, none⟩) n cap) l) (i : Nat) (x : Int) :
    OwnsI (w.setCell ⟨b, i, none⟩ (.int .i64 x)) (.slice (some ⟨b, 0, none⟩) n cap) (l.set i x) := by
  unfold OwnsI at h ⊢
  obtain ⟨_, h2⟩ := h
  refine ⟨by simp [vals], ?_⟩
  rcases h2 with ⟨hv, _⟩ | ⟨g, c, cur, hv, hg, hh, hnc, hm, hcs, ht⟩
  · cases (Value.slice.inj hv).1
  · obtain ⟨e1, e2, e3⟩ := Value.slice.inj hv
    cases e1
    subst e2 e3
    refine .inr ⟨b, cap, cur.setIfInBounds i (.int .i64 x), by simp, hg, ?_, by simpa using hnc, hm, by simpa using hcs, ?_⟩
    · simp only [World.setCell, Array.getElem?_modify, hh]
      simp
    · rw [List.length_set, Array.toList_setIfInBounds, List.take_set, ht]
      unfold vals
      rw [List.map_set]
theorem OwnsI.at {w : World} {b n cap : Nat} {l : List Int} (h : OwnsI w (.slice (some ⟨b, 0, none⟩) n cap) l) {i : Nat} (hi : i < l.length) :
    w.cell? ⟨b, i, none⟩ = some (.int .i64 (l.getD i 0)) ∧ w.frozen? ⟨b, i, none⟩ = false := by
  obtain ⟨a, c, hv, _, hf⟩ := h.reads
  rcases hf with hf | ⟨b2, e2, e3, hf⟩
  · subst hf; exact absurd hi (Nat.not_lt_zero i)
  · cases e3
    exact hf i hi
theorem OwnsI.some {w : World} {a : Option Addr} {n cap : Nat} {l : List Int} (h : OwnsI w (.slice a n cap) l) {i : Nat} (hi : i < l.length) : ∃ b, a = some ⟨b, 0, none⟩ := by
  obtain ⟨a, c, hv, _, hf⟩ := h.reads
  rcases hf with hf | ⟨b2, e2, e3, hf⟩
  · subst hf; exact absurd hi (Nat.not_lt_zero i)
  · obtain ⟨e1, _, _⟩ := Value.slice.inj hv
    exact ⟨b2, e1.trans e2⟩
def InS (pks : List Pk) (N : Nat) (l : List Int) (k : Nat) : Prop := l.length = N ∧ ∀ j, j < k → 0 ≤ l.getD j 0 ∧ l.getD j 0 ≤ (pks.getD j pk0).most
theorem InS.set {pks : List Pk} {N k : Nat} {l : List Int} (h : InS pks N l k) (hk : k < N) {x : Int} (h0 : 0 ≤ x) (h1 : x ≤ (pks.getD k pk0).most) : InS pks N (l.set k x) (k + 1) := by
  refine ⟨by rw [List.length_set]; exact h.1, fun j hj => ?_⟩
  rw [getD_set (by rw [h.1]; exact hk)]
  by_cases e : j = k
  · subst e; rw [if_pos rfl]; exact ⟨h0, h1⟩
  · rw [if_neg e]; exact h.2 j (by omega)
structure LeastF (pks : List Pk) (need : List Int) (N : Nat) (ol : List Int) (op oe : Int) : Prop where
  e : oe = 6 ∨ oe = 0
  len : ol.length ≤ 5
  none : oe = 6 → ∀ l, InS pks N l N → verifyS pks need l = 15
  ok : oe = 0 → givenS pks need ol = 0 ∧ verifyS pks need ol = 0 ∧ costR pks need ol = op ∧ ∀ i, i < ol.length → 0 ≤ ol.getD i 0 ∧ ol.getD i 0 ≤ 1048576
  le : oe = 0 → ∀ l, InS pks N l N → givenS pks need l = 0 ∧ (∀ i, i < l.length → 0 ≤ l.getD i 0 ∧ l.getD i 0 ≤ 1048576) ∧ (verifyS pks need l = 15 ∨ verifyS pks need l = 0 ∧ (op < costR pks need l ∨ op = costR pks need l ∧ totS ol ≤ totS l))
end Go.Proofs.YtmndcdjcodfchaaGreatDoor
namespace Go.Proofs.YtmndcdjcodfchaaGreatDoor
open Go.RowKit
theorem step_make {P : Program} {ops : Array Oper} {o : Oper} {a : Act} {w : World} {K : Act → World → Prop} {Q : Exit → Act → World → Prop} {E : Prop} (hgd : o.guard = none) (l c : Operand) (t : TypeId) (ho : o.op = Op.makeSlice t l c)
    (vl vc : Value) (hl : a.eval l = vl) (hc : a.eval c = vc) (v' : Value) (w' : World) (hr : (Instr.makeSlice t vl vc).run P w = .ok v' w') (h : K (a.put o.dst v') w') :
    if Region.wanted o (yielded ops a.tmps) = true then Oper.wp P o a w K Q else E := by
  have hw : Region.wanted o (yielded ops a.tmps) = true := by simp [Region.wanted, hgd]
  rw [if_pos hw]
  unfold Oper.wp
  simp [execOp, ho, hl, hc, hr, Result.andThen]
  exact h
theorem zeros_run (w : World) (n : Nat) (hn : n ≤ 100) : ∃ w', (Instr.makeSlice 23 (.int .i64 (n : Int)) (.int .i64 (n : Int))).run Tryz.prog w = .ok (.slice (some ⟨w.heap.size, 0, none⟩) n n) w' ∧ CellsI w' (some ⟨w.heap.size, 0, none⟩) (List.replicate n 0) ∧ Ext w w' := by
  obtain ⟨i0, hi, hi0, hi1, hi2⟩ := info_parts infoIn
  obtain ⟨w', hr, h1, h2⟩ := run_make_full (P := Tryz.prog) (w := w) 0 23 3 i0 (.int .i64 0) 1 Tryz.underlying23 hi hi0 hi1 .i64 .i64 n (by rw [hi2]; omega) (by unfold maxLen; omega) (Nat.zero_le _)
  refine ⟨w', hr, fun j hj => ⟨w.heap.size, 0, rfl, ?_⟩, ⟨h2.os, h2.tape, h2.output, h2.size, fun k hk => h2.block k hk (by simp)⟩⟩
  rw [List.length_replicate] at hj
  have h3 := h1.cellAt j (by omega)
  rw [Nat.zero_add, zero_parts, h3]
  simp [madeCells, hj, Nat.mod_one, Value.cells]
structure SpareF (pks : List Pk) (need : List Int) (N K : Nat) (oe op : Int) (i : Nat) : Prop where
  lt : i < N
  less : (∀ j, j < (pks.eraseIdx i).length → totS need ≤ ((pks.eraseIdx i).getD j pk0).most) → orderE (pks.eraseIdx i) need = oe ∧ orderP (pks.eraseIdx i) need = op
theorem spareF_of {pks : List Pk} {need : List Int} (h : Searched pks need) {N K : Nat} (hN : N = pks.length) {x : Int} (hx : x ∈ dearL pks need) : ∃ i : Nat, x = (i : Int) ∧ SpareF pks need N K (orderE pks need) (orderP pks need) i := by
  have hd : dearL pks need = dearT pks pks.length := by unfold dearL; rw [if_pos (of_right h.r)]
  rw [hd] at hx
  obtain ⟨i, k, e, h1, h2, h3, h4⟩ := dear_of h.r.parts hx
  exact ⟨i, e, by omega, fun hm => spare_less h h1 h2 h3 h4 hm⟩
theorem orderE_or {pks : List Pk} {need : List Int} (h : Searched pks need) : orderE pks need = 0 ∨ orderE pks need = 6 := by
  rw [h.order.1]
  split
  · exact .inl rfl
  · exact .inr rfl
theorem dearL_len {pks : List Pk} {need : List Int} : (dearL pks need).length ≤ pks.length := by
  unfold dearL
  split
  · exact dearT_len _ _
  · exact Nat.zero_le _
def CopyP (pks : List Pk) (f : Nat → Value) (N : Nat) (w : World) (e : Ending) (w' : World) : Prop := ∃ g cap, e = .returned (.slice (some ⟨g, 0, none⟩) N cap) ∧ w.heap.size ≤ g ∧ N ≤ cap ∧ cap ≤ maxLen ∧ RowC w' g (flatG f pks N) ∧ Ext w w'
theorem copyP_any {pks : List Pk} {f : Nat → Value} {pa : Option Addr} {N pc : Nat} {w : World} (h0 : 0 < N) (hl : N ≤ 100) (hf : ∀ i, i < N → ∃ b off, pa = some ⟨b, off, none⟩ ∧ w.cell? ⟨b, off + i * 3, none⟩ = some (f i) ∧ SliceI w (f i) (pks.getD i pk0).parts ∧ w.cell? ⟨b, off + i * 3 + 1, none⟩ = some (.int .i64 (pks.getD i pk0).price) ∧ w.cell? ⟨b, off + i * 3 + 2, none⟩ = some (.int .i64 (pks.getD i pk0).most)) :
    Calls Tryz.prog 35 #[.slice pa N pc] w fun e w' => CopyP pks f N w e w' := by
  obtain ⟨b, off, rfl, _⟩ := hf 0 h0
  have hc := flat_news (f := f) (pks := pks) (n := N) (w := w) (b := b) (off := off) (fun i hi => by
    obtain ⟨b2, o2, e, h1, _, h2, h3⟩ := hf i hi
    cases e
    exact ⟨h1, h2, h3⟩) N (Nat.le_refl _)
  refine (CloneP_any pc h0 hl hc (fun i hi => by
    obtain ⟨_, _, _, _, h, _⟩ := hf i hi
    exact slice_one h)).mono ?_
  rintro e w' ⟨v, rfl, ho, hb, hE⟩
  obtain ⟨a, cap, hv, h1, h2⟩ := rowFull ho
  obtain ⟨a', cap', hv', _, h3⟩ := rowReads ho
  obtain ⟨e1, _, e3⟩ := Value.slice.inj (hv.symm.trans hv')
  subst e1
  have h4 := (flatG_get f pks N 0 h0).1
  obtain ⟨g, hg, hg2, _⟩ := h3 _ _ h4
  subst hg
  refine ⟨g, cap, by rw [hv], hb g hg2, h1, h2, fun j u hj => ?_, hE⟩
  obtain ⟨g', e4, _, c, d⟩ := h3 j u hj
  cases e4
  exact ⟨c, d⟩
def LessP (xs : List Value) (g N cap : Nat) (w : World) (e : Ending) (w' : World) : Prop := e = .returned (.slice (some ⟨g, 0, none⟩) (N - 1) cap) ∧ RowC w' g xs ∧ Below g w w' ∧ (∀ x : Addr, x.block ≠ g → w'.cell? x = w.cell? x) ∧ ∀ x, w'.frozen? x = w.frozen? x
theorem lessP_any {pks : List Pk} {f : Nat → Value} {g N cap i : Nat} {w : World} (hi : i < N) (hl : N ≤ 100) (hcap : N ≤ cap) (hm : cap ≤ maxLen) (hR : RowC w g (flatG f pks N)) (hs : ∀ t, t < N → (f t).oneCell' = true) :
    Calls Tryz.prog 34 #[.slice (some ⟨g, 0, none⟩) N cap, .int .i64 (i : Int), .int .i64 ((i : Int) + 1)] w fun e w' => LessP ((flatG f pks N).take (i * 3) ++ (flatG f pks N).drop ((i + 1) * 3)) g N cap w e w' := by
  have h := DelP_any (w := w) (g := g) (N := N) (cap := cap) (i := i) (j := i + 1) hR (flatG_len f pks N) (flat_one N hs) rfl hi hcap hm hl
  rw [show ((i + 1 : Nat) : Int) = (i : Int) + 1 by simp] at h
  exact h
theorem less_task {pks : List Pk} {need : List Int} {f : Nat → Value} {na : Option Addr} {g N cap nc i : Nat} {w : World} (hN : N = pks.length) (hi : i < N) (hcap : N ≤ cap) (hm : cap ≤ maxLen) (hR : RowC w g ((flatG f pks N).take (i * 3) ++ (flatG f pks N).drop ((i + 1) * 3))) (hs : ∀ t, t < N → SliceI w (f t) (pks.getD t pk0).parts) (hn : CellsI w na need) (hn1 : need.length ≤ nc) (hn2 : nc ≤ maxLen) :
    TaskG w (pks.eraseIdx i) need (some ⟨g, 0, none⟩) cap na nc := by
  refine ⟨erase_pk hR hN hi hs, hn, ?_, hm, hn1, hn2⟩
  rw [List.length_eraseIdx, if_pos (by omega)]
  omega
theorem RowC.ext {w w' : World} {g : Nat} {xs : List Value} (h : RowC w g xs) (he : Ext w w') : RowC w' g xs := fun j u hj => ⟨he.cell (h j u hj).1, (Below.frozen (p := ⟨g, j, none⟩) he (cell_lt (h j u hj).1)).trans (h j u hj).2⟩
theorem RowC.set {w : World} {g lb : Nat} {xs : List Value} (h : RowC w g xs) (hn : g ≠ lb) (o : Nat) (v : Value) : RowC (w.setCell ⟨lb, o, none⟩ v) g xs := fun j u hj => ⟨by
  rw [World.cell?_setCell_other _ _ _ _ (fun e => by cases e; exact hn rfl)]
  exact (h j u hj).1, by rw [World.frozen?_setCell]; exact (h j u hj).2⟩
theorem CloneNd_any {need : List Int} {na : Option Addr} {nc K : Nat} {w : World} (hK : K = need.length) (h0 : 0 < K) (hl : K ≤ 1000) (hc : CellsI w na need) :
    Calls Tryz.prog 28 #[.slice na K nc] w fun e w' => ∃ vb vc, e = .returned (.slice (some ⟨vb, 0, none⟩) K vc) ∧ OwnsI w' (.slice (some ⟨vb, 0, none⟩) K vc) need ∧ w.heap.size ≤ vb ∧ Ext w w' := by
  have h := CloneI_any need na nc w hc (by omega)
  rw [← hK] at h
  refine h.mono ?_
  rintro e w' ⟨v, rfl, ho, hb, hE⟩
  obtain ⟨a, c, hv, _⟩ := ho.full
  rw [← hK] at hv
  subst hv
  obtain ⟨vb, rfl⟩ := ho.some (i := 0) (by omega)
  exact ⟨vb, c, rfl, ho, hb vb rfl, hE⟩
theorem ownsI_setO {w : World} {vb lb n c : Nat} {l : List Int} (h : OwnsI w (.slice (some ⟨vb, 0, none⟩) n c) l) (hn : lb ≠ vb) (o : Nat) (v : Value) : OwnsI (w.setCell ⟨lb, o, none⟩ v) (.slice (some ⟨vb, 0, none⟩) n c) l :=
  rowSame h (fun b hb => by
    have e : vb = b := Option.some.inj hb
    subst e
    simp only [World.setCell, Array.getElem?_modify]
    rw [if_neg hn])
theorem fewer_of {need : List Int} {t : Nat} {mx : Int} (ht : t < need.length) (hn : ∀ x ∈ need, 0 ≤ x ∧ x ≤ 20) (h0 : 0 ≤ mx) (h1 : mx ≤ need.getD t 0) :
    (need.set t mx).length = need.length ∧ (∀ x ∈ need.set t mx, 0 ≤ x ∧ x ≤ 20) ∧ ∀ k, k < need.length → (need.set t mx).getD k 0 ≤ need.getD k 0 := by
  have hb := hn _ (getD_mem (d := 0) ht)
  refine ⟨List.length_set, fun x hx => ?_, fun k hk => ?_⟩
  · rcases List.mem_or_eq_of_mem_set hx with h | h
    · exact hn x h
    · rw [h]; omega
  · rw [getD_set ht]
    split
    · rename_i e; rw [e]; exact h1
    · exact Int.le_refl _
theorem wp_key {P : Program} {C : Code} {a0 : Act} {w : World} {Q : Exit → Act → World → Prop} (X : Act → Act → World → Prop) (h1 : ∀ a W, X a0 a W → Q .normal a W) (h2 : (∀ a W, X a0 a W → Q .normal a W) → C.wp P Q a0 w) : C.wp P Q a0 w := h2 h1
structure NewT (W : World) (lb : Nat) (v0 v1 : Value) : Prop where
  c0 : W.cell? ⟨lb, 0, none⟩ = some v0
  c1 : W.cell? ⟨lb, 1, none⟩ = some v1
  f0 : W.frozen? ⟨lb, 0, none⟩ = false
  f1 : W.frozen? ⟨lb, 1, none⟩ = false
theorem NewT.ext {W W' : World} {lb : Nat} {v0 v1 : Value} (h : NewT W lb v0 v1) (he : Ext W W') : NewT W' lb v0 v1 :=
  ⟨he.cell h.c0, he.cell h.c1, (Below.frozen (p := ⟨lb, 0, none⟩) he (cell_lt h.c0)).trans h.f0, (Below.frozen (p := ⟨lb, 1, none⟩) he (cell_lt h.c1)).trans h.f1⟩
theorem NewT.same {W W' : World} {lb g : Nat} {v0 v1 : Value} (h : NewT W lb v0 v1) (hn : lb ≠ g) (hc : ∀ x : Addr, x.block ≠ g → W'.cell? x = W.cell? x) (hf : ∀ x, W'.frozen? x = W.frozen? x) : NewT W' lb v0 v1 :=
  ⟨(hc _ hn).trans h.c0, (hc _ hn).trans h.c1, (hf _).trans h.f0, (hf _).trans h.f1⟩
theorem NewT.made (W : World) (t : TypeId) : NewT (W.alloc (.cells #[.slice none 0 0, .slice none 0 0] t)) W.heap.size (.slice none 0 0) (.slice none 0 0) := ⟨by go_simp, by go_simp, by go_simp, by go_simp⟩
def LessX (w : World) (xs : List Value) (pa na : Option Addr) (N K pc nc i : Nat) (a0 a : Act) (W : World) : Prop :=
  ∃ lb g cap, a = ((((((((((a0.put (some 11) (.pointer (some ⟨lb, 0, none⟩))).put (some 68) (.pointer (some ⟨w.heap.size, 0, none⟩))).put (some 69) (.slice pa N pc)).put (some 70) (.slice (some ⟨g, 0, none⟩) N cap)).put (some 71) (.int .i64 (i : Int))).put (some 72) (.int .i64 (i : Int))).put (some 73) (.int .i64 ((i : Int) + 1))).put (some 74) (.slice (some ⟨g, 0, none⟩) (N - 1) cap)).put (some 75) (.pointer (some ⟨w.heap.size, 1, none⟩))).put (some 76) (.slice na K nc)).put (some 77) (.agg #[.slice (some ⟨g, 0, none⟩) (N - 1) cap, .slice na K nc]) ∧
    Ext w W ∧ N ≤ cap ∧ cap ≤ maxLen ∧ RowC W g xs ∧ W.cell? ⟨lb, 0, none⟩ = some (.slice (some ⟨g, 0, none⟩) (N - 1) cap) ∧ W.cell? ⟨lb, 1, none⟩ = some (.slice na K nc) ∧ W.cell? ⟨w.heap.size, 0, none⟩ = some (.slice pa N pc) ∧ W.cell? ⟨w.heap.size, 1, none⟩ = some (.slice na K nc)
def FewX (w : World) (need : List Int) (pa na : Option Addr) (N K pc nc : Nat) (a0 a : Act) (W : World) : Prop :=
  ∃ lb vb vc, a = ((((((a0.put (some 17) (.pointer (some ⟨lb, 0, none⟩))).put (some 104) (.pointer (some ⟨w.heap.size, 0, none⟩))).put (some 105) (.slice pa N pc)).put (some 106) (.pointer (some ⟨w.heap.size, 1, none⟩))).put (some 107) (.slice na K nc)).put (some 108) (.slice (some ⟨vb, 0, none⟩) K vc)).put (some 109) (.agg #[.slice pa N pc, .slice (some ⟨vb, 0, none⟩) K vc]) ∧
    Ext w W ∧ OwnsI W (.slice (some ⟨vb, 0, none⟩) K vc) need ∧ w.heap.size < vb ∧ lb ≠ vb ∧ W.cell? ⟨lb, 0, none⟩ = some (.slice pa N pc) ∧ W.cell? ⟨lb, 1, none⟩ = some (.slice (some ⟨vb, 0, none⟩) K vc) ∧ W.cell? ⟨w.heap.size, 0, none⟩ = some (.slice pa N pc) ∧ W.cell? ⟨w.heap.size, 1, none⟩ = some (.slice na K nc)
end Go.Proofs.YtmndcdjcodfchaaGreatDoor
