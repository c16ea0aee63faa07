/- Steps of the proof: RegE, FRound, FOverP, FOverR, FOver, FDiv, FQuoP, FQuoR, FShaR. No conditions. -/
import Derived.Deep.RegionHeld3
import Derived.Test.YtdejgaiocjfhjaaGreatDoorZNB1
import Derived.Test.YtdejgaiocjfhjaaGreatDoorZNB2
namespace Go.Proofs.YtdejgaiocjfhjaaGreatDoor
open Go Go.RowKit
variable {P : Program} {md : Region.Mode} {ops : Array Oper} {Q : Exit → Act → World → Prop} {S : World → Prop} {f : Nat}
def wpAnyE (P : Program) (md : Region.Mode) (ops : Array Oper) (Q : Exit → Act → World → Prop) (S : World → Prop) (f : Nat) : Nat → Array Bool → Act → World → Prop
  | 0, listed, a, w => Region.ready md ops listed = [] ∧ Q .normal a w
  | fuel + 1, listed, a, w =>
    (Region.ready md ops listed = [] → Q .normal a w) ∧
    ∀ i ∈ Region.ready md ops listed, wpOp P ops Q i (fun a' w' => ((listed.setIfInBounds i true).getD f false = false → S w') ∧ wpAnyE P md ops Q S f fuel (listed.setIfInBounds i true) a' w') a w
theorem wpAny_of_heldE : ∀ (fuel : Nat) (listed : Array Bool) (a : Act) (w : World), wpAnyE P md ops Q S f fuel listed a w → wpAny P md ops Q fuel listed a w
  | 0, _, _, _, h => h
  | fuel + 1, _, _, _, h => ⟨h.1, fun i hi => wpOp_mono (fun a' w' h' => wpAny_of_heldE fuel _ a' w' h'.2) (h.2 i hi)⟩
def waitsFor (md : Region.Mode) (ops : Array Oper) (f i : Nat) : Bool := match ops[f]? with
  | some o => o.after.any fun e => Region.binds md e && e.on == i
  | none => true
theorem pend_set {listed : Array Bool} {f i : Nat} (h : f ≠ i) : (listed.setIfInBounds i true).getD f false = listed.getD f false := getD_set_ne false (Ne.symm h)
theorem wpAnyE_first (b : Bool) {i : Nat} {oi : Oper} {v : Value} (hi : ops[i]? = some oi) (hif : f ≠ i) (hsel : ∀ (j : Nat) (o : Oper) cs b, ops[j]? = some o → o.op ≠ .select cs b)
    (hQ : ∀ c a w, Q (.panic c) (a.put oi.dst v) w → Q (.panic c) a w) (hfi : b = true → waitsFor md ops f i = true) :
    ∀ (fuel : Nat) (listed : Array Bool) (a : Act) (w : World),
      (∀ j oj, ops[j]? = some oj → j ≠ i → listed.getD j true = false → (∀ e ∈ oj.after, Region.binds md e = true → e.on ≠ i) → oi.apart ops oj = true) →
      i ∈ Region.ready md ops listed → YieldsIf P ops (fun w => b = true → S w) oi v a → (b = true → listed.getD f false = false) → (listed.getD f false = false → S w) →
      wpAnyE P md ops Q S f fuel (listed.setIfInBounds i true) (a.put oi.dst v) w → wpAnyE P md ops Q S f (fuel + 1) listed a w := by
  intro fuel
  induction fuel with
  | zero =>
    intro listed a w _ hr hy hb hS H
    refine ⟨fun h => (by rw [h] at hr; cases hr), fun j hj => ?_⟩
    by_cases hji : j = i
    · subst hji; exact hy.wpOp hi (fun h => hS (hb h)) ⟨fun h => hS (by rw [pend_set hif] at h; exact h), H⟩
    · have := ready_mono hj hji
      rw [H.1] at this
      cases this
  | succ fuel ih =>
    intro listed a w hfree hr hy hb hS H
    refine ⟨fun h => (by rw [h] at hr; cases hr), fun j hj => ?_⟩
    by_cases hji : j = i
    · subst hji; exact hy.wpOp hi (fun h => hS (hb h)) ⟨fun h => hS (by rw [pend_set hif] at h; exact h), H⟩
    · have h1 := H.2 j (ready_mono hj hji)
      obtain ⟨hjun, oj, hoj, hall⟩ := mem_ready.1 hj
      have hnot : ∀ e ∈ oj.after, Region.binds md e = true → e.on ≠ i := fun e he hb heq => by
        have h1 := hall e he hb
        have h0 := (mem_ready.1 hr).1
        rw [heq] at h1
        rcases Nat.lt_or_ge i listed.size with h' | h'
        · simp [h'] at h0 h1; rw [h0] at h1; cases h1
        · simp [Array.getElem?_eq_none h'] at h1
      have hjf : b = true → f ≠ j := fun hbt hf => by
        subst hf
        have hfi := hfi hbt
        unfold waitsFor at hfi
        rw [hoj] at hfi
        obtain ⟨e, he, h2⟩ := Array.any_eq_true'.1 hfi
        simp only [Bool.and_eq_true, beq_iff_eq] at h2
        exact hnot e he h2.1 h2.2
      have h2 := wpOp_putIf hoj (hfree j oj hoj hji hjun hnot) (fun cs b => hsel i oi cs b hi) (fun cs b => hsel j oj cs b hoj) hQ hy h1
      have hfree' : ∀ k ok, ops[k]? = some ok → k ≠ i → (listed.setIfInBounds j true).getD k true = false →
          (∀ e ∈ ok.after, Region.binds md e = true → e.on ≠ i) → oi.apart ops ok = true := fun k ok hk hki hun hno => by
        refine hfree k ok hk hki ?_ hno
        by_cases hjk : j = k
        · subst hjk; exact hjun
        · rw [getD_set_ne true hjk] at hun; exact hun
      refine wpOp_mono (fun a' w' h3 => ?_) h2
      have hc : (listed.setIfInBounds j true).getD f false = false → S w' := fun h => h3.2.1 (by rw [Array.setIfInBounds_comm _ _ (Ne.symm hji), pend_set hif]; exact h)
      refine ⟨hc, ih (listed.setIfInBounds j true) a' w' hfree' (ready_mono hr (Ne.symm hji)) h3.1 (fun h => by rw [pend_set (hjf h)]; exact hb h) hc ?_⟩
      rw [Array.setIfInBounds_comm _ _ hji]
      exact h3.2.2
theorem wpAnyE_take {i : Nat} {oi : Oper} {v : Value} {fuel : Nat} {listed : Array Bool} {a : Act} {w : World} (hi : ops[i]? = some oi)
    (hs : (Region.noSelect ops && Region.free md ops listed i && (Region.ready md ops listed).contains i && waitsFor md ops f i && (f != i) && !listed.getD f false) = true)
    (hQ : ∀ c a w, Q (.panic c) (a.put oi.dst v) w → Q (.panic c) a w) (hy : YieldsIf P ops S oi v a) (hS : S w)
    (h : wpAnyE P md ops Q S f fuel (listed.setIfInBounds i true) (a.put oi.dst v) w) : wpAnyE P md ops Q S f (fuel + 1) listed a w := by
  simp only [Bool.and_eq_true, bne_iff_ne, Bool.not_eq_true'] at hs
  refine wpAnyE_first true hi hs.1.2 (Region.noSelect_spec hs.1.1.1.1.1) hQ (fun _ => hs.1.1.2) fuel listed a w (Region.free_spec hi hs.1.1.1.1.2) (by simpa using hs.1.1.1.2) ?_ (fun _ => hs.2) (fun _ => hS) h
  rcases hy with ⟨h1, h2⟩ | h1
  · exact .inl ⟨h1, fun w hw => h2 w (hw rfl)⟩
  · exact .inr h1
theorem wpAnyE_pure {i : Nat} {oi : Oper} {v : Value} {fuel : Nat} {listed : Array Bool} {a : Act} {w : World} (hi : ops[i]? = some oi)
    (hs : (Region.noSelect ops && Region.free md ops listed i && (Region.ready md ops listed).contains i && (f != i)) = true)
    (hQ : ∀ c a w, Q (.panic c) (a.put oi.dst v) w → Q (.panic c) a w) (hy : YieldsIf P ops (fun _ => True) oi v a) (hS : listed.getD f false = false → S w)
    (h : wpAnyE P md ops Q S f fuel (listed.setIfInBounds i true) (a.put oi.dst v) w) : wpAnyE P md ops Q S f (fuel + 1) listed a w := by
  simp only [Bool.and_eq_true, bne_iff_ne] at hs
  refine wpAnyE_first false hi hs.2 (Region.noSelect_spec hs.1.1.1) hQ (fun h => by cases h) fuel listed a w (Region.free_spec hi hs.1.1.2) (by simpa using hs.1.2) ?_ (fun h => by cases h) hS h
  rcases hy with ⟨h1, h2⟩ | h1
  · exact .inl ⟨h1, fun w _ => h2 w trivial⟩
  · exact .inr h1
theorem wpAnyE_one {i : Nat} {o : Oper} {fuel : Nat} {listed : Array Bool} {a : Act} {w : World} (ho : ops[i]? = some o) (hr : Region.ready md ops listed = [i])
    (h : ∀ K' : Act → World → Prop, Shut (∀ a w, S w → (S w → wpAnyE P md ops Q S f fuel (listed.setIfInBounds i true) a w) → K' a w) → if Region.wanted o (yielded ops a.tmps) = true then Oper.wp P o a w K' Q else K' (a.put o.dst undef) w) :
    wpAnyE P md ops Q S f (fuel + 1) listed a w := by
  refine ⟨fun h0 => (by rw [hr] at h0; cases h0), fun j hj => ?_⟩
  rw [hr] at hj
  rcases List.mem_singleton.1 hj with rfl
  exact wpOp_step ho (fun K' hK => h K' (fun a w hS hW => hK a w ⟨fun _ => hS, hW hS⟩))
theorem wpAnyE_two {i j : Nat} {o p : Oper} {fuel : Nat} {listed : Array Bool} {a : Act} {w : World} (ho : ops[i]? = some o) (hp : ops[j]? = some p) (hr : Region.ready md ops listed = [i, j])
    (h : ∀ K' : Act → World → Prop, Shut (∀ a w, S w → (S w → wpAnyE P md ops Q S f fuel (listed.setIfInBounds i true) a w) → K' a w) → if Region.wanted o (yielded ops a.tmps) = true then Oper.wp P o a w K' Q else K' (a.put o.dst undef) w)
    (h2 : ∀ K' : Act → World → Prop, Shut (∀ a w, S w → (S w → wpAnyE P md ops Q S f fuel (listed.setIfInBounds j true) a w) → K' a w) → if Region.wanted p (yielded ops a.tmps) = true then Oper.wp P p a w K' Q else K' (a.put p.dst undef) w) :
    wpAnyE P md ops Q S f (fuel + 1) listed a w := by
  refine ⟨fun h0 => (by rw [hr] at h0; cases h0), fun k hk => ?_⟩
  rw [hr] at hk
  rcases List.mem_cons.1 hk with rfl | hk
  · exact wpOp_step ho (fun K' hK => h K' (fun a w hS hW => hK a w ⟨fun _ => hS, hW hS⟩))
  · rcases List.mem_singleton.1 hk with rfl
    exact wpOp_step hp (fun K' hK => h2 K' (fun a w hS hW => hK a w ⟨fun _ => hS, hW hS⟩))
theorem wpAnyE_free {i : Nat} {o : Oper} {fuel : Nat} {listed : Array Bool} {a : Act} {w : World} (ho : ops[i]? = some o) (hr : Region.ready md ops listed = [i]) (hl : (listed.setIfInBounds i true).getD f false = true)
    (h : ∀ K' : Act → World → Prop, Shut (∀ a w, wpAnyE P md ops Q S f fuel (listed.setIfInBounds i true) a w → K' a w) → if Region.wanted o (yielded ops a.tmps) = true then Oper.wp P o a w K' Q else K' (a.put o.dst undef) w) :
    wpAnyE P md ops Q S f (fuel + 1) listed a w := by
  refine ⟨fun h0 => (by rw [hr] at h0; cases h0), fun j hj => ?_⟩
  rw [hr] at hj
  rcases List.mem_singleton.1 hj with rfl
  exact wpOp_step ho (fun K' hK => h K' (fun a w hW => hK a w ⟨fun h => (by rw [hl] at h; cases h), hW⟩))
theorem wpAnyE_done {listed : Array Bool} {a : Act} {w : World} (hr : Region.ready md ops listed = []) (h : Q .normal a w) :
    ∀ fuel, wpAnyE P md ops Q S f fuel listed a w
  | 0 => ⟨hr, h⟩
  | _ + 1 => ⟨fun _ => h, by rw [hr]; simp⟩
theorem wp_region_heldE (f : Nat) (S : World → Prop) {id : Nat} {a : Act} {w : World} (hm : P.follows .mixedOrders = true)
    (h : wpAnyE P .any ops Q S f ops.size (Array.replicate ops.size false) a w.drew) : (Code.region id ops true).wp P Q a w :=
  wp_region_any hm (wpAny_of_heldE _ _ _ _ h)
theorem eTk {P : Program} {md : Region.Mode} {ops : Array Oper} {Q : Exit → Act → World → Prop} {S : World → Prop} {f : Nat} (i : Nat) {oi : Oper} {v : Value} {fuel : Nat} {listed : Array Bool} {a b : Act} {w : World}
    (h : wpAnyE P md ops Q S f fuel (listed.setIfInBounds i true) b w)
    (hi : ops[i]? = some oi := by simp only [List.getElem?_toArray, List.getElem?_cons_succ, List.getElem?_cons_zero]; exact rfl)
    (hs : (Region.noSelect ops && Region.free md ops listed i && (Region.ready md ops listed).contains i && waitsFor md ops f i && (f != i) && !listed.getD f false) = true := by kernel_rfl)
    (hQ : ∀ c a w, Q (.panic c) (a.put oi.dst v) w → Q (.panic c) a w := by exact fun _ _ _ h => h)
    (hy : YieldsIf P ops S oi v a := by refine Or.inl ⟨by rfl, ?_⟩; intro w hSw; (try dsimp only at hSw); (first | (go_simp; done) | (go_simp; with_reducible rfl)))
    (hb : a.put oi.dst v = b := by (try simp only [Act.put, List.setIfInBounds_toArray, List.set_cons_zero, List.set_cons_succ]); exact rfl)
    (hS : S w := by assumption) : wpAnyE P md ops Q S f (fuel + 1) listed a w := by
  subst hb
  exact wpAnyE_take hi hs hQ hy hS h
theorem ePu {P : Program} {md : Region.Mode} {ops : Array Oper} {Q : Exit → Act → World → Prop} {S : World → Prop} {f : Nat} (i : Nat) {oi : Oper} {v : Value} {fuel : Nat} {listed : Array Bool} {a b : Act} {w : World}
    (h : wpAnyE P md ops Q S f fuel (listed.setIfInBounds i true) b w)
    (hi : ops[i]? = some oi := by simp only [List.getElem?_toArray, List.getElem?_cons_succ, List.getElem?_cons_zero]; exact rfl)
    (hs : (Region.noSelect ops && Region.free md ops listed i && (Region.ready md ops listed).contains i && (f != i)) = true := by kernel_rfl)
    (hQ : ∀ c a w, Q (.panic c) (a.put oi.dst v) w → Q (.panic c) a w := by exact fun _ _ _ h => h)
    (hy : YieldsIf P ops (fun _ => True) oi v a := by refine Or.inl ⟨by rfl, ?_⟩; intro w hSw; clear hSw; (first | (go_simp; done) | (go_simp; with_reducible rfl)))
    (hb : a.put oi.dst v = b := by (try simp only [Act.put, List.setIfInBounds_toArray, List.set_cons_zero, List.set_cons_succ]); exact rfl)
    (hS : listed.getD f false = false → S w := by first | exact (fun _ => by assumption) | (intro hlst; exact absurd hlst (by kernel_rfl)) | (intro hlst; cases hlst)) : wpAnyE P md ops Q S f (fuel + 1) listed a w := by
  subst hb
  exact wpAnyE_pure hi hs hQ hy hS h
end Go.Proofs.YtdejgaiocjfhjaaGreatDoor
namespace Go.Proofs.YtdejgaiocjfhjaaGreatDoor
open Go.RowKit
section
variable {P : Program} {ops : Array Oper} {Q : Exit → Act → World → Prop} {l n : Nat}
theorem round_heldE (f : Nat) (S : World → Prop) {id : Nat} {a : Act} {w : World} (hm : P.follows .mixedOrders = true) (hd : noDefer ops = true) (hQ : ¬ LetsOut Q)
    (h : wpAnyE P .any ops Q S f ops.size (Array.replicate ops.size false) a w.drew) : (Code.region id ops true).wpIn (Fence.wide.inRound l) n P Q a w :=
  wpIn_region_any hm (any_round hd hQ _ _ _ _ (wpAny_of_heldE _ _ _ _ h))
theorem wide_heldE (f : Nat) (S : World → Prop) {id : Nat} {a : Act} {w : World} (hm : P.follows .mixedOrders = true)
    (h : wpAnyE P .any ops (NoPanic Q) S f ops.size (Array.replicate ops.size false) a w.drew) : (Code.region id ops true).wpIn Fence.wide n P Q a w :=
  wpIn_wide.2 (wp_region_noPanic (wp_region_heldE f S hm h))
end
end Go.Proofs.YtdejgaiocjfhjaaGreatDoor
namespace Go.Proofs.YtdejgaiocjfhjaaGreatDoor
open Go.RowKit
theorem Chg.cellAt {M : Nat → Prop} {A B : World} (h : Chg M A B) {p : Addr} {v : Value} (hc : A.cell? p = some v) (hn : ¬ M p.block) : B.cell? p = some v :=
  (World.cell?_of_block (w := A) (a := p) (h.2 p.block (cell_lt hc) hn)).trans hc
theorem Chg.frozenAt {M : Nat → Prop} {A B : World} (h : Chg M A B) {p : Addr} {v : Value} (hc : A.cell? p = some v) (hn : ¬ M p.block) : B.frozen? p = A.frozen? p :=
  World.frozen?_of_block (w := A) (a := p) (h.2 p.block (cell_lt hc) hn)
theorem OwnsN.chg {k : IntKind} {t : TypeId} {M : Nat → Prop} {A B : World} {v : Value} {l : List Nat} (h : OwnsN k t A v l) (c : Chg M A B) (hn : ∀ b, v.ownBlock = some b → ¬ M b) : OwnsN k t B v l :=
  h.same (fun b hb => c.2 b (h.lt hb) (hn b hb))
theorem Chg.mono {B C : Nat → Prop} {A D : World} (h : Chg B A D) (k : ∀ b, B b → C b) : Chg C A D := ⟨h.1, fun i hi hn => h.2 i hi (fun hb => hn (k i hb))⟩
theorem ordN_le {a b : Nat} : ordN a b ≤ 0 ↔ a ≤ b := by
  unfold ordN
  by_cases h : a < b
  · rw [if_pos h]; omega
  · rw [if_neg h]
    by_cases k : b < a
    · rw [if_pos k]; omega
    · rw [if_neg k]; omega
structure OverW (la lb : List Nat) (y : Nat) (b : Option Addr) (cb g bb qb rb n3 : Nat) (w0 : World) (k : Nat) (W : World) : Prop where
  ext : Ext w0 W
  pb : W.cell? ⟨bb, 0, none⟩ = some (.slice b lb.length cb)
  pq : W.cell? ⟨qb, 0, none⟩ = some (.slice (some ⟨g, 0, none⟩) la.length la.length)
  fr : W.frozen? ⟨rb, 0, none⟩ = false
  st : ∃ r q v, OverI 1000000000 la y (la.length - k) r q ∧ OwnsN .u64 161 W (.slice (some ⟨g, 0, none⟩) la.length la.length) q ∧ W.cell? ⟨rb, 0, none⟩ = some v ∧
    OwnsN .u64 161 W v (toB 1000000000 r) ∧ ∀ b, v.ownBlock = some b → n3 ≤ b
theorem OverW.keep {la lb : List Nat} {y : Nat} {b : Option Addr} {cb g bb qb rb n3 : Nat} {w0 : World} {k n : Nat} {A B : World} (h : OverW la lb y b cb g bb qb rb n3 w0 k A) (q : Keep n A B) (hn : w0.heap.size ≤ n) : OverW la lb y b cb g bb qb rb n3 w0 k B := by
  obtain ⟨r, t, v, h1, h2, h3, h4, h5⟩ := h.st
  exact ⟨h.ext.trans' q.1 hn, q.cell h.pb, q.cell h.pq, (q.frozen h3).trans h.fr, r, t, v, h1, rowKeep h2 q, q.cell h3, rowKeep h4 q, h5⟩
theorem OverW.exts {la lb : List Nat} {y : Nat} {b : Option Addr} {cb g bb qb rb n3 : Nat} {w0 : World} {k : Nat} {A B : World} (h : OverW la lb y b cb g bb qb rb n3 w0 k A) (q : Ext A B) : OverW la lb y b cb g bb qb rb n3 w0 k B :=
  h.keep (Keep.ext q (Nat.le_refl _)) h.ext.size
structure FindW (y s L H : Nat) : Prop where
  lt : L < H
  le : H ≤ 1000000000
  lo : L * y ≤ s
  hi : s < H * y
theorem FindW.done {y s L H : Nat} (h : FindW y s L H) (h1 : H - L ≤ 1) : L = s / y := by
  have := h.lt
  have e : H = L + 1 := by omega
  have h2 := h.hi
  rw [e] at h2
  exact (Nat.div_eq_of_lt_le h.lo h2).symm
theorem FindW.low {y s L H M : Nat} (h : FindW y s L H) (h1 : 1 < H - L) (hM : M = (L + H) / 2) (hs : y * M ≤ s) : FindW y s M H ∧ H - M < H - L := by
  rw [Nat.mul_comm] at hs
  exact ⟨⟨by omega, h.le, hs, h.hi⟩, by omega⟩
theorem FindW.high {y s L H M : Nat} (h : FindW y s L H) (h1 : 1 < H - L) (hM : M = (L + H) / 2) (hs : s < y * M) : FindW y s L M ∧ M - L < H - L := by
  have := h.le
  rw [Nat.mul_comm] at hs
  exact ⟨⟨by omega, by omega, h.lo, hs⟩, by omega⟩
end Go.Proofs.YtdejgaiocjfhjaaGreatDoor
namespace Go.Proofs.YtdejgaiocjfhjaaGreatDoor
open Go.RowKit
attribute [local go_sem] Oper.semAt_some
set_option maxHeartbeats 4000000 in
set_option maxRecDepth 100000 in
theorem over_range (cas cbd : Code) (hcode : rngOf (Tryz.f157.body.getD .skip) = [(cas, cbd)]) (y : Nat) (la lb : List Nat) (a b : Option Addr) (ca cb : Nat) (w0 w3 : World) (sb g bb qb rb : Nat)
    (hla : la.length ≤ 100) (hlb : lb.length ≤ 100) (OA : OkB 1000000000 la) (hy : lb = toB 1000000000 y) (hy0 : 0 < y)
    (ha : CellsN .u64 w0 a la) (hb : CellsN .u64 w0 b lb) (E0 : Ext w0 w3) (s0 : w3.cell? ⟨sb, 0, none⟩ = some (.slice a la.length ca)) (h3 : OverW la lb y b cb g bb qb rb w3.heap.size w0 0 w3)
    (hsg : sb ≠ g) (hsr : sb ≠ rb) (hwg : w0.heap.size ≤ g) (hwr : w0.heap.size ≤ rb) (hgr : g ≠ rb) (hbg : bb ≠ g) (hbr : bb ≠ rb) (hqg : qb ≠ g) (hqr : qb ≠ rb) (hg3 : g < w3.heap.size) (hq3 : qb < w3.heap.size)
    (u2 u4 u5 u8 u9 u10 u11 u12 u13 u14 u15 u16 u18 u19 u20 u21 u22 u23 u24 u25 u26 u27 u28 u29 u30 u31 u32 u33 u34 u35 u36 u37 u38 u39 u40 u41 u42 u43 u44 u45 u46 u47 u48 u49 u50 u51 u52 : Value) (ds : List Deferred) (Q : Exit → Act → World → Prop)
    (hdone : ∀ (D : Nat) (W : World), w3.heap.size ≤ D → D < W.heap.size → OverW la lb y b cb g bb qb rb w3.heap.size w0 la.length W → W.heap[D]? = some (.deferred (some [])) → Q .normal { tmps := #[.slice a la.length ca, .slice b lb.length cb, u2, .pointer (some ⟨bb, 0, none⟩), u4, u5, .pointer (some ⟨qb, 0, none⟩), .pointer (some ⟨rb, 0, none⟩), u8, u9, u10, u11, u12, u13, u14, u15, u16, .func (.func 190) #[] #[.pointer (some ⟨sb, 0, none⟩)], u18, u19, u20, u21, u22, u23, u24, u25, u26, u27, u28, u29, u30, u31, u32, u33, u34, u35, u36, u37, u38, u39, u40, u41, u42, u43, u44, u45, u46, u47, u48, u49, u50, u51, u52], defers := mark D :: ds } W) :
    (Code.rangeFunc (.tmp 17) #[18, 19] cas cbd).wp Tryz.prog Q { tmps := #[.slice a la.length ca, .slice b lb.length cb, u2, .pointer (some ⟨bb, 0, none⟩), u4, u5, .pointer (some ⟨qb, 0, none⟩), .pointer (some ⟨rb, 0, none⟩), u8, u9, u10, u11, u12, u13, u14, u15, u16, .func (.func 190) #[] #[.pointer (some ⟨sb, 0, none⟩)], u18, u19, u20, u21, u22, u23, u24, u25, u26, u27, u28, u29, u30, u31, u32, u33, u34, u35, u36, u37, u38, u39, u40, u41, u42, u43, u44, u45, u46, u47, u48, u49, u50, u51, u52], defers := ds } w3 := by
  have HC := Lib.hid hcode
  have hsz : sb < w3.heap.size := cell_lt s0
  have hwz := E0.size
  have hbz : bb < w3.heap.size := cell_lt h3.pb
  have hrz : rb < w3.heap.size := by obtain ⟨_, _, _, _, _, h, _⟩ := h3.st; exact cell_lt h
  refine wp_bwd la a ca w0 sb (by omega) ha E0 s0 rfl
    (fun k W => OverW la lb y b cb g bb qb rb w3.heap.size w0 k W) (fun _ _ => False)
    (fun k A B h q => h.keep q hwz) (fun k A B h q => h.elim)
    (fun k A B h q => h.exts q) h3
    (fun k a' W => a' = { tmps := #[.slice a la.length ca, .slice b lb.length cb, u2, .pointer (some ⟨bb, 0, none⟩), u4, u5, .pointer (some ⟨qb, 0, none⟩), .pointer (some ⟨rb, 0, none⟩), .int .i64 ((la.length : Int) - 1 - (k : Int)), .int .u64 (la.getD (la.length - 1 - k) 0 : Nat), u10, u11, u12, u13, u14, u15, u16, .func (.func 190) #[] #[.pointer (some ⟨sb, 0, none⟩)], .int .i64 ((la.length : Int) - 1 - (k : Int)), .int .u64 (la.getD (la.length - 1 - k) 0 : Nat), u20, u21, u22, u23, u24, u25, u26, u27, u28, u29, u30, u31, u32, u33, u34, u35, u36, u37, u38, u39, u40, u41, u42, u43, u44, u45, u46, u47, u48, u49, u50, u51, u52], defers := [] }) (fun k a' A B h _ => h)
    ?assign ?body (fun D W h1 h2 h3 h4 => hdone D W h1 h2 h3 h4) (fun _ _ _ _ _ _ h _ => h.elim)
  case assign =>
    simp only [Tryz.f157, rngOf, Option.getD, List.nil_append, List.append_nil] at hcode
    cases hcode
    intro l' k m W K hm hI hK
    clear HC hy
    unfold bwEnc
    gi_wp2
    exact hK _ _ (Ext.refl _) rfl
  case body =>
    simp only [Tryz.f157, rngOf, Option.getD, List.nil_append, List.append_nil] at hcode
    cases hcode
    rintro l' k a' W hk hm hI rfl
    obtain ⟨n, hn⟩ : ∃ n, n = la.length - 1 - k := ⟨_, rfl⟩
    have hnl : n < la.length := by omega
    have e1 : la.length - k = n + 1 := by omega
    have e2 : la.length - (k + 1) = n := by omega
    have e3 : (la.length : Int) - 1 - (k : Int) = (n : Int) := by omega
    rw [← hn, e3]
    obtain ⟨r, q, v, hI1, O1, r1, V1, hvn⟩ := hI.st
    have p1 := hI.pb
    have q1 := hI.pq
    have fr := hI.fr
    have EW := hI.ext
    rw [e1] at hI1
    have hnx := hI1.next (by omega) OA hnl
    have hql : q.length = la.length := hI1.len
    have hrl := hI1.lt
    have hxb : la.getD n 0 < 1000000000 := okB_getD OA (by omega) n
    generalize la.getD n 0 = x at *
    obtain ⟨s, hs⟩ : ∃ s, s = x + 1000000000 * r := ⟨_, rfl⟩
    rw [← hs] at hnx
    have HN := Lib.hid hnx
    have hyB : y < 1000000000 ^ 100 := by
      have h1 := valB_lt (okB_toB (B := 1000000000) (by omega) y)
      rw [valB_toB (by omega), ← hy] at h1
      exact Nat.lt_of_lt_of_le h1 (Nat.pow_le_pow_right (by omega) hlb)
    have HYB : Hid (∀ m, m ≤ 1000000000 → (toB 1000000000 (y * m)).length ≤ 102) := fun m hm => toB_len (by omega) 102 (by
      have h1 : y * m < 1000000000 ^ 100 * 1000000000 ^ 2 := Nat.mul_lt_mul_of_lt_of_le hyB (by omega) (by omega)
      rw [← Nat.pow_add] at h1
      exact h1)
    have hRl : (toB 1000000000 r).length ≤ 100 := toB_len (by omega) 100 (by omega)
    have hxr : trimL (x :: toB 1000000000 r) = toB 1000000000 s := by
      rw [trimL_toB (B := 1000000000) (by omega) (fun z hz => by
        rcases List.mem_cons.1 hz with rfl | hz
        · exact hxb
        · exact okB_toB (by omega) r z hz), hs]
      congr 1
      show x + 1000000000 * valB 1000000000 (toB 1000000000 r) = _
      rw [valB_toB (by omega)]
    have hsB : s < 1000000000 * y := by
      rw [hs]
      have : 1000000000 * (r + 1) ≤ 1000000000 * y := Nat.mul_le_mul_left _ hrl
      rw [Nat.mul_add] at this
      omega
    have hSl : (toB 1000000000 s).length ≤ 102 := by
      have := HYB.out 1000000000 (Nat.le_refl _)
      exact toB_len (by omega) 102 (Nat.lt_of_lt_of_le hsB (by
        have h1 : 1000000000 * y ≤ 1000000000 ^ 2 * 1000000000 ^ 100 := Nat.mul_le_mul (by omega) (by omega)
        rw [← Nat.pow_add] at h1
        exact h1))
    have HSB := Lib.hid hsB
    have HXR := Lib.hid hxr
    have HY := Lib.hid hy
    have HB := Lib.hid hb
    have HVN := Lib.hid hvn
    have HO1 := Lib.hid O1
    have HV1 := Lib.hid V1
    have HFR := Lib.hid fr
    have hbn : ∀ i, i < w3.heap.size → v.ownBlock ≠ some i := fun i hi h => by have := hvn i h; omega
    have hvL : ∀ i, v.ownBlock = some i → i < W.heap.size := fun i h => V1.lt h
    have HBN := Lib.hid (And.intro hbn hvL)
    have HCELL : Hid ((∀ i, v.ownBlock = some i → ∀ o, W.heap[i]? = some o → o.isCells = true) ∧ (∀ o, W.heap[rb]? = some o → o.isCells = true) ∧ ∀ o, W.heap[g]? = some o → o.isCells = true) :=
      ⟨fun i h o ho => V1.isCells h ho, fun o ho => isCells_of_cell r1 ho, fun o ho => O1.isCells rfl ho⟩
    clear HC hI hI1 hnx hxr hsB hyB hy ha hb E0 h3 hdone hrl hxb hs hvn V1 O1 fr hbn hvL hn hk e1 e3 OA s0
    have EA : Ext W (W.alloc (.cells #[.int .u64 (x : Int)] 161)) := extA
    gi_wp2_with fail
    refine ⟨trivial, rfl, ?_⟩
    gi_at_call 174
    refine (callsIn_wide.2 (Insert_any x (toB 1000000000 r) v W.heap.size _ (HV1.out.ext EA) (by omega) (by show (W.heap.push _)[W.heap.size]? = _; exact Array.getElem?_push_size) (fun h => Nat.lt_irrefl _ (HBN.out.2 _ h)))).mono ?_
    rintro e w5 ⟨v5, rfl, V5, I5⟩
    have C1 : Chg (fun i => v.ownBlock = some i) W w5 := (Chg.ext EA).trans I5.ch
    have p5 := C1.cellAt p1 (HBN.out.1 _ hbz)
    have q5 := C1.cellAt q1 (HBN.out.1 _ hq3)
    have r5 := C1.cellAt r1 (HBN.out.1 _ hrz)
    have f5 := (C1.frozenAt r1 (HBN.out.1 _ hrz)).trans HFR.out
    have O5 := HO1.out.chg C1 (fun i hi => by cases hi; exact HBN.out.1 _ hg3)
    have E5 : Ext w0 w5 := (EW.trans EA).trans' (I5.be w0.heap.size (by have := EA.size; omega) (fun i hi => by have := HVN.out i hi; omega)) (Nat.le_refl _)
    have N5 : ∀ i, v5.ownBlock = some i → w3.heap.size ≤ i := fun i hi => by
      rcases I5.ow i hi with h | h
      · exact HVN.out i h
      · have := EA.size; omega
    obtain ⟨a5, c5, rfl, hc5, hr5, _⟩ := V5.reads
    have HT := Lib.hid (trimmed_any (x :: toB 1000000000 r) a5 c5 w5 hr5 hc5)
    have HV5 := Lib.hid V5
    have HC1 := Lib.hid C1
    have HN5 := Lib.hid N5
    have HO5 := Lib.hid O5
    clear hc5 hr5 V5 C1 N5 O5 I5 p1 q1 r1 EA EW HV1 HO1 HFR
    gi_wp2_with fail
    refine ⟨trivial, rfl, ?_⟩
    gi_at_call 173
    refine (callsIn_wide.2 HT.out).mono ?_
    rintro e w6 ⟨rfl, hn6, hE6⟩
    have V6 := (HV5.out.ext hE6).trim hn6
    rw [HXR.out] at V6 ⊢
    have E7 : Ext w0 (w6.setCell ⟨rb, 0, none⟩ (.slice a5 (toB 1000000000 s).length c5)) := (E5.trans hE6).set hwr _
    have p7 : (w6.setCell ⟨rb, 0, none⟩ (.slice a5 (toB 1000000000 s).length c5)).cell? ⟨bb, 0, none⟩ = some (.slice b lb.length cb) := by
      rw [World.cell?_setCell_other _ _ _ _ (fun h => by simp only [Addr.mk.injEq] at h; omega)]; exact hE6.cell p5
    have q7 : (w6.setCell ⟨rb, 0, none⟩ (.slice a5 (toB 1000000000 s).length c5)).cell? ⟨qb, 0, none⟩ = some (.slice (some ⟨g, 0, none⟩) la.length la.length) := by
      rw [World.cell?_setCell_other _ _ _ _ (fun h => by simp only [Addr.mk.injEq] at h; omega)]; exact hE6.cell q5
    have r7 := World.cell?_setCell_same w6 ⟨rb, 0, none⟩ (.slice a5 (toB 1000000000 s).length c5) (hE6.cell r5)
    have f7 : (w6.setCell ⟨rb, 0, none⟩ (.slice a5 (toB 1000000000 s).length c5)).frozen? ⟨rb, 0, none⟩ = false := by rw [World.frozen?_setCell]; exact (Below.frozen (p := ⟨rb, 0, none⟩) hE6 (cell_lt r5)).trans f5
    have N7 : ∀ i, (Value.slice a5 (toB 1000000000 s).length c5).ownBlock = some i → w3.heap.size ≤ i := fun i hi => HN5.out i (by cases a5 <;> exact hi)
    have O7 : OwnsN .u64 161 (w6.setCell ⟨rb, 0, none⟩ (.slice a5 (toB 1000000000 s).length c5)) (.slice (some ⟨g, 0, none⟩) la.length la.length) q := (HO5.out.ext hE6).same (fun i hi => by cases hi; exact Below.heap_setCell _ ⟨rb, 0, none⟩ _ g hgr)
    have V7 : OwnsN .u64 161 (w6.setCell ⟨rb, 0, none⟩ (.slice a5 (toB 1000000000 s).length c5)) (.slice a5 (toB 1000000000 s).length c5) (toB 1000000000 s) := V6.same (fun i hi => Below.heap_setCell _ ⟨rb, 0, none⟩ _ i (fun e => by have := N7 i hi; dsimp only at e; omega))
    have C7 : Chg (fun i => v.ownBlock = some i ∨ i = rb) W (w6.setCell ⟨rb, 0, none⟩ (.slice a5 (toB 1000000000 s).length c5)) := ((HC1.out.mono (fun i hi => .inl hi)).trans (Chg.ext hE6)).trans (Chg.setCell (B := fun i => v.ownBlock = some i ∨ i = rb) ⟨rb, 0, none⟩ _ (.inr rfl))
    have s7 : rb < (w6.setCell ⟨rb, 0, none⟩ (.slice a5 (toB 1000000000 s).length c5)).heap.size := cell_lt r7
    have r6 := hE6.cell r5
    have f6 := (Below.frozen (p := ⟨rb, 0, none⟩) hE6 (cell_lt r5)).trans f5
    have HV7 := Lib.hid V7
    have HN7 := Lib.hid N7
    have HRC : Hid (CellsN .u64 (w6.setCell ⟨rb, 0, none⟩ (.slice a5 (toB 1000000000 s).length c5)) a5 (toB 1000000000 s)) := by
      obtain ⟨a', c', e1, e2, _⟩ := V7.reads
      cases e1
      exact e2
    have HO7 := Lib.hid O7
    have HC7 := Lib.hid C7
    have hz7 : w3.heap.size ≤ (w6.setCell ⟨rb, 0, none⟩ (.slice a5 (toB 1000000000 s).length c5)).heap.size := by have := C7.1; omega
    have HP7 := Lib.hid (And.intro p7 (And.intro q7 (And.intro r7 (And.intro f7 E7))))
    clear V6 V7 O7 C7 N7 HN5 hn6 hE6 E5 p5 q5 r5 f5 HT HV5 HC1 HO5 p7 q7 r7 f7 E7
    gi_wp2
    generalize (w6.setCell ⟨rb, 0, none⟩ (.slice a5 (toB 1000000000 s).length c5)) = W2 at HV7 HO7 HC7 HP7 HRC hz7 s7 ⊢
    clear r6 f6
    gi_loopw [10, 11] (fun lo hi wr => ∃ (L H : Nat), lo = .int .u64 (L : Int) ∧ hi = .int .u64 (H : Int) ∧ H ≤ 1000000000 ∧ L < H ∧ Hid (FindW y s L H) ∧ Hid (Ext W2 wr)) (fun lo hi _ => (intOf hi - intOf lo).toNat)
    case atStart => exact ⟨0, 1000000000, rfl, rfl, Nat.le_refl _, by omega, ⟨by omega, Nat.le_refl _, by rw [Nat.zero_mul]; exact Nat.zero_le _, HSB.out⟩, Ext.refl _⟩
    case round =>
      obtain ⟨L, H, rfl, rfl, hHB, hLH, HF, HE⟩ := hrel
      obtain ⟨D, hD⟩ : ∃ D, D = H - L := ⟨_, rfl⟩
      have hw1 : IntKind.u64.wrap ((H : Int) - (L : Int)) = (D : Int) := by rw [IntKind.wrap_u64]; omega
      obtain ⟨p7, q7, r7, f7, E7⟩ := HP7.out
      have p8 := HE.out.cell p7
      have r8 := HE.out.cell r7
      have HE0 := Lib.hid (E7.trans HE.out)
      by_cases hgt : 1 < D
      · obtain ⟨M, hM⟩ : ∃ M, M = (L + H) / 2 := ⟨_, rfl⟩
        have hw2 : IntKind.u64.wrap ((L : Int) + (H : Int)) = (L : Int) + (H : Int) := by rw [IntKind.wrap_u64]; omega
        have ht1 : ((L : Int) + (H : Int)).tdiv 2 = (M : Int) := by rw [Int.tdiv_eq_ediv_of_nonneg (by omega)]; omega
        have hw3 : IntKind.u64.wrap (M : Int) = (M : Int) := by rw [IntKind.wrap_u64]; omega
        have hgi : (1 : Int) < (D : Int) := by omega
        have hMB : M < 1000000000 := by omega
        have hML : L < M ∧ M < H := by omega
        have hyl := HYB.out M (by omega)
        have HM := Lib.hid hM
        have HD := Lib.hid hD
        have HYL := Lib.hid hyl
        have hdr : Ext W2 wr.drew := HE.out.trans extA
        have hS : wr.drew.cell? ⟨bb, 0, none⟩ = some (.slice b lb.length cb) ∧ wr.drew.cell? ⟨rb, 0, none⟩ = some (.slice a5 (toB 1000000000 s).length c5) := ⟨hdr.cell p7, hdr.cell r7⟩
        by_cases hle : y * M ≤ s
        · obtain ⟨hF1, hF2⟩ := HF.out.low (by omega) hM hle
          have HF1 := Lib.hid hF1
          obtain ⟨z, hz, hz0⟩ : ∃ z, ordN (y * M) s = z ∧ z ≤ 0 := ⟨_, rfl, ordN_le.2 hle⟩
          have HZ := Lib.hid hz
          clear hM hD hle hF1 hz hyl p7 q7 r7 f7 E7
          gi_wp2
          refine round_heldE 99 (fun w' => w'.cell? ⟨bb, 0, none⟩ = some (.slice b lb.length cb) ∧ w'.cell? ⟨rb, 0, none⟩ = some (.slice a5 (toB 1000000000 s).length c5)) (by kernel_rfl) (by kernel_rfl) (fun ⟨_, _, h⟩ => h) ?_
          ((refine eTk 0 ?_); (refine eTk 1 ?_); (refine eTk 3 ?_))
          (refine wpAnyE_one (i := 2) (o := ?_) ?_ (by kernel_rfl) (fun K hK => ?_); rotate_left; (focus ((simp only [List.getElem?_toArray, List.getElem?_cons_succ, List.getElem?_cons_zero]; exact rfl))); go_simp; go_at_call 175; refine (by_any y M lb b cb _ HY.out hMB (by omega) (HB.out.ext (HP7.out.2.2.2.2.trans hdr))).mono ?_; rintro e w8 ⟨pv, rfl, P1, P2, hE8⟩; obtain ⟨pa, pc, rfl, hpc, _, _⟩ := P1.reads; go_wp2_with fail; refine hK.out _ _ ?_ (fun hHeld => ?_); rotate_left; clear hK K; (try simp only [Act.put, List.setIfInBounds_toArray, List.set_cons_zero, List.set_cons_succ]))
          rotate_left
          · exact ⟨hE8.cell hS.1, hE8.cell hS.2⟩
          have hdr2 := hdr.trans hE8
          have hS2 : w8.cell? ⟨bb, 0, none⟩ = some (.slice b lb.length cb) ∧ w8.cell? ⟨rb, 0, none⟩ = some (.slice a5 (toB 1000000000 s).length c5) := ⟨hE8.cell hS.1, hE8.cell hS.2⟩
          have HPC := Lib.hid hpc
          clear hpc P1 P2 hE8 hS
          (refine wpAnyE_one (i := 4) (o := ?_) ?_ (by kernel_rfl) (fun K hK => ?_); rotate_left; (focus ((simp only [List.getElem?_toArray, List.getElem?_cons_succ, List.getElem?_cons_zero]; exact rfl))); go_simp; go_at_call 131; refine (compare_any (y * M) s (toB 1000000000 (y * M)) (toB 1000000000 s) pa a5 pc c5 w8 rfl rfl (by have := HYL.out; omega) (by omega) HPC.out (HRC.out.ext hdr2)).mono ?_; rintro e w9 ⟨rfl, hE9⟩; rw [HZ.out]; go_wp2_with fail; refine hK.out _ _ ?_ (fun hHeld => ?_); rotate_left; clear hK K; (try simp only [Act.put, List.setIfInBounds_toArray, List.set_cons_zero, List.set_cons_succ]))
          rotate_left
          · exact ⟨hE9.cell hS2.1, hE9.cell hS2.2⟩
          have hdr3 := Lib.hid (hdr2.trans hE9)
          clear hE9 hdr2 hS2 hdr
          (refine eTk 5 ?_)
          refine wpAnyE_done (by kernel_rfl) ?_ _
          clear hHeld
          gi_wp2
          refine ⟨⟨_, _, rfl, rfl, by omega, by omega, HF1, hdr3⟩, by simp [intOf]; omega⟩
        · obtain ⟨hF1, hF2⟩ := HF.out.high (by omega) hM (by omega)
          have HF1 := Lib.hid hF1
          obtain ⟨z, hz, hz0⟩ : ∃ z, ordN (y * M) s = z ∧ ¬ z ≤ 0 := ⟨_, rfl, fun h => hle (ordN_le.1 h)⟩
          have HZ := Lib.hid hz
          clear hM hD hle hF1 hz hyl p7 q7 r7 f7 E7
          gi_wp2
          refine round_heldE 99 (fun w' => w'.cell? ⟨bb, 0, none⟩ = some (.slice b lb.length cb) ∧ w'.cell? ⟨rb, 0, none⟩ = some (.slice a5 (toB 1000000000 s).length c5)) (by kernel_rfl) (by kernel_rfl) (fun ⟨_, _, h⟩ => h) ?_
          ((refine eTk 0 ?_); (refine eTk 1 ?_); (refine eTk 3 ?_))
          (refine wpAnyE_one (i := 2) (o := ?_) ?_ (by kernel_rfl) (fun K hK => ?_); rotate_left; (focus ((simp only [List.getElem?_toArray, List.getElem?_cons_succ, List.getElem?_cons_zero]; exact rfl))); go_simp; go_at_call 175; refine (by_any y M lb b cb _ HY.out hMB (by omega) (HB.out.ext (HP7.out.2.2.2.2.trans hdr))).mono ?_; rintro e w8 ⟨pv, rfl, P1, P2, hE8⟩; obtain ⟨pa, pc, rfl, hpc, _, _⟩ := P1.reads; go_wp2_with fail; refine hK.out _ _ ?_ (fun hHeld => ?_); rotate_left; clear hK K; (try simp only [Act.put, List.setIfInBounds_toArray, List.set_cons_zero, List.set_cons_succ]))
          rotate_left
          · exact ⟨hE8.cell hS.1, hE8.cell hS.2⟩
          have hdr2 := hdr.trans hE8
          have hS2 : w8.cell? ⟨bb, 0, none⟩ = some (.slice b lb.length cb) ∧ w8.cell? ⟨rb, 0, none⟩ = some (.slice a5 (toB 1000000000 s).length c5) := ⟨hE8.cell hS.1, hE8.cell hS.2⟩
          have HPC := Lib.hid hpc
          clear hpc P1 P2 hE8 hS
          (refine wpAnyE_one (i := 4) (o := ?_) ?_ (by kernel_rfl) (fun K hK => ?_); rotate_left; (focus ((simp only [List.getElem?_toArray, List.getElem?_cons_succ, List.getElem?_cons_zero]; exact rfl))); go_simp; go_at_call 131; refine (compare_any (y * M) s (toB 1000000000 (y * M)) (toB 1000000000 s) pa a5 pc c5 w8 rfl rfl (by have := HYL.out; omega) (by omega) HPC.out (HRC.out.ext hdr2)).mono ?_; rintro e w9 ⟨rfl, hE9⟩; rw [HZ.out]; go_wp2_with fail; refine hK.out _ _ ?_ (fun hHeld => ?_); rotate_left; clear hK K; (try simp only [Act.put, List.setIfInBounds_toArray, List.set_cons_zero, List.set_cons_succ]))
          rotate_left
          · exact ⟨hE9.cell hS2.1, hE9.cell hS2.2⟩
          have hdr3 := Lib.hid (hdr2.trans hE9)
          clear hE9 hdr2 hS2 hdr
          (refine eTk 5 ?_)
          refine wpAnyE_done (by kernel_rfl) ?_ _
          clear hHeld
          gi_wp2
          refine ⟨⟨_, _, rfl, rfl, by omega, by omega, HF1, hdr3⟩, by simp [intOf]; omega⟩
      · have hLs : L = s / y := HF.out.done (by omega)
        have hgi : ¬ (1 : Int) < (D : Int) := by omega
        have hnq : n < q.length := by omega
        obtain ⟨s1, s2⟩ := (HO7.out.ext HE.out).at hnq
        have q8 := HE.out.cell q7
        have O8 : OwnsN .u64 161 (wr.setCell ⟨g, n, none⟩ (.int .u64 (L : Int))) (.slice (some ⟨g, 0, none⟩) la.length la.length) (q.set n L) := (HO7.out.ext HE.out).set n L
        have V8 : OwnsN .u64 161 (wr.setCell ⟨g, n, none⟩ (.int .u64 (L : Int))) (.slice a5 (toB 1000000000 s).length c5) (toB 1000000000 s) := (HV7.out.ext HE.out).same (fun i hi => Below.heap_setCell _ ⟨g, n, none⟩ _ i (fun e => by have := HN7.out i hi; dsimp only at e; omega))
        have P8 : (wr.setCell ⟨g, n, none⟩ (.int .u64 (L : Int))).cell? ⟨bb, 0, none⟩ = some (.slice b lb.length cb) := by
          rw [World.cell?_setCell_other _ _ _ _ (fun h => by simp only [Addr.mk.injEq] at h; omega)]; exact p8
        have Q8 : (wr.setCell ⟨g, n, none⟩ (.int .u64 (L : Int))).cell? ⟨qb, 0, none⟩ = some (.slice (some ⟨g, 0, none⟩) la.length la.length) := by
          rw [World.cell?_setCell_other _ _ _ _ (fun h => by simp only [Addr.mk.injEq] at h; omega)]; exact q8
        have R8 : (wr.setCell ⟨g, n, none⟩ (.int .u64 (L : Int))).cell? ⟨rb, 0, none⟩ = some (.slice a5 (toB 1000000000 s).length c5) := by
          rw [World.cell?_setCell_other _ _ _ _ (fun h => by simp only [Addr.mk.injEq] at h; omega)]; exact r8
        have F8 : (wr.setCell ⟨g, n, none⟩ (.int .u64 (L : Int))).frozen? ⟨rb, 0, none⟩ = false := by rw [World.frozen?_setCell]; exact (Below.frozen (p := ⟨rb, 0, none⟩) HE.out s7).trans f7
        have E8 : Ext w0 (wr.setCell ⟨g, n, none⟩ (.int .u64 (L : Int))) := (E7.trans HE.out).set hwg _
        have C8 : Chg (fun i => v.ownBlock = some i ∨ i = rb ∨ i = g) W (wr.setCell ⟨g, n, none⟩ (.int .u64 (L : Int))) := ((HC7.out.mono (fun i hi => hi.imp id .inl)).trans (Chg.ext HE.out)).trans (Chg.setCell (B := fun i => v.ownBlock = some i ∨ i = rb ∨ i = g) ⟨g, n, none⟩ _ (.inr (.inr rfl)))
        have hz8 : w3.heap.size ≤ (wr.setCell ⟨g, n, none⟩ (.int .u64 (L : Int))).heap.size := by have := C8.1; omega
        have HRC8 : Hid (CellsN .u64 (wr.setCell ⟨g, n, none⟩ (.int .u64 (L : Int))) a5 (toB 1000000000 s)) := by
          obtain ⟨a', c', e1, e2, _⟩ := V8.reads
          cases e1
          exact e2
        have HA8 := Lib.hid (And.intro O8 (And.intro Q8 (And.intro E8 C8)))
        have HP8 := Lib.hid (And.intro P8 (And.intro R8 F8))
        have HL := Lib.hid hLs
        have hLm : L ≤ 1000000000 := by omega
        have hyl := HYB.out L hLm
        have hLy : y * L ≤ s := by rw [Nat.mul_comm]; exact HF.out.lo
        have HLY := Lib.hid hLy
        have HYL := Lib.hid hyl
        clear O8 V8 P8 Q8 R8 F8 E8 C8 HV7 HO7 HC7 HP7 HRC p7 r7 q7 f7 E7 p8 r8 hD HF hLs hyl hLy hHB HE HE0
        gi_wp2
        generalize (wr.setCell ⟨g, n, none⟩ (.int .u64 (L : Int))) = W8 at HA8 HP8 HRC8 hz8 ⊢
        clear s1 s2 q8 hw1 hgi
        have hdr : Ext W8 W8.drew := extA
        obtain ⟨hP8, hR8, hF8⟩ := HP8.out
        have hS : W8.drew.cell? ⟨bb, 0, none⟩ = some (.slice b lb.length cb) ∧ W8.drew.cell? ⟨rb, 0, none⟩ = some (.slice a5 (toB 1000000000 s).length c5) := ⟨hdr.cell hP8, hdr.cell hR8⟩
        refine round_heldE 5 (fun w' => w'.cell? ⟨bb, 0, none⟩ = some (.slice b lb.length cb) ∧ w'.cell? ⟨rb, 0, none⟩ = some (.slice a5 (toB 1000000000 s).length c5)) (by kernel_rfl) (by kernel_rfl) (fun ⟨_, _, h⟩ => h) ?_
        ((refine eTk 0 ?_); (refine eTk 1 ?_); (refine eTk 2 ?_))
        (refine wpAnyE_one (i := 3) (o := ?_) ?_ (by kernel_rfl) (fun K hK => ?_); rotate_left; (focus ((simp only [List.getElem?_toArray, List.getElem?_cons_succ, List.getElem?_cons_zero]; exact rfl))); go_simp; go_at_call 175; refine (by_any y L lb b cb _ HY.out (by have := HN.out.1; have := HL.out; omega) (by omega) (HB.out.ext (HA8.out.2.2.1.trans hdr))).mono ?_; rintro e w9 ⟨pv, rfl, P1, P2, hE9⟩; obtain ⟨pa, pc, rfl, hpc, _, _⟩ := P1.reads; go_wp2_with fail; refine hK.out _ _ ?_ (fun hHeld => ?_); rotate_left; clear hK K; (try simp only [Act.put, List.setIfInBounds_toArray, List.set_cons_zero, List.set_cons_succ]))
        rotate_left
        · exact ⟨hE9.cell hS.1, hE9.cell hS.2⟩
        have hdr2 := hdr.trans hE9
        have hS2 : w9.cell? ⟨bb, 0, none⟩ = some (.slice b lb.length cb) ∧ w9.cell? ⟨rb, 0, none⟩ = some (.slice a5 (toB 1000000000 s).length c5) := ⟨hE9.cell hS.1, hE9.cell hS.2⟩
        have HPC := Lib.hid hpc
        clear hpc P1 P2 hE9 hS
        (refine wpAnyE_one (i := 4) (o := ?_) ?_ (by kernel_rfl) (fun K hK => ?_); rotate_left; (focus ((simp only [List.getElem?_toArray, List.getElem?_cons_succ, List.getElem?_cons_zero]; exact rfl))); go_simp; go_at_call 152; refine (minus_any s (y * L) (toB 1000000000 s) (toB 1000000000 (y * L)) a5 pa c5 pc w9 rfl rfl HLY.out (by omega) (HRC8.out.ext hdr2) HPC.out).mono ?_; rintro e w10 ⟨nv, rfl, N1, N2, hE10⟩; obtain ⟨na, nc, rfl, _, _, _⟩ := N1.reads; go_wp2_with fail; refine hK.out _ _ ?_ (fun hHeld => ?_); rotate_left; clear hK K; (try simp only [Act.put, List.setIfInBounds_toArray, List.set_cons_zero, List.set_cons_succ]))
        rotate_left
        · exact ⟨hE10.cell hS2.1, hE10.cell hS2.2⟩
        have hdr3 := hdr2.trans hE10
        have r10 := hE10.cell hS2.2
        have f10 : w10.frozen? ⟨rb, 0, none⟩ = false := (Below.frozen (p := ⟨rb, 0, none⟩) hdr3 (cell_lt hR8)).trans hF8
        have HN2 : ∀ i, (Value.slice na (toB 1000000000 (s - y * L)).length nc).ownBlock = some i → w3.heap.size ≤ i := fun i hi => by have h1 := N2 i hi; have h2 := hdr2.size; omega
        obtain ⟨O8, Q8, E8, C8⟩ := HA8.out
        have hmod : s - y * L = s % y := by
          have := Nat.div_add_mod s y
          rw [← HL.out] at this
          omega
        have OW : OverW la lb y b cb g bb qb rb w3.heap.size w0 (k + 1) (w10.setCell ⟨rb, 0, none⟩ (.slice na (toB 1000000000 (s - y * L)).length nc)) := by
          refine ⟨(E8.trans hdr3).set hwr _, ?_, ?_, ?_, s % y, q.set n L, _, ?_, (O8.ext hdr3).same (fun i hi => by cases hi; exact Below.heap_setCell _ ⟨rb, 0, none⟩ _ g hgr), World.cell?_setCell_same w10 ⟨rb, 0, none⟩ _ r10, ?_, HN2⟩
          · rw [World.cell?_setCell_other _ _ _ _ (fun h => by simp only [Addr.mk.injEq] at h; omega)]; exact hdr3.cell hP8
          · rw [World.cell?_setCell_other _ _ _ _ (fun h => by simp only [Addr.mk.injEq] at h; omega)]; exact hdr3.cell Q8
          · rw [World.frozen?_setCell]; exact f10
          · rw [e2, HL.out]; exact HN.out.2
          · rw [← hmod]; exact N1.same (fun i hi => Below.heap_setCell _ ⟨rb, 0, none⟩ _ i (fun e => by have := HN2 i hi; dsimp only at e; omega))
        have HOW := Lib.hid OW
        have HCC := Lib.hid ((C8.trans (Chg.ext hdr3)).trans (Chg.setCell (B := fun i => v.ownBlock = some i ∨ i = rb ∨ i = g) (A := w10) ⟨rb, 0, none⟩ (.slice na (toB 1000000000 (s - y * L)).length nc) (.inr (.inl rfl))))
        clear N1 N2 hE10 hS2 hdr2 hdr3 hdr hP8 hR8 hF8 HPC O8 Q8 E8 C8 OW hmod HN2
        (refine wpAnyE_free (i := 5) (o := ?_) ?_ (by kernel_rfl) (by kernel_rfl) (fun K hK => ?_); rotate_left; (focus ((simp only [List.getElem?_toArray, List.getElem?_cons_succ, List.getElem?_cons_zero]; exact rfl))); go_simp; refine hK.out _ _ ?_; clear hK K; (try simp only [Act.put, List.setIfInBounds_toArray, List.set_cons_zero, List.set_cons_succ]))
        refine wpAnyE_done (by kernel_rfl) ?_ _
        clear hHeld
        refine ⟨⟨fun i => v.ownBlock = some i ∨ i = rb ∨ i = g, HCC.out, ?_, ?_⟩, HOW.out⟩
        · rintro i (h | rfl | rfl)
          · have := HVN.out i h
            exact ⟨by omega, by omega⟩
          · exact ⟨fun e => hsr e.symm, hwr⟩
          · exact ⟨fun e => hsg e.symm, hwg⟩
        · rintro i (h | rfl | rfl) o ho
          · exact HCELL.out.1 i h o ho
          · exact HCELL.out.2.1 o ho
          · exact HCELL.out.2.2 o ho
end Go.Proofs.YtdejgaiocjfhjaaGreatDoor
namespace Go.Proofs.YtdejgaiocjfhjaaGreatDoor
open Go.RowKit
attribute [local go_sem] Oper.semAt_some
def OwnNPost2 (k : IntKind) (t : TypeId) (l m : List Nat) (w : World) (e : Ending) (w' : World) : Prop :=
  ∃ v u, e = .returned (.tuple #[v, u]) ∧ OwnsN k t w' v l ∧ OwnsN k t w' u m ∧ (∀ b, v.ownBlock = some b → w.heap.size ≤ b) ∧ (∀ b, u.ownBlock = some b → w.heap.size ≤ b) ∧ Ext w w'
set_option maxHeartbeats 4000000 in
set_option maxRecDepth 100000 in
theorem over_any (x y : Nat) (la lb : List Nat) (a b : Option Addr) (ca cb : Nat) (w : World) (hx : la = toB 1000000000 x) (hy : lb = toB 1000000000 y) (hy0 : 0 < y)
    (hla : la.length ≤ 100) (hlb : lb.length ≤ 100) (ha : CellsN .u64 w a la) (hb : CellsN .u64 w b lb) :
    Calls Tryz.prog 157 #[.slice a la.length ca, .slice b lb.length cb] w (OwnNPost2 .u64 161 (toB 1000000000 (x / y)) (toB 1000000000 (x % y)) w) := by
  have HX := Lib.hid hx
  have HY := Lib.hid hy
  have HA := Lib.hid ha
  have HB := Lib.hid hb
  have HOA : Hid (OkB 1000000000 la) := by show OkB _ _; rw [hx]; exact okB_toB (by omega) x
  clear hx hy ha hb
  obtain ⟨w1, hw1⟩ : ∃ w1, w1 = w.alloc (.cells #[.slice b lb.length cb] 114) := ⟨_, rfl⟩
  have hs1 : w1.heap.size = w.heap.size + 1 := by rw [hw1]; simp
  have hmk : (Instr.makeSlice 114 (.int .i64 (la.length : Int)) (.int .i64 (la.length : Int))).run Tryz.prog w1 = .ok (.slice (some ⟨w1.heap.size, 0, none⟩) la.length la.length) (w1.alloc (.cells (madeCells #[.int .u64 0] la.length) 161)) :=
    run_make_row' _ _ (.int .u64 0) 8 Tryz.underlying114 infoU64 rfl _ _ la.length (by omega) (by omega) w1
  obtain ⟨w2, hw2⟩ : ∃ w2, w2 = w1.alloc (.cells (madeCells #[.int .u64 0] la.length) 161) := ⟨_, rfl⟩
  rw [← hw2] at hmk
  have hs2 : w2.heap.size = w.heap.size + 1 + 1 := by rw [hw2]; simp [hs1]
  have E2 : Ext w w2 := by rw [hw2, hw1]; exact extA
  have O2 : OwnsN .u64 161 w2 (.slice (some ⟨w1.heap.size, 0, none⟩) la.length la.length) (List.replicate la.length 0) := by rw [hw2]; exact madeN _ _ w1 _ (by omega)
  have b2 : w2.cell? ⟨w.heap.size, 0, none⟩ = some (.slice b lb.length cb) := by rw [hw2, hw1]; go_simp
  rw [hs1] at O2 hmk
  have E3 : Ext w2 (((w2.alloc (.cells #[.slice (some ⟨w.heap.size + 1, 0, none⟩) la.length la.length] 114)).alloc (.cells #[.slice none 0 0] 114)).alloc (.cells #[.slice a la.length ca] 114)) := extA
  have hs3 : ((w2.alloc (.cells #[.slice (some ⟨w.heap.size + 1, 0, none⟩) la.length la.length] 114)).alloc (.cells #[.slice none 0 0] 114)).heap.size = w.heap.size + 1 + 1 + 1 + 1 := by simp [hs2]
  have q3 : (((w2.alloc (.cells #[.slice (some ⟨w.heap.size + 1, 0, none⟩) la.length la.length] 114)).alloc (.cells #[.slice none 0 0] 114)).alloc (.cells #[.slice a la.length ca] 114)).cell? ⟨w2.heap.size, 0, none⟩ = some (.slice (some ⟨w.heap.size + 1, 0, none⟩) la.length la.length) := by go_simp
  have r3 : (((w2.alloc (.cells #[.slice (some ⟨w.heap.size + 1, 0, none⟩) la.length la.length] 114)).alloc (.cells #[.slice none 0 0] 114)).alloc (.cells #[.slice a la.length ca] 114)).cell? ⟨w2.heap.size + 1, 0, none⟩ = some (.slice none 0 0) := by go_simp
  have f3 : (((w2.alloc (.cells #[.slice (some ⟨w.heap.size + 1, 0, none⟩) la.length la.length] 114)).alloc (.cells #[.slice none 0 0] 114)).alloc (.cells #[.slice a la.length ca] 114)).frozen? ⟨w2.heap.size + 1, 0, none⟩ = false := by go_simp
  have s3 : (((w2.alloc (.cells #[.slice (some ⟨w.heap.size + 1, 0, none⟩) la.length la.length] 114)).alloc (.cells #[.slice none 0 0] 114)).alloc (.cells #[.slice a la.length ca] 114)).cell? ⟨w2.heap.size + 1 + 1, 0, none⟩ = some (.slice a la.length ca) := by go_simp
  rw [hs2] at q3 r3 f3 s3
  have EV := E2.trans E3
  have HW : Hid (OverW la lb y b cb (w.heap.size + 1) w.heap.size (w.heap.size + 1 + 1) (w.heap.size + 1 + 1 + 1) (((w2.alloc (.cells #[.slice (some ⟨w.heap.size + 1, 0, none⟩) la.length la.length] 114)).alloc (.cells #[.slice none 0 0] 114)).alloc (.cells #[.slice a la.length ca] 114)).heap.size w 0 (((w2.alloc (.cells #[.slice (some ⟨w.heap.size + 1, 0, none⟩) la.length la.length] 114)).alloc (.cells #[.slice none 0 0] 114)).alloc (.cells #[.slice a la.length ca] 114))) := by
    refine ⟨EV, E3.cell b2, q3, f3, 0, _, _, OverI.start (by omega) la hy0, O2.ext E3, r3, ?_, fun b hb => by cases hb⟩
    rw [toB_zero]; exact OwnsN.nil _ _ _
  have hw1' := hw1.symm
  have HW1 := Lib.hid hw1
  have HW2 := Lib.hid hw2
  clear hw2 hw1 b2 E2 E3 O2 q3 r3 f3
  refine (callsIn_wide (n := 0)).1 ?_
  refine callsIn_of_wp_marks Tryz.func157 rfl trivial ?_
  simp only [Tryz.ntmps157, List.size_toArray, List.length_cons, List.length_nil, Nat.reduceAdd, Nat.reduceSub, Array.replicate_succ, Array.replicate_zero, List.push_toArray, List.append_toArray, List.nil_append, List.cons_append]
  gi_wp2_with fail
  refine ⟨trivial, rfl, ?_⟩
  gi_at_call 164
  refine (callsIn_wide.2 (Backward_any a la.length ca _)).mono ?_
  rintro e w3 ⟨rfl, rfl⟩
  rw [hs3]
  clear hs3 hmk hw1' hs1
  generalize (((w2.alloc (.cells #[.slice (some ⟨w.heap.size + 1, 0, none⟩) la.length la.length] 114)).alloc (.cells #[.slice none 0 0] 114)).alloc (.cells #[.slice a la.length ca] 114)) = w3 at EV s3 HW ⊢
  have hz3 := EV.size
  have hsz : w.heap.size + 1 + 1 + 1 + 1 < w3.heap.size := cell_lt s3
  gi_wp2_with fail
  refine wpIn_wide.2 (over_range _ _ rfl y la lb a b ca cb w w3 (w.heap.size + 1 + 1 + 1 + 1) (w.heap.size + 1) w.heap.size (w.heap.size + 1 + 1) (w.heap.size + 1 + 1 + 1) hla hlb HOA.out HY.out hy0 HA.out HB.out EV s3 HW.out (by omega) (by omega) (by omega) (by omega) (by omega) (by omega) (by omega) (by omega) (by omega) (by omega) (by omega) _ _ _ _ _ _ _ _ _ _ _ _ _ _ _ _ _ _ _ _ _ _ _ _ _ _ _ _ _ _ _ _ _ _ _ _ _ _ _ _ _ _ _ _ _ _ _ [] _ ?_)
  intro D W k1 k2 hW hD
  clear HW s3
  obtain ⟨r, q, v, hI, hO, r4, hV, hvn⟩ := hW.st
  have q4 := hW.pq
  have E4 := hW.ext
  rw [Nat.sub_self] at hI
  have hql : q.length = la.length := hI.len
  have hdone := hI.done (by omega)
  rw [HX.out, valB_toB (by omega)] at hdone
  rw [← hql] at q4 hO
  obtain ⟨_, _, hov, hoc, hor, _⟩ := hO.reads
  cases hov
  clear hql
  obtain ⟨ra, rc, rfl, _, _, _⟩ := hV.reads
  have HR := Lib.hid (trimmed_any q (some ⟨w.heap.size + 1, 0, none⟩) q.length)
  have HC := Lib.hid (And.intro hoc hor)
  have HDN := Lib.hid hdone
  have HO := Lib.hid hO
  have HV := Lib.hid hV
  have HVN := Lib.hid hvn
  have HD := Lib.hid hD
  clear hI hoc hor hO hD hW hV hvn hdone EV
  have hdr : Ext W W.drew := extA
  have hS : W.drew.cell? ⟨w.heap.size + 1 + 1, 0, none⟩ = some (.slice (some ⟨w.heap.size + 1, 0, none⟩) q.length q.length) ∧ W.drew.cell? ⟨w.heap.size + 1 + 1 + 1, 0, none⟩ = some (.slice ra (toB 1000000000 r).length rc) := ⟨hdr.cell q4, hdr.cell r4⟩
  gi_wp2_with fail
  refine wide_heldE 99 (fun w' => w'.cell? ⟨w.heap.size + 1 + 1, 0, none⟩ = some (.slice (some ⟨w.heap.size + 1, 0, none⟩) q.length q.length) ∧ w'.cell? ⟨w.heap.size + 1 + 1 + 1, 0, none⟩ = some (.slice ra (toB 1000000000 r).length rc)) (by kernel_rfl) ?_
  ((refine eTk 0 ?_); (refine eTk 2 ?_))
  (refine wpAnyE_one (i := 1) (o := ?_) ?_ (by kernel_rfl) (fun K hK => ?_); rotate_left; (focus ((simp only [List.getElem?_toArray, List.getElem?_cons_succ, List.getElem?_cons_zero]; exact rfl))); go_simp; go_at_call 173; refine (HR.out W.drew HC.out.2 (HC.out.1.ext hdr)).mono ?_; rintro e w5 ⟨rfl, hn5, hE5⟩; go_wp2_with fail; refine hK.out _ _ ?_ (fun hHeld => ?_); rotate_left; clear hK K; (try simp only [Act.put, List.setIfInBounds_toArray, List.set_cons_zero, List.set_cons_succ]))
  rotate_left
  · exact ⟨hE5.cell hS.1, hE5.cell hS.2⟩
  have hdr2 := hdr.trans hE5
  have hS2 : w5.cell? ⟨w.heap.size + 1 + 1, 0, none⟩ = some (.slice (some ⟨w.heap.size + 1, 0, none⟩) q.length q.length) ∧ w5.cell? ⟨w.heap.size + 1 + 1 + 1, 0, none⟩ = some (.slice ra (toB 1000000000 r).length rc) := ⟨hE5.cell hS.1, hE5.cell hS.2⟩
  ((refine eTk 3 ?_); (refine eTk 4 ?_))
  refine wpAnyE_done (by kernel_rfl) ?_ _
  refine NoPanic.normal ?_
  have HO6 := Lib.hid ((HO.out.ext hdr2).trim hn5)
  have HV6 := Lib.hid (HV.out.ext hdr2)
  have HD6 := Lib.hid ((Below.block hdr2 D k2).trans HD.out)
  have E6 := E4.trans hdr2
  clear hn5 hE5 hS hS2 hdr2 hdr HO HV HD hHeld q4 r4 E4
  gi_wp2
  refine leaves_cells (v := .tuple #[.slice (some ⟨w.heap.size + 1, 0, none⟩) (trimL q).length q.length, .slice ra (toB 1000000000 r).length rc]) (n := w3.heap.size) [mark D] _ ⟨[D], rfl, by simp, fun E hE => by simp at hE; subst hE; exact ⟨k1, HD6.out⟩⟩ (fun W6 hk => ?_)
  refine ⟨(results_tmp2 (t := 4) (u := 5) rfl _ _ _).trans rfl, _, _, rfl, ?_, ?_, fun b hb => by cases hb; exact Nat.le_succ _, fun b hb => by have := HVN.out b hb; omega, E6.trans' hk.1 hz3⟩
  · rw [← HDN.out.1]; exact rowKeep HO6.out hk
  · rw [← HDN.out.2]; exact rowKeep HV6.out hk
end Go.Proofs.YtdejgaiocjfhjaaGreatDoor
namespace Go.Proofs.YtdejgaiocjfhjaaGreatDoor
open Go.RowKit
def readN (w : World) (a : Option Addr) (n : Nat) : List Nat := (List.range n).map fun i => match a with
  | some p => (match w.cell? ⟨p.block, p.off + i, none⟩ with | some (.int _ z) => z.toNat | _ => 0)
  | none => 0
theorem readN_eq {k : IntKind} {w : World} {a : Option Addr} {l : List Nat} (h : CellsN k w a l) : readN w a l.length = l := by
  apply List.ext_getElem (by simp [readN])
  intro i h1 h2
  obtain ⟨b, off, rfl, hc⟩ := h i h2
  simp [readN, hc, List.getD_eq_getElem?_getD, h2]
def natOf (w : World) : Value → Nat
  | .slice a n _ => valB 1000000000 (readN w a n)
  | _ => 0
theorem ordN_ge {a b : Nat} : 0 ≤ ordN a b ↔ b ≤ a := by
  unfold ordN
  by_cases h : a < b
  · rw [if_pos h]; omega
  · rw [if_neg h]
    by_cases k : b < a
    · rw [if_pos k]; omega
    · rw [if_neg k]; omega
def NewC (x : Nat) (w : World) (e : Ending) (w' : World) : Prop := ∃ a c, e = .returned (.slice a (toB 1000000000 x).length c) ∧ CellsN .u64 w' a (toB 1000000000 x) ∧ Ext w w'
theorem OwnNPost.newC {x : Nat} {w : World} {e : Ending} {w' : World} (h : OwnNPost .u64 161 (toB 1000000000 x) w e w') : NewC x w e w' := by
  obtain ⟨v, h1, h2, _, h4⟩ := h
  obtain ⟨a, c, rfl, h5, _⟩ := h2.reads
  exact ⟨a, c, h1, h5, h4⟩
theorem natOf_eq {w : World} {a : Option Addr} {x c : Nat} (h : CellsN .u64 w a (toB 1000000000 x)) : natOf w (.slice a (toB 1000000000 x).length c) = x := by
  unfold natOf
  simp only
  rw [readN_eq h, valB_toB (by omega)]
theorem len_pos {x : Nat} (h : x ≠ 0) : 0 < (toB 1000000000 x).length := by rw [toB_pos (by omega) h]; simp
theorem len_zero {x : Nat} (h : x = 0) : (toB 1000000000 x).length = 0 := by rw [h, toB_zero]; rfl
theorem len_le {x : Nat} (h : x < 1000000000 ^ 101) : (toB 1000000000 x).length ≤ 101 := toB_len (by omega) 101 h
theorem lt_of_len {l : List Nat} {x : Nat} (h : l = toB 1000000000 x) (hl : l.length ≤ 100) : x < 1000000000 ^ 100 := by
  have h1 := valB_lt (okB_toB (B := 1000000000) (by omega) x)
  rw [valB_toB (by omega), ← h] at h1
  exact Nat.lt_of_lt_of_le h1 (Nat.pow_le_pow_right (by omega) hl)
theorem pow_le_two {a b c : Nat} (h : 1000000000 ≤ 2 ^ b) (k : b * a ≤ c) : 1000000000 ^ a ≤ 2 ^ c := by
  have h1 := Nat.pow_le_pow_left h a
  rw [← Nat.pow_mul] at h1
  exact Nat.le_trans h1 (Nat.pow_le_pow_right (by omega) k)
theorem GcdI.t_lt_of {x y a b t N k : Nat} (h : GcdI x y a b t) (hxy : x + y < 1000000000 ^ k) (hN : 30 * k ≤ N) : t < N := by
  have h1 : 2 ^ t ≤ (a + b) * 2 ^ t := Nat.le_mul_of_pos_left _ h.pos
  have h2 : 2 ^ t < 1000000000 ^ k := Nat.lt_of_le_of_lt (Nat.le_trans h1 h.le) hxy
  have h3 : 1000000000 ^ k ≤ 2 ^ N := pow_le_two (b := 30) (by omega) hN
  exact (Nat.pow_lt_pow_iff_right (by omega)).1 (Nat.lt_of_lt_of_le h2 h3)
theorem GcdI.t_lt {x y a b t : Nat} (h : GcdI x y a b t) (hxy : x + y < 1000000000 ^ 101) : t < 5000 := h.t_lt_of hxy (by omega)
theorem GcdI.ab_le {x y a b t : Nat} (h : GcdI x y a b t) : a + b ≤ x + y := Nat.le_trans (Nat.le_mul_of_pos_right _ (Nat.pow_pos (by omega))) h.le
structure DivW (x y : Nat) (w0 : World) (va vb : Value) (a b t : Nat) (w : World) : Prop where
  g : GcdI x y a b t
  a : ∃ pa pc, va = .slice pa (toB 1000000000 a).length pc ∧ CellsN .u64 w pa (toB 1000000000 a)
  b : ∃ qa qc, vb = .slice qa (toB 1000000000 b).length qc ∧ CellsN .u64 w qa (toB 1000000000 b)
  e : Ext w0 w
set_option maxHeartbeats 8000000 in
set_option maxRecDepth 100000 in
theorem divisor_any (x y : Nat) (la lb : List Nat) (a b : Option Addr) (ca cb : Nat) (w : World) (hx : la = toB 1000000000 x) (hy : lb = toB 1000000000 y) (hxy : 0 < x + y)
    (hla : la.length ≤ 100) (hlb : lb.length ≤ 100) (ha : CellsN .u64 w a la) (hb : CellsN .u64 w b lb) :
    Calls Tryz.prog 132 #[.slice a la.length ca, .slice b lb.length cb] w (OwnNPost .u64 161 (toB 1000000000 (Nat.gcd x y)) w) := by
  have hxl := lt_of_len hx hla
  have hyl := lt_of_len hy hlb
  have hxyB : x + y < 1000000000 ^ 101 := by
    have : (1000000000 : Nat) ^ 101 = 1000000000 * 1000000000 ^ 100 := by rw [Nat.pow_succ, Nat.mul_comm]
    omega
  subst hx hy
  have HXY := Lib.hid hxyB
  have W0 : Hid (DivW x y w (.slice a (toB 1000000000 x).length ca) (.slice b (toB 1000000000 y).length cb) x y 0 w) := ⟨GcdI.start hxy, ⟨_, _, rfl, ha⟩, ⟨_, _, rfl, hb⟩, Ext.refl _⟩
  clear hxl hyl hxyB ha hb hxy
  generalize Value.slice a (toB 1000000000 x).length ca = va0 at W0 ⊢
  generalize Value.slice b (toB 1000000000 y).length cb = vb0 at W0 ⊢
  clear hla hlb
  go_enter Tryz.func132, Tryz.ntmps132
  go_wp2
  go_loopw [0, 1, 5] (fun va vb tw wr => ∃ (p q t : Nat), tw = .int .i64 (t : Int) ∧ Hid (DivW x y w va vb p q t wr)) (fun va vb _ wr => natOf wr va + natOf wr vb)
  case atStart => exact ⟨x, y, 0, rfl, W0.out⟩
  case round =>
    obtain ⟨p, q, t, rfl, HW⟩ := hrel
    obtain ⟨hg, ⟨pa, pc, rfl, hpc⟩, ⟨qa, qc, rfl, hqc⟩, he⟩ := HW.out
    have hpq := hg.ab_le
    have hxb := HXY.out
    have hpl := len_le (x := p) (by omega)
    have hql := len_le (x := q) (by omega)
    have ht := hg.t_lt hxb
    have HM : Hid (natOf wr (.slice pa (toB 1000000000 p).length pc) + natOf wr (.slice qa (toB 1000000000 q).length qc) = p + q) := by
      show _ = _
      rw [natOf_eq hpc, natOf_eq hqc]
    have HG := Lib.hid hg
    have HP := Lib.hid hpc
    have HQ := Lib.hid hqc
    have HE := Lib.hid he
    clear hpc hqc hxb hpq W0 HW
    by_cases h0 : p = 0 ∨ q = 0
    · have HD : Hid (2 ^ t * (p + q) = Nat.gcd x y) := hg.done h0
      have HLE : Hid (∀ k, k ≤ t → (toB 1000000000 (2 ^ k * (p + q))).length ≤ 101) := fun k hk => len_le (by
        have h1 : 2 ^ k * (p + q) ≤ 2 ^ t * (p + q) := Nat.mul_le_mul_right _ (Nat.pow_le_pow_right (by omega) hk)
        have h2 := hg.le
        rw [Nat.mul_comm] at h2
        have := HXY.out
        omega)
      have H0 : Hid (2 ^ 0 * (p + q) = p + q) := by show _ = _; simp
      have hlen : (toB 1000000000 p).length = 0 ∨ (0 < (toB 1000000000 p).length ∧ (toB 1000000000 q).length = 0) := by
        rcases h0 with h | h
        · exact .inl (len_zero h)
        · by_cases hp : p = 0
          · exact .inl (len_zero hp)
          · exact .inr ⟨len_pos hp, len_zero h⟩
      have HPL := Lib.hid (show ∀ W, Ext wr W → _ from fun W hW => plus_any p q _ _ pa qa pc qc W rfl rfl (by omega) (by omega) (HP.out.ext hW) (HQ.out.ext hW))
      generalize (toB 1000000000 p).length = lp at *
      generalize (toB 1000000000 q).length = lq at *
      have HZ : Hid (∀ v W, OwnsN .u64 161 W v (toB 1000000000 (p + q)) → OwnsN .u64 161 W v (toB 1000000000 (2 ^ 0 * (p + q)))) := fun v W h => by rw [H0.out]; exact h
      have HS : Hid (∀ k, 2 ^ k * (p + q) + 2 ^ k * (p + q) = 2 ^ (k + 1) * (p + q)) := fun k => two_pow_step k _
      generalize p + q = g at *
      clear h0 hg HM HG HP HQ H0
      rcases hlen with h | ⟨h1, h2⟩
      · subst h
        go_wp2_with fail
        refine (HPL.out _ extA).mono ?_
        rintro e w1 ⟨ov, rfl, O1, N1, E1⟩
        have HO1 := Lib.hid (HZ.out _ _ O1)
        have HN1 : Hid (∀ b, ov.ownBlock = some b → w.heap.size ≤ b) := fun b hb => Nat.le_trans he.size (N1 b hb)
        have F1 := he.trans E1
        clear O1 N1 E1 HPL HZ he
        go_wp2
        go_loopw [6, 53] (fun v i wl => ∃ (k : Nat) (vv : Value), v = vv ∧ i = .int .i64 (k : Int) ∧ k ≤ t ∧ Hid (OwnsN .u64 161 wl vv (toB 1000000000 (2 ^ k * g))) ∧ Hid (∀ b, vv.ownBlock = some b → w.heap.size ≤ b) ∧ Ext w wl) (fun _ i _ => t - (intOf i).toNat)
        case atStart => exact ⟨0, _, rfl, rfl, Nat.zero_le _, HO1.out, HN1.out, F1⟩
        case round =>
          obtain ⟨k, vv, hvv, rfl, hk, HO, HN, he⟩ := hrel
          obtain rfl := hvv.symm
          obtain ⟨oa, oc, rfl, hoc, _, _⟩ := HO.out.reads
          have HOC := Lib.hid hoc
          have hl := HLE.out k hk
          clear hoc HO1 HN1 F1
          by_cases hkt : k < t
          · have hki : (k : Int) < (t : Int) := by omega
            have HPP := Lib.hid (plus_any (2 ^ k * g) (2 ^ k * g) _ _ oa oa oc oc wr rfl rfl (by omega) (by omega) HOC.out HOC.out)
            rw [HS.out] at HPP
            generalize (toB 1000000000 (2 ^ k * g)).length = lk at *
            clear HO HOC hl
            go_wp2_with fail
            refine HPP.out.mono ?_
            rintro e w5 ⟨v5, rfl, O5, N5, E5⟩
            have HO5 := Lib.hid O5
            have HN5 : Hid (∀ b, v5.ownBlock = some b → w.heap.size ≤ b) := fun b hb => Nat.le_trans he.size (N5 b hb)
            have F5 := he.trans E5
            clear O5 N5 E5 HPP HN he
            go_wp2
            refine ⟨⟨k + 1, v5, rfl, by go_num, by omega, HO5, HN5, F5⟩, by simp [intOf]; omega⟩
          · have hke : k = t := by omega
            have hki : ¬ (k : Int) < (t : Int) := by omega
            have HF : Hid (OwnsN .u64 161 wr (.slice oa (toB 1000000000 (2 ^ k * g)).length oc) (toB 1000000000 (Nat.gcd x y))) := by
              show OwnsN _ _ _ _ _
              have h1 := HO.out
              have h2 := HD.out
              rw [← hke] at h2
              rw [← h2]
              exact h1
            generalize (toB 1000000000 (2 ^ k * g)).length = lk at *
            clear HO HOC hl hke
            go_wp2
            go_ret
            exact ⟨_, rfl, HF.out, HN.out, he⟩
      · subst h2
        have h3 : (0 : Int) < (lp : Int) := by omega
        go_wp2_with fail
        refine (HPL.out _ extA).mono ?_
        rintro e w1 ⟨ov, rfl, O1, N1, E1⟩
        have HO1 := Lib.hid (HZ.out _ _ O1)
        have HN1 : Hid (∀ b, ov.ownBlock = some b → w.heap.size ≤ b) := fun b hb => Nat.le_trans he.size (N1 b hb)
        have F1 := he.trans E1
        clear O1 N1 E1 HPL HZ he
        go_wp2
        go_loopw [6, 53] (fun v i wl => ∃ (k : Nat) (vv : Value), v = vv ∧ i = .int .i64 (k : Int) ∧ k ≤ t ∧ Hid (OwnsN .u64 161 wl vv (toB 1000000000 (2 ^ k * g))) ∧ Hid (∀ b, vv.ownBlock = some b → w.heap.size ≤ b) ∧ Ext w wl) (fun _ i _ => t - (intOf i).toNat)
        case atStart => exact ⟨0, _, rfl, rfl, Nat.zero_le _, HO1.out, HN1.out, F1⟩
        case round =>
          obtain ⟨k, vv, hvv, rfl, hk, HO, HN, he⟩ := hrel
          obtain rfl := hvv.symm
          obtain ⟨oa, oc, rfl, hoc, _, _⟩ := HO.out.reads
          have HOC := Lib.hid hoc
          have hl := HLE.out k hk
          clear hoc HO1 HN1 F1
          by_cases hkt : k < t
          · have hki : (k : Int) < (t : Int) := by omega
            have HPP := Lib.hid (plus_any (2 ^ k * g) (2 ^ k * g) _ _ oa oa oc oc wr rfl rfl (by omega) (by omega) HOC.out HOC.out)
            rw [HS.out] at HPP
            generalize (toB 1000000000 (2 ^ k * g)).length = lk at *
            clear HO HOC hl
            go_wp2_with fail
            refine HPP.out.mono ?_
            rintro e w5 ⟨v5, rfl, O5, N5, E5⟩
            have HO5 := Lib.hid O5
            have HN5 : Hid (∀ b, v5.ownBlock = some b → w.heap.size ≤ b) := fun b hb => Nat.le_trans he.size (N5 b hb)
            have F5 := he.trans E5
            clear O5 N5 E5 HPP HN he
            go_wp2
            refine ⟨⟨k + 1, v5, rfl, by go_num, by omega, HO5, HN5, F5⟩, by simp [intOf]; omega⟩
          · have hke : k = t := by omega
            have hki : ¬ (k : Int) < (t : Int) := by omega
            have HF : Hid (OwnsN .u64 161 wr (.slice oa (toB 1000000000 (2 ^ k * g)).length oc) (toB 1000000000 (Nat.gcd x y))) := by
              show OwnsN _ _ _ _ _
              have h1 := HO.out
              have h2 := HD.out
              rw [← hke] at h2
              rw [← h2]
              exact h1
            generalize (toB 1000000000 (2 ^ k * g)).length = lk at *
            clear HO HOC hl hke
            go_wp2
            go_ret
            exact ⟨_, rfl, HF.out, HN.out, he⟩
    · have hp0 : p ≠ 0 := fun e => h0 (.inl e)
      have hq0 : q ≠ 0 := fun e => h0 (.inr e)
      have lp := len_pos hp0
      have lq := len_pos hq0
      have lpi : (0 : Int) < ((toB 1000000000 p).length : Int) := by omega
      have lqi : (0 : Int) < ((toB 1000000000 q).length : Int) := by omega
      obtain ⟨fp, hfp⟩ : ∃ f, f = decide (p % 2 = 0) := ⟨_, rfl⟩
      obtain ⟨fq, hfq⟩ : ∃ f, f = decide (q % 2 = 0) := ⟨_, rfl⟩
      have HEp : Hid (∀ W, Ext wr W → Calls Tryz.prog 166 #[.slice pa (toB 1000000000 p).length pc] W fun e w' => e = .returned (.bool fp) ∧ Ext W w') := fun W hW => by
        rw [hfp]; exact even_any p _ pa pc W rfl (HP.out.ext hW) (by omega)
      have HEq : Hid (∀ W, Ext wr W → Calls Tryz.prog 166 #[.slice qa (toB 1000000000 q).length qc] W fun e w' => e = .returned (.bool fq) ∧ Ext W w') := fun W hW => by
        rw [hfq]; exact even_any q _ qa qc W rfl (HQ.out.ext hW) (by omega)
      have HHp : Hid (∀ W, Ext wr W → Calls Tryz.prog 167 #[.slice pa (toB 1000000000 p).length pc] W (NewC (p / 2) W)) := fun W hW =>
        (half_any p _ pa pc W rfl (by omega) lp (HP.out.ext hW)).mono fun _ _ h => h.newC
      have HHq : Hid (∀ W, Ext wr W → Calls Tryz.prog 167 #[.slice qa (toB 1000000000 q).length qc] W (NewC (q / 2) W)) := fun W hW =>
        (half_any q _ qa qc W rfl (by omega) lq (HQ.out.ext hW)).mono fun _ _ h => h.newC
      clear h0
      cases fp
      · have hpo : p % 2 ≠ 0 := fun e => by rw [e] at hfp; simp at hfp
        cases fq
        · have hqo : q % 2 ≠ 0 := fun e => by rw [e] at hfq; simp at hfq
          clear hfp hfq
          by_cases hle : q ≤ p
          · obtain ⟨z, hz, hz0⟩ : ∃ z, ordN p q = z ∧ 0 ≤ z := ⟨_, rfl, ordN_ge.2 hle⟩
            have HCC : Hid (∀ W, Ext wr W → Calls Tryz.prog 131 #[.slice pa (toB 1000000000 p).length pc, .slice qa (toB 1000000000 q).length qc] W fun e w' => e = .returned (.int .i64 z) ∧ Ext W w') := fun W hW => by
              rw [← hz]; exact compare_any p q _ _ pa qa pc qc W rfl rfl (by omega) (by omega) (HP.out.ext hW) (HQ.out.ext hW)
            have HMM : Hid (∀ W, Ext wr W → Calls Tryz.prog 152 #[.slice pa (toB 1000000000 p).length pc, .slice qa (toB 1000000000 q).length qc] W (NewC (p - q) W)) := fun W hW =>
              (minus_any p q _ _ pa qa pc qc W rfl rfl hle (by omega) (HP.out.ext hW) (HQ.out.ext hW)).mono fun _ _ h => h.newC
            have HG2 := Lib.hid (hg.less (by omega) hle)
            have hms : p - q + q < p + q := by omega
            clear hz hg hle hpo hqo he
            go_wp2_with (first
          | (go_at_call 166; (with_reducible refine (HEp.out _ extA).mono ?_); rintro e w' ⟨rfl, hE⟩)
          | (go_at_call 166; (with_reducible refine (HEq.out _ extA).mono ?_); rintro e w' ⟨rfl, hE⟩)
          | (go_at_call 167; (with_reducible refine (HHp.out _ extA).mono ?_); rintro e w' ⟨na, nc, rfl, hCp, hE⟩)
          | (go_at_call 167; (with_reducible refine (HHq.out _ extA).mono ?_); rintro e w' ⟨ma, mc, rfl, hCq, hE⟩)
          | (go_at_call 131; (with_reducible refine (HCC.out _ extA).mono ?_); rintro e w' ⟨rfl, hE⟩)
          | (go_at_call 152; (with_reducible refine (HMM.out _ extA).mono ?_); rintro e w' ⟨na, nc, rfl, hCp, hE⟩))
            have hEE : Ext wr w' := extA
            have hQ2 := HQ.out.ext hEE
            refine ⟨⟨_, _, _, rfl, HG2.out, ⟨_, _, rfl, hCp⟩, ⟨_, _, rfl, hQ2⟩, HE.out.trans hEE⟩, ?_⟩
            show natOf w' _ + natOf w' _ < natOf wr _ + natOf wr _
            rw [HM.out, natOf_eq hCp, natOf_eq hQ2]
            exact hms
          · have hlt : p ≤ q := by omega
            obtain ⟨z, hz, hz0⟩ : ∃ z, ordN p q = z ∧ ¬ 0 ≤ z := ⟨_, rfl, fun h => hle (ordN_ge.1 h)⟩
            have HCC : Hid (∀ W, Ext wr W → Calls Tryz.prog 131 #[.slice pa (toB 1000000000 p).length pc, .slice qa (toB 1000000000 q).length qc] W fun e w' => e = .returned (.int .i64 z) ∧ Ext W w') := fun W hW => by
              rw [← hz]; exact compare_any p q _ _ pa qa pc qc W rfl rfl (by omega) (by omega) (HP.out.ext hW) (HQ.out.ext hW)
            have HMM : Hid (∀ W, Ext wr W → Calls Tryz.prog 152 #[.slice qa (toB 1000000000 q).length qc, .slice pa (toB 1000000000 p).length pc] W (NewC (q - p) W)) := fun W hW =>
              (minus_any q p _ _ qa pa qc pc W rfl rfl hlt (by omega) (HQ.out.ext hW) (HP.out.ext hW)).mono fun _ _ h => h.newC
            have HG2 := Lib.hid (hg.less' (by omega) hlt)
            have hms : p + (q - p) < p + q := by omega
            clear hz hg hle hpo hqo he hlt
            go_wp2_with (first
          | (go_at_call 166; (with_reducible refine (HEp.out _ extA).mono ?_); rintro e w' ⟨rfl, hE⟩)
          | (go_at_call 166; (with_reducible refine (HEq.out _ extA).mono ?_); rintro e w' ⟨rfl, hE⟩)
          | (go_at_call 167; (with_reducible refine (HHp.out _ extA).mono ?_); rintro e w' ⟨na, nc, rfl, hCp, hE⟩)
          | (go_at_call 167; (with_reducible refine (HHq.out _ extA).mono ?_); rintro e w' ⟨ma, mc, rfl, hCq, hE⟩)
          | (go_at_call 131; (with_reducible refine (HCC.out _ extA).mono ?_); rintro e w' ⟨rfl, hE⟩)
          | (go_at_call 152; (with_reducible refine (HMM.out _ extA).mono ?_); rintro e w' ⟨na, nc, rfl, hCp, hE⟩))
            have hEE : Ext wr w' := extA
            have hP2 := HP.out.ext hEE
            have hQ2 := hCp
            refine ⟨⟨_, _, _, by go_num, HG2.out, ⟨_, _, rfl, hP2⟩, ⟨_, _, rfl, hQ2⟩, HE.out.trans hEE⟩, ?_⟩
            show natOf w' _ + natOf w' _ < natOf wr _ + natOf wr _
            rw [HM.out, natOf_eq hP2, natOf_eq hQ2]
            exact hms
        · have hqe : q % 2 = 0 := of_decide_eq_true hfq.symm
          have HG2 := Lib.hid (hg.right (by omega) hpo hqe)
          have hms : p + q / 2 < p + q := by omega
          have HCC : Hid True := trivial
          have HMM : Hid True := trivial
          clear hg he hfp hfq hpo hqe
          go_wp2_with (first
          | (go_at_call 166; (with_reducible refine (HEp.out _ extA).mono ?_); rintro e w' ⟨rfl, hE⟩)
          | (go_at_call 166; (with_reducible refine (HEq.out _ extA).mono ?_); rintro e w' ⟨rfl, hE⟩)
          | (go_at_call 167; (with_reducible refine (HHp.out _ extA).mono ?_); rintro e w' ⟨na, nc, rfl, hCp, hE⟩)
          | (go_at_call 167; (with_reducible refine (HHq.out _ extA).mono ?_); rintro e w' ⟨ma, mc, rfl, hCq, hE⟩)
          | (go_at_call 131; (with_reducible refine (HCC.out _ extA).mono ?_); rintro e w' ⟨rfl, hE⟩)
          | (go_at_call 152; (with_reducible refine (HMM.out _ extA).mono ?_); rintro e w' ⟨na, nc, rfl, hCp, hE⟩))
          have hEE : Ext wr w' := extA
          have hP2 := HP.out.ext hEE
          have hQ2 := hCq
          refine ⟨⟨_, _, _, by go_num, HG2.out, ⟨_, _, rfl, hP2⟩, ⟨_, _, rfl, hQ2⟩, HE.out.trans hEE⟩, ?_⟩
          show natOf w' _ + natOf w' _ < natOf wr _ + natOf wr _
          rw [HM.out, natOf_eq hP2, natOf_eq hQ2]
          exact hms
      · have hpe : p % 2 = 0 := of_decide_eq_true hfp.symm
        cases fq
        · have hqo : q % 2 ≠ 0 := fun e => by rw [e] at hfq; simp at hfq
          have HG2 := Lib.hid (hg.left (by omega) hpe hqo)
          have hms : p / 2 + q < p + q := by omega
          have HCC : Hid True := trivial
          have HMM : Hid True := trivial
          clear hg he hfp hfq hpe hqo
          go_wp2_with (first
          | (go_at_call 166; (with_reducible refine (HEp.out _ extA).mono ?_); rintro e w' ⟨rfl, hE⟩)
          | (go_at_call 166; (with_reducible refine (HEq.out _ extA).mono ?_); rintro e w' ⟨rfl, hE⟩)
          | (go_at_call 167; (with_reducible refine (HHp.out _ extA).mono ?_); rintro e w' ⟨na, nc, rfl, hCp, hE⟩)
          | (go_at_call 167; (with_reducible refine (HHq.out _ extA).mono ?_); rintro e w' ⟨ma, mc, rfl, hCq, hE⟩)
          | (go_at_call 131; (with_reducible refine (HCC.out _ extA).mono ?_); rintro e w' ⟨rfl, hE⟩)
          | (go_at_call 152; (with_reducible refine (HMM.out _ extA).mono ?_); rintro e w' ⟨na, nc, rfl, hCp, hE⟩))
          have hEE : Ext wr w' := extA
          have hP2 := hCp
          have hQ2 := HQ.out.ext hEE
          refine ⟨⟨_, _, _, by go_num, HG2.out, ⟨_, _, rfl, hP2⟩, ⟨_, _, rfl, hQ2⟩, HE.out.trans hEE⟩, ?_⟩
          show natOf w' _ + natOf w' _ < natOf wr _ + natOf wr _
          rw [HM.out, natOf_eq hP2, natOf_eq hQ2]
          exact hms
        · have hqe : q % 2 = 0 := of_decide_eq_true hfq.symm
          have HG2 := Lib.hid (hg.both (by omega) hpe hqe)
          have hms : p / 2 + q / 2 < p + q := by omega
          have HCC : Hid True := trivial
          have HMM : Hid True := trivial
          clear hg he hfp hfq hpe hqe
          go_wp2_with (first
          | (go_at_call 166; (with_reducible refine (HEp.out _ extA).mono ?_); rintro e w' ⟨rfl, hE⟩)
          | (go_at_call 166; (with_reducible refine (HEq.out _ extA).mono ?_); rintro e w' ⟨rfl, hE⟩)
          | (go_at_call 167; (with_reducible refine (HHp.out _ extA).mono ?_); rintro e w' ⟨na, nc, rfl, hCp, hE⟩)
          | (go_at_call 167; (with_reducible refine (HHq.out _ extA).mono ?_); rintro e w' ⟨ma, mc, rfl, hCq, hE⟩)
          | (go_at_call 131; (with_reducible refine (HCC.out _ extA).mono ?_); rintro e w' ⟨rfl, hE⟩)
          | (go_at_call 152; (with_reducible refine (HMM.out _ extA).mono ?_); rintro e w' ⟨na, nc, rfl, hCp, hE⟩))
          have hEE : Ext wr w' := extA
          have hP2 := hCp.ext hE
          have hQ2 := hCq
          refine ⟨⟨_, _, _, by go_num, HG2.out, ⟨_, _, rfl, hP2⟩, ⟨_, _, rfl, hQ2⟩, HE.out.trans hEE⟩, ?_⟩
          show natOf w' _ + natOf w' _ < natOf wr _ + natOf wr _
          rw [HM.out, natOf_eq hP2, natOf_eq hQ2]
          exact hms
end Go.Proofs.YtdejgaiocjfhjaaGreatDoor
namespace Go.Proofs.YtdejgaiocjfhjaaGreatDoor
open Go.RowKit
theorem src_none {P : Program} {w : World} {size : Nat} {tx e' : TypeId} (hk : P.underlying tx = some (.slice e')) (a : Option Addr) (c : Nat) : Src P size tx (.slice a 0 c) 0 [] w := by
  cases a with
  | none => exact Src.ofNil w hk c
  | some a => exact Src.ofSlice w hk a 0 c [] (by simp) (fun j u h => by simp at h) (fun u h => by cases h)
theorem wpList_appendN (n0 : Nat) (w : World) {ops : Array Oper} {rest : List Oper} {o : Oper} {a : Act} {Q : Exit → Act → World → Prop} (hgd : o.guard = none) (s x : Operand)
    (ho : o.op = .call { callee := .builtin .append, args := #[s, x], argTypes := #[128, 128] })
    (b c : Nat) (l m : List Nat) (hs : a.eval s = .slice (some ⟨b, 0, none⟩) l.length c) (hown : OwnsN .i64 3 w (.slice (some ⟨b, 0, none⟩) l.length c) l) (u : Value) (hx : a.eval x = u) (hu : SliceN .i64 w u m)
    (hn : n0 ≤ w.heap.size) (hb : n0 ≤ b) (hlen : l.length + m.length ≤ 10000)
    (h : ∀ v' w', OwnsN .i64 3 w' v' (l ++ m) → Below n0 w w' → (∀ g, v'.ownBlock = some g → n0 ≤ g) → wpList Tryz.prog ops Q rest (a.put o.dst v') w') : wpList Tryz.prog ops Q (o :: rest) a w := by
  obtain ⟨i0, hi, hi0, hi1, hi2⟩ := info_parts infoI64
  obtain ⟨ua, uc, rfl, hc, hr⟩ := hu
  rcases m with _ | ⟨y, m⟩
  · have hroom : l.length ≤ c := by
      obtain ⟨_, _, e, _, hR, _⟩ := hown.reads
      obtain ⟨_, _, e3⟩ := Value.slice.inj e
      subst e3
      exact hR.1
    refine wpList_append_room1 w hgd s x 128 128 ho 3 (.int .i64 0) 8 Tryz.underlying128 infoI64 b 0 l.length c hs _ hx 0 [] (src_none Tryz.underlying128 _ _) hroom (fun j hj => by simp at hj) (fun j hj => by simp at hj) ?_
    refine h _ _ ?_ (Below.refl _ _) (fun g hg => by cases hg; exact hb)
    rw [List.append_nil]
    exact hown
  · obtain ⟨g, off, rfl⟩ := hr.2.2 (by simp)
    refine wpList_append1 w hgd s x 128 ho 3 i0 (.int .i64 0) 1 8 Tryz.underlying128 hi hi0 hi1 hi2 rfl (by decide) _ l.length (natsV .i64 l) hs hown ⟨g, off, none⟩ (y :: m).length uc (by simp) (natsV .i64 (y :: m)) hx (by rw [natsV_len, Nat.mul_one]) ?_ ?_ (by unfold maxLen; omega) (by omega) ?_
    · intro j v hj
      have hjl : j < (y :: m).length := by rw [← natsV_len .i64]; exact (List.getElem?_eq_some_iff.1 hj).1
      rw [natsV_get hjl] at hj
      obtain ⟨b', o', e, h1⟩ := hc j hjl
      cases e
      rw [Addr.add_lit]
      exact h1.trans hj
    · intro v hv
      unfold natsV at hv
      simp only [List.mem_map] at hv
      obtain ⟨z, _, rfl⟩ := hv
      rfl
    · intro v' w' h1 h2
      refine h v' w' ?_ (h2.below hn (fun k hk => by cases hk; exact hb)) (h2.ge hn (fun k hk => by cases hk; exact hb))
      unfold OwnsN
      rw [List.length_append]
      unfold natsV at h1 ⊢
      rw [List.map_append]
      exact h1
theorem owns_one (x : Nat) (w : World) : OwnsN .i64 3 (w.alloc (.cells #[.int .i64 (x : Int)] 3)) (.slice (some ⟨w.heap.size, 0, none⟩) [x].length 1) [x] :=
  ownsN_of (l := [x]) (cur := #[.int .i64 (x : Int)]) (by show (w.heap.push _)[w.heap.size]? = _; exact Array.getElem?_push_size) (Nat.le_refl _) (by unfold maxLen; omega) rfl (fun j hj => by
    have hj0 : j = 0 := by simpa using hj
    subst hj0; rfl)
theorem cells_one' (x : Nat) (w : World) : CellsN .i64 (w.alloc (.cells #[.int .i64 (x : Int)] 3)) (some ⟨w.heap.size, 0, none⟩) [x] := by
  obtain ⟨a, cap, e, h, _⟩ := (owns_one x w).reads
  cases e
  exact h
theorem OwnsN.cells {k : IntKind} {t : TypeId} {w : World} {a : Option Addr} {n c : Nat} {l : List Nat} (h : OwnsN k t w (.slice a n c) l) : CellsN k w a l := by
  obtain ⟨a', c', e, h1, _⟩ := h.reads
  cases e
  exact h1
theorem ordN_neg {a b : Nat} : ordN a b < 0 ↔ a < b := by have := ordN_ge (a := a) (b := b); omega
structure QuoI (B : Nat) (a : List Nat) (m i r : Nat) (q : List Nat) : Prop where
  ov : OverI B a m i r q
  zr : ∀ j, j < i → q.getD j 0 = 0
theorem QuoI.start {B : Nat} (hB : 2 ≤ B) (a : List Nat) {m : Nat} (hm : 0 < m) : QuoI B a m a.length 0 (List.replicate a.length 0) :=
  ⟨OverI.start hB a hm, fun j hj => by rw [List.getD_eq_getElem?_getD, List.getElem?_replicate]; split <;> rfl⟩
theorem QuoI.skip {B : Nat} (hB : 2 ≤ B) {a : List Nat} (ha : OkB B a) {m i r : Nat} {q : List Nat} (h : QuoI B a m (i + 1) r q) (hi : i < a.length) (hs : a.getD i 0 + B * r < m) : QuoI B a m i (a.getD i 0 + B * r) q := by
  obtain ⟨_, h2⟩ := h.ov.next hB ha hi
  rw [Nat.mod_eq_of_lt hs, Nat.div_eq_of_lt hs] at h2
  have e : q.set i 0 = q := by
    apply List.ext_getElem?
    intro j
    rw [List.getElem?_set]
    by_cases hj : i = j
    · subst hj
      have hl : i < q.length := by rw [h.ov.len]; exact hi
      have hz := h.zr i (by omega)
      rw [List.getD_eq_getElem?_getD, List.getElem?_eq_getElem hl] at hz
      rw [if_pos rfl, if_pos hl, List.getElem?_eq_getElem hl]
      exact congrArg some hz.symm
    · rw [if_neg hj]
  rw [e] at h2
  exact ⟨h2, fun j hj => h.zr j (by omega)⟩
theorem QuoI.step {B : Nat} (hB : 2 ≤ B) {a : List Nat} (ha : OkB B a) {m i r x : Nat} {q : List Nat} (h : QuoI B a m (i + 1) r q) (hi : i < a.length)
    (h1 : m * x ≤ a.getD i 0 + B * r) (h2 : a.getD i 0 + B * r < m * (x + 1)) : QuoI B a m i (a.getD i 0 + B * r - m * x) (q.set i x) := by
  obtain ⟨_, h3⟩ := h.ov.next hB ha hi
  have e1 : (a.getD i 0 + B * r) / m = x := by
    refine Nat.div_eq_of_lt_le ?_ ?_
    · rw [Nat.mul_comm x m]; exact h1
    · rw [Nat.mul_comm (x + 1) m]; exact h2
  have e2 : (a.getD i 0 + B * r) % m = a.getD i 0 + B * r - m * x := by
    have e := Nat.div_add_mod (a.getD i 0 + B * r) m
    rw [e1] at e
    omega
  rw [e1, e2] at h3
  refine ⟨h3, fun j hj => ?_⟩
  rw [List.getD_eq_getElem?_getD, List.getElem?_set, if_neg (by omega), ← List.getD_eq_getElem?_getD]
  exact h.zr j (by omega)
theorem quo_row {B : Nat} (hB : 2 ≤ B) {x r : Nat} (hx : x < B) : trimL (x :: toB B r) = toB B (x + B * r) := by
  rw [trimL_toB hB (fun z hz => by
    rcases List.mem_cons.1 hz with rfl | hz
    · exact hx
    · exact okB_toB hB r z hz)]
  show toB B (x + B * valB B (toB B r)) = _
  rw [valB_toB hB]
theorem toB_mono {B : Nat} (hB : 2 ≤ B) {x y : Nat} (h : x ≤ y) : (toB B x).length ≤ (toB B y).length :=
  valB_le_len (okB_toB hB y) (trim_toB hB x) (by rw [valB_toB hB, valB_toB hB]; exact h) (by omega)
theorem toB_mul_len {B : Nat} (hB : 2 ≤ B) (y : Nat) : (toB B (B * y)).length ≤ (toB B y).length + 1 := by
  have h := quo_row hB (x := 0) (r := y) (by omega)
  rw [Nat.zero_add] at h
  rw [← h]
  obtain ⟨k, e, _⟩ := trimL_spec (0 :: toB B y)
  have := congrArg List.length e
  rw [List.length_append, List.length_cons] at this
  omega
end Go.Proofs.YtdejgaiocjfhjaaGreatDoor
namespace Go.Proofs.YtdejgaiocjfhjaaGreatDoor
open Go.RowKit
set_option maxHeartbeats 8000000 in
set_option maxRecDepth 100000 in
theorem quotientR_any (x y : Nat) (la lb : List Nat) (a b : Option Addr) (ca cb : Nat) (w : World) (hx : la = toB 1000000 x) (hy : lb = toB 1000000 y) (hy0 : 0 < y)
    (hla : la.length ≤ 100) (hlb : lb.length ≤ 100) (ha : CellsN .i64 w a la) (hb : CellsN .i64 w b lb) :
    Calls Tryz.prog 139 #[.slice a la.length ca, .slice b lb.length cb] w (OwnNPost2 .i64 3 (toB 1000000 (x / y)) (toB 1000000 (x % y)) w) := by
  have HA := Lib.hid ha
  have HB := Lib.hid hb
  have HX := Lib.hid hx
  have HY := Lib.hid hy
  have OA : Hid (OkB 1000000 la) := by show OkB _ _; rw [hx]; exact okB_toB (by omega) x
  have HYL : Hid (∀ z, z ≤ 1000000 * y → (toB 1000000 z).length ≤ lb.length + 1) := fun z hz => by
    have h1 := toB_mono (B := 1000000) (by omega) hz
    have h2 := toB_mul_len (B := 1000000) (by omega) y
    rw [← hy] at h2
    omega
  clear ha hb hx hy
  obtain ⟨N, hN⟩ : ∃ N, N = la.length := ⟨_, rfl⟩
  have hmk : (Instr.makeSlice 128 (.int .i64 (la.length : Int)) (.int .i64 (la.length : Int))).run Tryz.prog w = .ok (.slice (some ⟨w.heap.size, 0, none⟩) N N) (w.alloc (.cells (madeCells #[.int .i64 0] N) 3)) := by
    rw [← hN]
    exact run_make_row' _ _ (.int .i64 0) 8 Tryz.underlying128 infoI64 rfl _ _ N (by omega) (by omega) w
  have O0 : Hid (OwnsN .i64 3 (w.alloc (.cells (madeCells #[.int .i64 0] N) 3)) (.slice (some ⟨w.heap.size, 0, none⟩) N N) (List.replicate N 0)) := madeN _ _ _ N (by omega)
  have E0 : Ext w (w.alloc (.cells (madeCells #[.int .i64 0] N) 3)) := (Ext.refl _).alloc _
  have Z0 : w.heap.size < (w.alloc (.cells (madeCells #[.int .i64 0] N) 3)).heap.size := by simp
  generalize hW : w.alloc (.cells (madeCells #[.int .i64 0] N) 3) = W at hmk O0 E0 Z0
  clear hW
  obtain ⟨ob, hob⟩ : ∃ ob, ob = w.heap.size := ⟨_, rfl⟩
  rw [← hob] at hmk O0 Z0
  have HNN := Lib.hid hN
  have HOB := Lib.hid hob
  clear hN hob
  go_enter Tryz.func139, Tryz.ntmps139
  go_wp2
  clear hmk
  have HI0 : Hid (QuoI 1000000 la y la.length 0 (List.replicate N 0)) := by show QuoI _ _ _ _ _ _; rw [HNN.out]; exact QuoI.start (by omega) _ hy0
  go_loopw [7, 8] (fun v i wr => ∃ (k : Nat) (vv : Value), k ≤ la.length ∧ i = .int .i64 ((k : Int) - 1) ∧ v = vv ∧ Hid (∃ r q, QuoI 1000000 la y k r q ∧ OwnsN .i64 3 wr (.slice (some ⟨ob, 0, none⟩) N N) q ∧ OwnsN .i64 3 wr vv (toB 1000000 r)) ∧ Hid (∀ b, vv.ownBlock = some b → ob < b) ∧ ob < wr.heap.size ∧ Ext w wr) (fun _ i _ => (intOf i + 1).toNat)
  case atStart => exact ⟨la.length, _, Nat.le_refl _, by go_num, rfl, ⟨0, _, HI0.out, O0.out, by rw [toB_zero]; exact OwnsN.nil _ _ _⟩, (fun b hb => by cases hb), Z0, E0⟩
  case round =>
    obtain ⟨k, vv, hk, rfl, hvv, hw, HN, hobz, he⟩ := hrel
    obtain rfl := hvv.symm
    obtain ⟨r, q, hI, hO, hV⟩ := hw.out
    have HI := Lib.hid hI
    have HO := Lib.hid hO
    have HV := Lib.hid hV
    have hr : r < y := hI.ov.lt
    have HQL := Lib.hid hI.ov.len
    clear hI hO hV hw
    rcases k with _ | k
    · have hdone : Hid (trimL q = toB 1000000 (x / y) ∧ r = x % y) := by
        have h := HI.out.ov.done (by omega)
        rw [HX.out, valB_toB (by omega)] at h
        exact h
      have hNq : N = q.length := by rw [HNN.out, HQL.out]
      have HO2 : Hid (OwnsN .i64 3 wr (.slice (some ⟨ob, 0, none⟩) q.length N) q) := by
        have := HO.out
        show OwnsN _ _ _ _ _
        rw [← hNq]; exact this
      obtain ⟨oa, oc, hov, hoc, hor, _⟩ := HO2.out.reads
      obtain ⟨e1, _, e3⟩ := Value.slice.inj hov
      subst e1 e3
      have HT := Lib.hid (trimR_any q (some ⟨ob, 0, none⟩) N wr hor hoc)
      clear hoc hor hov
      have HNQ := Lib.hid hNq
      clear hNq HQL
      go_wp2_with (go_at_call 140; rw [HNQ.out] at HT ⊢; refine HT.out.mono ?_; rintro e w5 ⟨rfl, hn5, hE5⟩; rw [← HNQ.out])
      have HT5 := Lib.hid ((HO2.out.ext hE5).trim hn5)
      have HV5 := Lib.hid (HV.out.ext hE5)
      have E5 := he.trans hE5
      clear hn5 hE5 HO2 HO HV HT
      go_ret2
      refine ⟨.slice (some ⟨ob, 0, none⟩) (trimL q).length N, vv, rfl, ?_, ?_, ?_, ?_, E5⟩
      · rw [← hdone.out.1]; exact HT5.out
      · rw [← hdone.out.2]; exact HV5.out
      · intro g hg; cases hg; rw [HOB.out]; exact Nat.le_refl _
      · intro g hg; have := HN.out g hg; have := HOB.out; omega
    · obtain ⟨p, hp⟩ : ∃ p, p = la.getD k 0 := ⟨_, rfl⟩
      have hpb : p < 1000000 := by rw [hp]; exact okB_getD OA.out (by omega) k
      obtain ⟨b1, o1, ha1, p1⟩ := HA.out.ext he k (by omega)
      subst ha1
      rw [← hp] at p1
      obtain ⟨s, hs⟩ : ∃ s, s = p + 1000000 * r := ⟨_, rfl⟩
      have hsy : s < 1000000 * y := by omega
      have HSKIP : Hid (s < y → QuoI 1000000 la y k s q) := fun h => by
        have h1 := HI.out.skip (by omega) OA.out (by omega) (by rw [← hp, ← hs]; exact h)
        rw [← hp, ← hs] at h1
        exact h1
      have HSTEP : Hid (∀ z, y * z ≤ s → s < y * (z + 1) → QuoI 1000000 la y k (s - y * z) (q.set k z)) := fun z h1 h2 => by
        have h3 := HI.out.step (by omega) OA.out (by omega) (x := z) (by rw [← hp, ← hs]; exact h1) (by rw [← hp, ← hs]; exact h2)
        rw [← hp, ← hs] at h3
        exact h3
      have HROW : Hid (trimL (p :: toB 1000000 r) = toB 1000000 s) := by show _ = _; rw [hs]; exact quo_row (by omega) hpb
      have hrl : (toB 1000000 r).length ≤ lb.length := by
        have := toB_mono (B := 1000000) (by omega) (Nat.le_of_lt hr)
        rw [← HY.out] at this; exact this
      have hkk : ((k + 1 : Nat) : Int) - 1 = (k : Int) := by omega
      rw [hkk]
      clear hp hs hpb HI
      go_wp2_with (at_builtin; refine wpList_appendN (ob + 1) _ rfl _ _ rfl wr.heap.size 1 [p] (toB 1000000 r) rfl (owns_one p wr) vv rfl (HV.out.slice.ext ((Ext.refl _).alloc _)) (by simp; omega) (by omega) (by simp; omega) ?_)
      all_goals
        intro v5 w5 o5 b5 n5
        obtain ⟨a5, c5, rfl, oc5, or5, _⟩ := o5.reads
        have HT5 := Lib.hid (trimR_any (p :: toB 1000000 r) a5 c5 w5 or5 oc5)
        have H5 := Lib.hid (And.intro o5 (And.intro b5 n5))
        clear o5 b5 n5 oc5 or5
        go_wp2_with (go_at_call 140; refine HT5.out.mono ?_; rintro e w6 ⟨rfl, hn6, hE6⟩; rw [HROW.out])
        have H6 : Hid (OwnsN .i64 3 w6 (.slice a5 (toB 1000000 s).length c5) (toB 1000000 s)) := by
          have h := (H5.out.1.ext hE6).trim hn6
          rw [HROW.out] at h
          exact h
        have HN6 : Hid (∀ b, (Value.slice a5 (toB 1000000 s).length c5).ownBlock = some b → ob < b) := fun b hb => H5.out.2.2 b (by cases a5 <;> exact hb)
        have B6 : Below (ob + 1) wr w6 := ((((Ext.refl _).alloc _).mono (by omega)).trans H5.out.2.1).trans (hE6.mono (by have := H5.out.2.1.size; simp at this; omega))
        have HO6 : Hid (OwnsN .i64 3 w6 (.slice (some ⟨ob, 0, none⟩) N N) q) := HO.out.same (fun g hg => by cases hg; exact Below.block B6 ob (by omega))
        have E6 : Ext w w6 := he.trans' B6 (by rw [HOB.out]; omega)
        have hz6 : ob < w6.heap.size := Nat.lt_of_lt_of_le hobz B6.size
        have hsl : (toB 1000000 s).length ≤ lb.length + 1 := HYL.out s (by omega)
        clear H5 HT5 hn6 hE6 B6 HROW HV HO HN hobz p1 he
        by_cases hc : s < y
        · have hlt : ordN s y < 0 := ordN_neg.2 hc
          go_wp2_with ((go_at_call 102; (with_reducible refine (orderR_any s y (toB 1000000 s) lb a5 b c5 cb w6 rfl HY.out (by omega) (by omega) H6.out.cells (HB.out.ext E6)).mono ?_); rintro e w1 ⟨rfl, hE⟩))
          have HS := Lib.hid (HSKIP.out hc)
          have H7 := Lib.hid (H6.out.ext hE)
          have HO7 := Lib.hid (HO6.out.ext hE)
          have E7 := E6.trans hE
          have hz7 : ob < w1.heap.size := Nat.lt_of_lt_of_le hz6 hE.size
          have hm : ((k : Int) - 1 + 1).toNat < ((k : Int) + 1).toNat := by omega
          clear H6 HO6 E6 hE hz6 HSKIP HSTEP
          go_wp2
          refine ⟨⟨k, _, by omega, by go_num, rfl, ⟨s, q, HS.out, HO7.out, H7.out⟩, HN6, hz7, E7⟩, by simp [intOf]⟩
        · have hlt : ¬ ordN s y < 0 := fun h => hc (ordN_neg.1 h)
          go_wp2_with ((go_at_call 102; (with_reducible refine (orderR_any s y (toB 1000000 s) lb a5 b c5 cb w6 rfl HY.out (by omega) (by omega) H6.out.cells (HB.out.ext E6)).mono ?_); rintro e w1 ⟨rfl, hE⟩))
          obtain ⟨wo, hwo⟩ : ∃ wo, wo = w1 := ⟨w1, rfl⟩
          subst hwo
          have H7 := Lib.hid (H6.out.ext hE)
          have HO7 := Lib.hid (HO6.out.ext hE)
          have E7 := E6.trans hE
          have hz7 : ob < wo.heap.size := Nat.lt_of_lt_of_le hz6 hE.size
          clear H6 HO6 E6 hE hz6 HSKIP hlt
          go_wp2
          go_loopw [9, 10] (fun lo hi wr => ∃ (l h : Nat), l ≤ h ∧ h ≤ 999999 ∧ lo = .int .i64 l ∧ hi = .int .i64 h ∧ Hid (y * l ≤ s ∧ s < y * (h + 1)) ∧ Ext wo wr) (fun lo hi _ => (intOf hi - intOf lo).toNat)
          case atStart => exact ⟨0, 999999, by omega, by omega, rfl, rfl, ⟨by omega, by rw [Nat.mul_comm]; omega⟩, Ext.refl _⟩
          case round =>
            obtain ⟨l, h, hlh, hh, rfl, rfl, hin, he⟩ := hrel
            by_cases hl : l < h
            · obtain ⟨m, hm⟩ : ∃ m, m = (l + h + 1) / 2 := ⟨_, rfl⟩
              have hm1 : l < m := by omega
              have hm2 : m ≤ h := by omega
              have hw1 : IntKind.i64.wrap ((l : Int) + (h : Int)) = (l : Int) + (h : Int) := by rw [IntKind.wrap_i64]; omega
              have hw2 : IntKind.i64.wrap ((l : Int) + (h : Int) + 1) = (l : Int) + (h : Int) + 1 := by rw [IntKind.wrap_i64]; omega
              have ht : ((l : Int) + (h : Int) + 1).tdiv 2 = (m : Int) := by rw [Int.tdiv_eq_ediv_of_nonneg (by omega)]; omega
              have hw3 : IntKind.i64.wrap (m : Int) = (m : Int) := by rw [IntKind.wrap_i64]; omega
              have hw4 : IntKind.i64.wrap ((m : Int) - 1) = (m : Int) - 1 := by rw [IntKind.wrap_i64]; omega
              have HM : Hid ([m] = toB 1000000 m) := (toB_one (by omega) (by omega) (by omega)).symm
              have hym : (toB 1000000 (y * m)).length ≤ lb.length + 1 := HYL.out _ (by rw [Nat.mul_comm]; exact Nat.mul_le_mul_right _ (by omega))
              clear hm
              go_wp2_with (go_at_call 146; refine (timesR_any y m lb [m] b _ cb 1 _ HY.out HM.out (by omega) (by simp) (HB.out.ext (E7.trans (he.alloc _))) (cells_one' m wr)).mono ?_; rintro e w8 ⟨v8, rfl, o8, n8, e8⟩)
              all_goals
                obtain ⟨a8, c8, rfl, oc8, _, _⟩ := o8.reads
                have E8 : Ext wo w8 := (he.alloc _).trans e8
                have OC8 := Lib.hid oc8
                clear o8 n8 e8 oc8
                by_cases hcmp : y * m ≤ s
                · have hz : ordN (y * m) s ≤ 0 := ordN_le.2 hcmp
                  go_wp2_with ((go_at_call 102; (with_reducible refine (orderR_any (y * m) s (toB 1000000 (y * m)) (toB 1000000 s) a8 a5 c8 c5 w8 rfl rfl (by omega) (by omega) OC8.out (H7.out.cells.ext E8)).mono ?_); rintro e w1 ⟨rfl, hE⟩))
                  have E9 := E8.trans hE
                  clear hE OC8 he E8
                  go_wp2
                  refine ⟨⟨m, h, hm2, hh, rfl, rfl, ⟨hcmp, hin.out.2⟩, E9⟩, by simp [intOf]; omega⟩
                · have hz : ¬ ordN (y * m) s ≤ 0 := fun h => hcmp (ordN_le.1 h)
                  go_wp2_with ((go_at_call 102; (with_reducible refine (orderR_any (y * m) s (toB 1000000 (y * m)) (toB 1000000 s) a8 a5 c8 c5 w8 rfl rfl (by omega) (by omega) OC8.out (H7.out.cells.ext E8)).mono ?_); rintro e w1 ⟨rfl, hE⟩))
                  have E9 := E8.trans hE
                  clear hE OC8 he E8
                  go_wp2
                  refine ⟨⟨l, m - 1, by omega, by omega, rfl, by go_num, ⟨hin.out.1, by rw [Nat.sub_add_cancel (by omega)]; omega⟩, E9⟩, by simp [intOf]; omega⟩
            · have hlh2 : l = h := by omega
              subst hlh2
              have hl1 : 1 ≤ l := by
                rcases Nat.eq_zero_or_pos l with h0 | h0
                · have := hin.out.2; rw [h0] at this; omega
                · exact h0
              obtain ⟨hI1, hI2⟩ := hin.out
              have HQ := Lib.hid (HSTEP.out l hI1 hI2)
              have HSET := Lib.hid (HO7.out.ext he |>.set k l)
              have HL : Hid ([l] = toB 1000000 l) := (toB_one (by omega) (by omega) (by omega)).symm
              have HTR : Hid (trimL [l] = [l]) := by
                show _ = _
                rw [trimL_toB (B := 1000000) (by omega) (fun z hz => by rw [List.mem_singleton] at hz; omega)]
                show toB 1000000 (l + 1000000 * 0) = _
                exact HL.out.symm
              have hym : (toB 1000000 (y * l)).length ≤ lb.length + 1 := HYL.out _ (by omega)
              have hkN : k < N := by have := HNN.out; omega
              obtain ⟨s1, s2⟩ := (HO7.out.ext he).at (i := k) (by have := HQL.out; omega)
              generalize q.getD k 0 = z0 at s1
              have HS5 : Hid (OwnsN .i64 3 (wr.setCell ⟨ob, k, none⟩ (.int .i64 (l : Int))) (.slice a5 (toB 1000000 s).length c5) (toB 1000000 s)) :=
                (H7.out.ext he).same (fun g hg => Below.heap_setCell _ _ _ _ (Nat.ne_of_gt (HN6.out g hg)))
              have E8 : Ext w (wr.setCell ⟨ob, k, none⟩ (.int .i64 (l : Int))) := (E7.trans he).set (by rw [HOB.out]; exact Nat.le_refl _) _
              have hz8 : ob < (wr.setCell ⟨ob, k, none⟩ (.int .i64 (l : Int))).heap.size := by have := he.size; simp [World.setCell]; omega
              have HI1 := Lib.hid hI1
              clear HSTEP HO7 H7 hz7 E7 he hI1 hI2 hin
              obtain ⟨ws, hws⟩ : ∃ ws, ws = wr.setCell ⟨ob, k, none⟩ (.int .i64 (l : Int)) := ⟨_, rfl⟩
              rw [← hws] at HSET HS5 E8 hz8
              have HSS : Hid (ws.heap.size = wr.heap.size) := by show _ = _; rw [hws]; simp [World.setCell]
              have HWS := Lib.hid hws
              clear hws
              have HR1 : Room (some ⟨ws.heap.size, 0, none⟩) [l].length 1 := ⟨by simp, by unfold maxLen; omega, fun _ => ⟨_, _, rfl⟩⟩
              have HT9 := Lib.hid (trimR_any [l] (some ⟨ws.heap.size, 0, none⟩) 1 (ws.alloc (.cells #[.int .i64 (l : Int)] 3)) HR1 (cells_one' l ws))
              clear HR1
              go_wp2_with (go_at_call 140; rw [← HWS.out, ← HSS.out]; refine HT9.out.mono ?_; rintro e w9 ⟨rfl, hn9, hE9⟩; rw [HTR.out, HSS.out])
              have C9 := Lib.hid ((cells_one' l ws).ext hE9)
              rw [HSS.out] at C9
              have E9 : Ext ws w9 := ((Ext.refl _).alloc _).trans hE9
              clear hn9 hE9 HT9
              go_wp2_with (go_at_call 146; refine (timesR_any y l lb [l] b _ cb 1 _ HY.out HL.out (by omega) (by simp) (HB.out.ext (E8.trans E9)) C9.out).mono ?_; rintro e w10 ⟨v10, rfl, o10, n10, e10⟩)
              all_goals
                obtain ⟨a10, c10, rfl, oc10, _, _⟩ := o10.reads
                have E10 : Ext ws w10 := E9.trans e10
                have OC10 := Lib.hid oc10
                clear o10 n10 e10 oc10 E9 C9
                have hsub : y * l ≤ s := HI1.out
                go_wp2_with (go_at_call 147; refine (lessR_any s (y * l) (toB 1000000 s) (toB 1000000 (y * l)) a5 a10 c5 c10 w10 rfl rfl hsub (by omega) (HS5.out.cells.ext E10) OC10.out).mono ?_; rintro e w11 ⟨v11, rfl, o11, n11, e11⟩)
                all_goals
                  have O11 := Lib.hid o11
                  have N11 : Hid (∀ b, v11.ownBlock = some b → ob < b) := fun b hb => by have h1 := n11 b hb; have h2 := E10.size; omega
                  have HSET11 := Lib.hid (HSET.out.ext (E10.trans e11))
                  have E11 := E8.trans (E10.trans e11)
                  have hz11 : ob < w11.heap.size := Nat.lt_of_lt_of_le hz8 (E10.trans e11).size
                  clear o11 n11 e11 E10 OC10 E8 hz8 HS5 HSET
                  go_wp2
                  refine ⟨⟨k, _, by omega, by go_num, rfl, ⟨s - y * l, _, HQ.out, HSET11.out, O11.out⟩, N11, hz11, E11⟩, by simp [intOf]⟩
end Go.Proofs.YtdejgaiocjfhjaaGreatDoor
namespace Go.Proofs.YtdejgaiocjfhjaaGreatDoor
open Go.RowKit
def natR (w : World) : Value → Nat
  | .slice a n _ => valB 1000000 (readN w a n)
  | _ => 0
theorem natR_eq {w : World} {a : Option Addr} {x c : Nat} (h : CellsN .i64 w a (toB 1000000 x)) : natR w (.slice a (toB 1000000 x).length c) = x := by
  unfold natR
  simp only
  rw [readN_eq h, valB_toB (by omega)]
def NewR (l : List Nat) (w : World) (e : Ending) (w' : World) : Prop := ∃ a c, e = .returned (.slice a l.length c) ∧ CellsN .i64 w' a l ∧ Ext w w'
theorem lenR_pos {x : Nat} (h : x ≠ 0) : 0 < (toB 1000000 x).length := by rw [toB_pos (by omega) h]; simp
theorem lenR_zero {x : Nat} (h : x = 0) : (toB 1000000 x).length = 0 := by rw [h, toB_zero]; rfl
structure ShaW (x y : Nat) (w0 : World) (va vb : Value) (a b : Nat) (w : World) : Prop where
  g : Nat.gcd a b = Nat.gcd x y
  la : (toB 1000000 a).length ≤ 100
  lb : (toB 1000000 b).length ≤ 100
  a : ∃ pa pc, va = .slice pa (toB 1000000 a).length pc ∧ CellsN .i64 w pa (toB 1000000 a)
  b : ∃ qa qc, vb = .slice qa (toB 1000000 b).length qc ∧ CellsN .i64 w qa (toB 1000000 b)
  e : Ext w0 w
set_option maxHeartbeats 4000000 in
set_option maxRecDepth 100000 in
theorem sharedR_any (x y : Nat) (la lb : List Nat) (a b : Option Addr) (ca cb : Nat) (w : World) (hx : la = toB 1000000 x) (hy : lb = toB 1000000 y)
    (hla : la.length ≤ 100) (hlb : lb.length ≤ 100) (ha : CellsN .i64 w a la) (hb : CellsN .i64 w b lb) :
    Calls Tryz.prog 103 #[.slice a la.length ca, .slice b lb.length cb] w (NewR (toB 1000000 (Nat.gcd x y)) w) := by
  subst hx hy
  have W0 : Hid (ShaW x y w (.slice a (toB 1000000 x).length ca) (.slice b (toB 1000000 y).length cb) x y w) := ⟨rfl, hla, hlb, ⟨_, _, rfl, ha⟩, ⟨_, _, rfl, hb⟩, Ext.refl _⟩
  clear ha hb hla hlb
  generalize Value.slice a (toB 1000000 x).length ca = va0 at W0 ⊢
  generalize Value.slice b (toB 1000000 y).length cb = vb0 at W0 ⊢
  go_enter Tryz.func103, Tryz.ntmps103
  go_wp2
  go_loopw [0, 1] (fun va vb wr => ∃ (p q : Nat), Hid (ShaW x y w va vb p q wr)) (fun _ vb wr => natR wr vb)
  case atStart => exact ⟨x, y, W0.out⟩
  case round =>
    obtain ⟨p, q, HW⟩ := hrel
    obtain ⟨hg, hpl, hql, ⟨pa, pc, rfl, hpc⟩, ⟨qa, qc, rfl, hqc⟩, he⟩ := HW.out
    have HG := Lib.hid hg
    have HP := Lib.hid hpc
    have HQ := Lib.hid hqc
    have HE := Lib.hid he
    have HM : Hid (natR wr (.slice qa (toB 1000000 q).length qc) = q) := natR_eq hqc
    clear hg hpc hqc W0 HW
    by_cases h0 : q = 0
    · have hz := lenR_zero h0
      have HD : Hid (p = Nat.gcd x y) := by show _ = _; rw [← HG.out, h0, Nat.gcd_zero_right]
      have HL : Hid (toB 1000000 p = toB 1000000 (Nat.gcd x y)) := by show _ = _; rw [← HD.out]
      clear h0 HD
      go_wp2
      go_ret
      rw [HL.out] at HP ⊢
      exact ⟨_, _, rfl, HP.out, HE.out⟩
    · have hz := lenR_pos h0
      have HT := Lib.hid (quotientR_any p q (toB 1000000 p) (toB 1000000 q) pa qa pc qc wr rfl rfl (by omega) hpl hql HP.out HQ.out)
      have HR : Hid (p % q < q ∧ Nat.gcd q (p % q) = Nat.gcd x y) := ⟨Nat.mod_lt _ (by omega), by rw [← HG.out, Nat.gcd_comm p q, Nat.gcd_rec q p, Nat.gcd_comm]⟩
      clear h0 HG
      go_wp2_with (go_at_call 139; refine HT.out.mono ?_; rintro e w5 ⟨v5, u5, rfl, o5, r5, n5, m5, e5⟩)
      obtain ⟨a5, c5, rfl, oc5, _, _⟩ := r5.reads
      have hM2 : natR w5 (.slice a5 (toB 1000000 (p % q)).length c5) = p % q := natR_eq oc5
      have hml : (toB 1000000 (p % q)).length ≤ 100 := Nat.le_trans (toB_mono (by omega) (Nat.le_of_lt HR.out.1)) hql
      have W5 : Hid (ShaW x y w (.slice qa (toB 1000000 q).length qc) (.slice a5 (toB 1000000 (p % q)).length c5) q (p % q) w5) := ⟨HR.out.2, hql, hml, ⟨_, _, rfl, HQ.out.ext e5⟩, ⟨_, _, rfl, oc5⟩, HE.out.trans e5⟩
      have HM2 := Lib.hid hM2
      clear hM2 o5 r5 n5 m5 e5 oc5
      go_wp2
      refine ⟨⟨q, _, W5⟩, ?_⟩
      rw [HM.out, HM2.out]
      exact HR.out.1
end Go.Proofs.YtdejgaiocjfhjaaGreatDoor
