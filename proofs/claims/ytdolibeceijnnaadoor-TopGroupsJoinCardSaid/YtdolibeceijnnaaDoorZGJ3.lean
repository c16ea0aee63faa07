/- Steps of the proof: RegE, QMapped, QMap, QCopied, QConcat, QConcatP, QFrom, QFromR, QTurnR, QFromRR, QSort, QSortW, QSortF, QConcatK, QHas, QDel, QMergeM, QMerge, QOrdR, QIntsR, QStepR, QRenE, QMoves, QMovesP, QCmpL, QStd1, QSortI, QStable, QStdP, QAppP, QMergeR, QJoinR. No conditions. -/
import Derived.Lib.AppendZeros
import Derived.Lib.BitFns
import Derived.Deep.RegionLaw
import Derived.Lib.SlicesDelete
import Derived.Deep.DeepCutAuto
import Derived.Test.YtdolibeceijnnaaDoorZGJ1
import Derived.Test.YtdolibeceijnnaaDoorZGJ2
namespace Go.Proofs.YtdolibeceijnnaaDoor
open Go Go.RowKit
variable {P : Program} {md : Region.Mode} {ops : Array Oper} {Q : Exit → Act → World → Prop} {S : World → Prop} {f : Nat}
def wpAnyE (P : Program) (md : Region.Mode) (ops : Array Oper) (Q : Exit → Act → World → Prop) (S : World → Prop) (f : Nat) : Nat → Array Bool → Act → World → Prop
  | 0, listed, a, w => Region.ready md ops listed = [] ∧ Q .normal a w
  | fuel + 1, listed, a, w =>
    (Region.ready md ops listed = [] → Q .normal a w) ∧
    ∀ i ∈ Region.ready md ops listed, wpOp P ops Q i (fun a' w' => ((listed.setIfInBounds i true).getD f false = false → S w') ∧ wpAnyE P md ops Q S f fuel (listed.setIfInBounds i true) a' w') a w
theorem wpAny_of_heldE : ∀ (fuel : Nat) (listed : Array Bool) (a : Act) (w : World), wpAnyE P md ops Q S f fuel listed a w → wpAny P md ops Q fuel listed a w
  | 0, _, _, _, h => h
  | fuel + 1, _, _, _, h => ⟨h.1, fun i hi => wpOp_mono (fun a' w' h' => wpAny_of_heldE fuel _ a' w' h'.2) (h.2 i hi)⟩
def waitsFor (md : Region.Mode) (ops : Array Oper) (f i : Nat) : Bool := match ops[f]? with
  | some o => o.after.any fun e => Region.binds md e && e.on == i
  | none => true
theorem pend_set {listed : Array Bool} {f i : Nat} (h : f ≠ i) : (listed.setIfInBounds i true).getD f false = listed.getD f false := getD_set_ne false (Ne.symm h)
theorem wpAnyE_first (b : Bool) {i : Nat} {oi : Oper} {v : Value} (hi : ops[i]? = some oi) (hif : f ≠ i) (hsel : ∀ (j : Nat) (o : Oper) cs b, ops[j]? = some o → o.op ≠ .select cs b)
    (hQ : ∀ c a w, Q (.panic c) (a.put oi.dst v) w → Q (.panic c) a w) (hfi : b = true → waitsFor md ops f i = true) :
    ∀ (fuel : Nat) (listed : Array Bool) (a : Act) (w : World),
      (∀ j oj, ops[j]? = some oj → j ≠ i → listed.getD j true = false → (∀ e ∈ oj.after, Region.binds md e = true → e.on ≠ i) → oi.apart ops oj = true) →
      i ∈ Region.ready md ops listed → YieldsIf P ops (fun w => b = true → S w) oi v a → (b = true → listed.getD f false = false) → (listed.getD f false = false → S w) →
      wpAnyE P md ops Q S f fuel (listed.setIfInBounds i true) (a.put oi.dst v) w → wpAnyE P md ops Q S f (fuel + 1) listed a w := by
  intro fuel
  induction fuel with
  | zero =>
    intro listed a w _ hr hy hb hS H
    refine ⟨fun h => (by rw [h] at hr; cases hr), fun j hj => ?_⟩
    by_cases hji : j = i
    · subst hji; exact hy.wpOp hi (fun h => hS (hb h)) ⟨fun h => hS (by rw [pend_set hif] at h; exact h), H⟩
    · have := ready_mono hj hji
      rw [H.1] at this
      cases this
  | succ fuel ih =>
    intro listed a w hfree hr hy hb hS H
    refine ⟨fun h => (by rw [h] at hr; cases hr), fun j hj => ?_⟩
    by_cases hji : j = i
    · subst hji; exact hy.wpOp hi (fun h => hS (hb h)) ⟨fun h => hS (by rw [pend_set hif] at h; exact h), H⟩
    · have h1 := H.2 j (ready_mono hj hji)
      obtain ⟨hjun, oj, hoj, hall⟩ := mem_ready.1 hj
      have hnot : ∀ e ∈ oj.after, Region.binds md e = true → e.on ≠ i := fun e he hb heq => by
        have h1 := hall e he hb
        have h0 := (mem_ready.1 hr).1
        rw [heq] at h1
        rcases Nat.lt_or_ge i listed.size with h' | h'
        · simp [h'] at h0 h1; rw [h0] at h1; cases h1
        · simp [Array.getElem?_eq_none h'] at h1
      have hjf : b = true → f ≠ j := fun hbt hf => by
        subst hf
        have hfi := hfi hbt
        unfold waitsFor at hfi
        rw [hoj] at hfi
        obtain ⟨e, he, h2⟩ := Array.any_eq_true'.1 hfi
        simp only [Bool.and_eq_true, beq_iff_eq] at h2
        exact hnot e he h2.1 h2.2
      have h2 := wpOp_putIf hoj (hfree j oj hoj hji hjun hnot) (fun cs b => hsel i oi cs b hi) (fun cs b => hsel j oj cs b hoj) hQ hy h1
      have hfree' : ∀ k ok, ops[k]? = some ok → k ≠ i → (listed.setIfInBounds j true).getD k true = false →
          (∀ e ∈ ok.after, Region.binds md e = true → e.on ≠ i) → oi.apart ops ok = true := fun k ok hk hki hun hno => by
        refine hfree k ok hk hki ?_ hno
        by_cases hjk : j = k
        · subst hjk; exact hjun
        · rw [getD_set_ne true hjk] at hun; exact hun
      refine wpOp_mono (fun a' w' h3 => ?_) h2
      have hc : (listed.setIfInBounds j true).getD f false = false → S w' := fun h => h3.2.1 (by rw [Array.setIfInBounds_comm _ _ (Ne.symm hji), pend_set hif]; exact h)
      refine ⟨hc, ih (listed.setIfInBounds j true) a' w' hfree' (ready_mono hr (Ne.symm hji)) h3.1 (fun h => by rw [pend_set (hjf h)]; exact hb h) hc ?_⟩
      rw [Array.setIfInBounds_comm _ _ hji]
      exact h3.2.2
theorem wpAnyE_take {i : Nat} {oi : Oper} {v : Value} {fuel : Nat} {listed : Array Bool} {a : Act} {w : World} (hi : ops[i]? = some oi)
    (hs : (Region.noSelect ops && Region.free md ops listed i && (Region.ready md ops listed).contains i && waitsFor md ops f i && (f != i) && !listed.getD f false) = true)
    (hQ : ∀ c a w, Q (.panic c) (a.put oi.dst v) w → Q (.panic c) a w) (hy : YieldsIf P ops S oi v a) (hS : S w)
    (h : wpAnyE P md ops Q S f fuel (listed.setIfInBounds i true) (a.put oi.dst v) w) : wpAnyE P md ops Q S f (fuel + 1) listed a w := by
  simp only [Bool.and_eq_true, bne_iff_ne, Bool.not_eq_true'] at hs
  refine wpAnyE_first true hi hs.1.2 (Region.noSelect_spec hs.1.1.1.1.1) hQ (fun _ => hs.1.1.2) fuel listed a w (Region.free_spec hi hs.1.1.1.1.2) (by simpa using hs.1.1.1.2) ?_ (fun _ => hs.2) (fun _ => hS) h
  rcases hy with ⟨h1, h2⟩ | h1
  · exact .inl ⟨h1, fun w hw => h2 w (hw rfl)⟩
  · exact .inr h1
theorem wpAnyE_pure {i : Nat} {oi : Oper} {v : Value} {fuel : Nat} {listed : Array Bool} {a : Act} {w : World} (hi : ops[i]? = some oi)
    (hs : (Region.noSelect ops && Region.free md ops listed i && (Region.ready md ops listed).contains i && (f != i)) = true)
    (hQ : ∀ c a w, Q (.panic c) (a.put oi.dst v) w → Q (.panic c) a w) (hy : YieldsIf P ops (fun _ => True) oi v a) (hS : listed.getD f false = false → S w)
    (h : wpAnyE P md ops Q S f fuel (listed.setIfInBounds i true) (a.put oi.dst v) w) : wpAnyE P md ops Q S f (fuel + 1) listed a w := by
  simp only [Bool.and_eq_true, bne_iff_ne] at hs
  refine wpAnyE_first false hi hs.2 (Region.noSelect_spec hs.1.1.1) hQ (fun h => by cases h) fuel listed a w (Region.free_spec hi hs.1.1.2) (by simpa using hs.1.2) ?_ (fun h => by cases h) hS h
  rcases hy with ⟨h1, h2⟩ | h1
  · exact .inl ⟨h1, fun w _ => h2 w trivial⟩
  · exact .inr h1
theorem wpAnyE_one {i : Nat} {o : Oper} {fuel : Nat} {listed : Array Bool} {a : Act} {w : World} (ho : ops[i]? = some o) (hr : Region.ready md ops listed = [i])
    (h : ∀ K' : Act → World → Prop, Shut (∀ a w, S w → (S w → wpAnyE P md ops Q S f fuel (listed.setIfInBounds i true) a w) → K' a w) → if Region.wanted o (yielded ops a.tmps) = true then Oper.wp P o a w K' Q else K' (a.put o.dst undef) w) :
    wpAnyE P md ops Q S f (fuel + 1) listed a w := by
  refine ⟨fun h0 => (by rw [hr] at h0; cases h0), fun j hj => ?_⟩
  rw [hr] at hj
  rcases List.mem_singleton.1 hj with rfl
  exact wpOp_step ho (fun K' hK => h K' (fun a w hS hW => hK a w ⟨fun _ => hS, hW hS⟩))
theorem wpAnyE_free {i : Nat} {o : Oper} {fuel : Nat} {listed : Array Bool} {a : Act} {w : World} (ho : ops[i]? = some o) (hr : Region.ready md ops listed = [i]) (hl : (listed.setIfInBounds i true).getD f false = true)
    (h : ∀ K' : Act → World → Prop, Shut (∀ a w, wpAnyE P md ops Q S f fuel (listed.setIfInBounds i true) a w → K' a w) → if Region.wanted o (yielded ops a.tmps) = true then Oper.wp P o a w K' Q else K' (a.put o.dst undef) w) :
    wpAnyE P md ops Q S f (fuel + 1) listed a w := by
  refine ⟨fun h0 => (by rw [hr] at h0; cases h0), fun j hj => ?_⟩
  rw [hr] at hj
  rcases List.mem_singleton.1 hj with rfl
  exact wpOp_step ho (fun K' hK => h K' (fun a w hW => hK a w ⟨fun h => (by rw [hl] at h; cases h), hW⟩))
theorem wpAnyE_done {listed : Array Bool} {a : Act} {w : World} (hr : Region.ready md ops listed = []) (h : Q .normal a w) :
    ∀ fuel, wpAnyE P md ops Q S f fuel listed a w
  | 0 => ⟨hr, h⟩
  | _ + 1 => ⟨fun _ => h, by rw [hr]; simp⟩
theorem wp_region_heldE (f : Nat) (S : World → Prop) {id : Nat} {a : Act} {w : World} (hm : P.follows .mixedOrders = true)
    (h : wpAnyE P .any ops Q S f ops.size (Array.replicate ops.size false) a w.drew) : (Code.region id ops true).wp P Q a w :=
  wp_region_any hm (wpAny_of_heldE _ _ _ _ h)
theorem eTk {P : Program} {md : Region.Mode} {ops : Array Oper} {Q : Exit → Act → World → Prop} {S : World → Prop} {f : Nat} (i : Nat) {oi : Oper} {v : Value} {fuel : Nat} {listed : Array Bool} {a b : Act} {w : World}
    (h : wpAnyE P md ops Q S f fuel (listed.setIfInBounds i true) b w)
    (hi : ops[i]? = some oi := by simp only [List.getElem?_toArray, List.getElem?_cons_succ, List.getElem?_cons_zero]; exact rfl)
    (hs : (Region.noSelect ops && Region.free md ops listed i && (Region.ready md ops listed).contains i && waitsFor md ops f i && (f != i) && !listed.getD f false) = true := by kernel_rfl)
    (hQ : ∀ c a w, Q (.panic c) (a.put oi.dst v) w → Q (.panic c) a w := by exact fun _ _ _ h => h)
    (hy : YieldsIf P ops S oi v a := by refine Or.inl ⟨by rfl, ?_⟩; intro w hSw; (try dsimp only at hSw); (first | (go_simp; done) | (go_simp; with_reducible rfl)))
    (hb : a.put oi.dst v = b := by (try simp only [Act.put, List.setIfInBounds_toArray, List.set_cons_zero, List.set_cons_succ]); exact rfl)
    (hS : S w := by assumption) : wpAnyE P md ops Q S f (fuel + 1) listed a w := by
  subst hb
  exact wpAnyE_take hi hs hQ hy hS h
theorem ePu {P : Program} {md : Region.Mode} {ops : Array Oper} {Q : Exit → Act → World → Prop} {S : World → Prop} {f : Nat} (i : Nat) {oi : Oper} {v : Value} {fuel : Nat} {listed : Array Bool} {a b : Act} {w : World}
    (h : wpAnyE P md ops Q S f fuel (listed.setIfInBounds i true) b w)
    (hi : ops[i]? = some oi := by simp only [List.getElem?_toArray, List.getElem?_cons_succ, List.getElem?_cons_zero]; exact rfl)
    (hs : (Region.noSelect ops && Region.free md ops listed i && (Region.ready md ops listed).contains i && (f != i)) = true := by kernel_rfl)
    (hQ : ∀ c a w, Q (.panic c) (a.put oi.dst v) w → Q (.panic c) a w := by exact fun _ _ _ h => h)
    (hy : YieldsIf P ops (fun _ => True) oi v a := by refine Or.inl ⟨by rfl, ?_⟩; intro w hSw; clear hSw; (first | (go_simp; done) | (go_simp; with_reducible rfl)))
    (hb : a.put oi.dst v = b := by (try simp only [Act.put, List.setIfInBounds_toArray, List.set_cons_zero, List.set_cons_succ]); exact rfl)
    (hS : listed.getD f false = false → S w := by first | exact (fun _ => by assumption) | (intro hlst; exact absurd hlst (by kernel_rfl)) | (intro hlst; cases hlst)) : wpAnyE P md ops Q S f (fuel + 1) listed a w := by
  subst hb
  exact wpAnyE_pure hi hs hQ hy hS h
end Go.Proofs.YtdolibeceijnnaaDoor
namespace Go.Proofs.YtdolibeceijnnaaDoor
open Go.RowKit
theorem step_append1 {P : Program} {ops : Array Oper} {o : Oper} {a : Act} {w : World} {K : Act → World → Prop} {Q : Exit → Act → World → Prop} {E : Prop} (hgd : o.guard = none) (s x : Operand) (t : TypeId)
    (ho : o.op = .call { callee := .builtin .append, args := #[s, x], argTypes := #[t, t] })
    (e : TypeId) (i : TypeInfo) (z : Value) (size bytes : Nat) (ht : P.underlying t = some (.slice e)) (hi : P.info? e = some i) (hz : i.zero = some z)
    (hsize : i.size = size) (hby : i.bytes = bytes) (hzs : z.cells.size = size) (hsz : 0 < size)
    (v : Value) (n : Nat) (xs : List Value) (hs : a.eval s = v) (hown : w.ownsRow 0 e size v n xs)
    (ad : Addr) (m c : Nat) (hm : 0 < m) (news : List Value) (hx : a.eval x = .slice (some ad) m c) (hl : news.length = m * size) (hnews : ∀ j u, news[j]? = some u → w.cell? (ad.add j) = some u) (h1 : ∀ u ∈ news, u.oneCell' = true)
    (h63 : n + m ≤ maxLen) (hbytes : (n + m) * bytes ≤ 140737488355328)
    (h : ∀ v' w', w'.ownsRow 0 e size v' (n + m) (xs ++ news) → AppEnd w w' v v' → K (a.put o.dst v') w') :
    if Region.wanted o (yielded ops a.tmps) = true then Oper.wp P o a w K Q else E := by
  have hw : Region.wanted o (yielded ops a.tmps) = true := by simp [Region.wanted, hgd]
  rw [if_pos hw]
  obtain ⟨v', w', hr, h2, h3⟩ := run_append1 (P := P) w t o.type e i z size bytes ht hi hz hsize hby hzs hsz v n xs hown ad m c hm news hl hnews h1 h63 hbytes
  unfold Oper.wp execOp
  simp only [ho, resolve, invoke, builtin, Sem.run_bind, Sem.run_pure, Result.andThen_ok, List.map_toArray, List.map_cons, List.map_nil, hs, hx, hr]
  exact h v' w' h2 h3
def SliceKX (X : Nat → Prop) (w : World) (v : Value) (l : List Stk) : Prop := ∃ a cap, v = .slice a l.length cap ∧ CellsK w a l ∧ l.length ≤ maxLen ∧ ∀ b off, a = some ⟨b, off, none⟩ → l ≠ [] → ¬ X b
theorem SliceKX.slice {X : Nat → Prop} {w : World} {v : Value} {l : List Stk} (h : SliceKX X w v l) : SliceK w v l := by
  obtain ⟨a, cap, h1, h2, h3, _⟩ := h
  exact ⟨a, cap, h1, h2, h3⟩
theorem SliceKX.chg {X : Nat → Prop} {A B : World} {v : Value} {l : List Stk} (h : SliceKX X A v l) (c : Chg X A B) : SliceK B v l := by
  obtain ⟨a, cap, h1, h2, h3, h4⟩ := h
  refine ⟨a, cap, h1, fun i hi => ?_, h3⟩
  obtain ⟨b, off, e1, e2, e3⟩ := h2 i hi
  have hb := h4 b off e1 (by intro h; simp [h] at hi)
  exact ⟨b, off, e1, (World.cell?_of_block (w := A) (a := ⟨b, _, none⟩) (c.2 b (cell_lt e2) hb)).trans e2, (World.cell?_of_block (w := A) (a := ⟨b, _, none⟩) (c.2 b (cell_lt e3) hb)).trans e3⟩
theorem SliceKX.chgX {X Y : Nat → Prop} {A B : World} {v : Value} {l : List Stk} (h : SliceKX X A v l) (c : Chg X A B) (hy : ∀ b, b < A.heap.size → Y b → X b) : SliceKX Y B v l := by
  have h' := h
  obtain ⟨a, cap, h1, h2, h3, h4⟩ := h
  obtain ⟨a', cap', e1, e2, e3⟩ := h'.chg c
  rw [h1] at e1
  cases e1
  refine ⟨a, cap, h1, e2, h3, fun b off hb hne hY => ?_⟩
  obtain ⟨b1, o1, f1, f2, _⟩ := h2 0 (List.length_pos_iff.2 hne)
  rw [hb] at f1
  cases f1
  exact h4 b off hb hne (hy b (cell_lt f2) hY)
def pairP (ps : List (Value × Stp)) : List (Value × Value) := ps.map fun p => (p.1, .int .i64 p.2.2)
def OwnsP (X : Nat → Prop) (w : World) (v : Value) (ys : List Stp) : Prop :=
  ∃ ps : List (Value × Stp), ps.map (·.2) = ys ∧ w.ownsRow 0 65 2 v ys.length (flat2 (pairP ps)) ∧ ∀ p ∈ ps, SliceKX (fun b => X b ∨ v.ownBlock = some b) w p.1 p.2.1
theorem OwnsP.nil (X : Nat → Prop) (w : World) : OwnsP X w (.slice none 0 0) [] := ⟨[], rfl, World.ownsRow_nil w 0 _ _, fun p hp => by cases hp⟩
theorem OwnsP.chg {X : Nat → Prop} {A B : World} {v : Value} {ys : List Stp} (h : OwnsP X A v ys) (c : Chg X A B) (hv : ∀ b, v.ownBlock = some b → ¬ X b) : OwnsP X B v ys := by
  obtain ⟨ps, h1, h2, h3⟩ := h
  refine ⟨ps, h1, rowSame h2 (fun b hb => c.2 b (rowLt h2 hb) (hv b hb)), fun p hp => ?_⟩
  exact (h3 p hp).chgX ⟨c.1, fun k hk hn => c.2 k hk (fun hx => hn (.inl hx))⟩ (fun b _ hy => hy)
theorem OwnsP.reads {X : Nat → Prop} {A : World} {v : Value} {ys : List Stp} (h : OwnsP X A v ys) : SliceP A v ys := by
  obtain ⟨ps, h1, h2, h3⟩ := h
  obtain ⟨a, cap, hv, hm, hr⟩ := rowReads h2
  refine ⟨a, cap, hv, fun i hi => ?_, rowRoom h2 hv⟩
  have hl : ps.length = ys.length := by rw [← h1]; simp
  have hi' : i < (pairP ps).length := by simp [pairP]; omega
  have hip : i < ps.length := by omega
  have hg := flat2_get (pairP ps) i hi'
  have e1 : (pairP ps)[i].1 = ps[i].1 := by simp [pairP]
  have e2 : (pairP ps)[i].2 = .int .i64 ps[i].2.2 := by simp [pairP]
  rw [e1, e2] at hg
  have ey : ys.getD i stp0 = ps[i].2 := by rw [← h1]; simp [List.getD, hip]
  obtain ⟨b, hb, _, g1, _⟩ := hr _ _ hg.1
  obtain ⟨b', hb', _, g2, _⟩ := hr _ _ hg.2
  rw [hb] at hb'
  cases hb'
  refine ⟨b, 0, ps[i].1, hb, by rw [Nat.zero_add]; exact g1, ?_, ?_⟩
  · rw [ey]; exact (h3 _ (List.getElem_mem hip)).slice
  · rw [ey, Nat.zero_add]; exact g2
theorem OwnsP.app {X : Nat → Prop} {A B : World} {v v' : Value} {ys : List Stp} {u : Value} {y : Stp} (h : OwnsP X A v ys) (hu : SliceKX (fun b => X b ∨ v.ownBlock = some b) A u y.1) (_hX : ∀ b, X b → b < A.heap.size)
    (hown : B.ownsRow 0 65 2 v' (ys.length + 1) (flat2 (pairP (Classical.choose h)) ++ [u, .int .i64 y.2])) (he : AppEnd A B v v') : OwnsP X B v' (ys ++ [y]) := by
  obtain ⟨h1, h2, h3⟩ := Classical.choose_spec h
  refine ⟨Classical.choose h ++ [(u, y)], by rw [List.map_append, h1]; rfl, ?_, ?_⟩
  · unfold pairP at hown ⊢
    rw [List.length_append, List.map_append, flat2_append]
    exact hown
  · have c : Chg (fun b => X b ∨ v.ownBlock = some b) A B := by
      rcases he with ⟨_, _, hg⟩ | ⟨_, hx⟩
      · exact ⟨hg.size, fun k hk hn => hg.block k hk (fun e => hn (.inr e.symm))⟩
      · exact Chg.ext hx
    have hy : ∀ b, b < A.heap.size → (X b ∨ v'.ownBlock = some b) → (X b ∨ v.ownBlock = some b) := fun b hb hh => by
      rcases hh with hh | hh
      · exact .inl hh
      · rcases he with ⟨hv, _, _⟩ | ⟨hv, _⟩
        · exact .inr (hv ▸ hh)
        · rw [hv] at hh; cases hh; omega
    intro p hp
    rcases List.mem_append.1 hp with hp | hp
    · exact (h3 p hp).chgX c hy
    · rcases List.mem_singleton.1 hp with rfl
      exact hu.chgX c hy
theorem Chg.mono {B C : Nat → Prop} {A D : World} (h : Chg B A D) (k : ∀ b, B b → C b) : Chg C A D := ⟨h.1, fun i hi hn => h.2 i hi (fun hb => hn (k i hb))⟩
def SeqPost (s : Sq) (w : World) (e : Ending) (w' : World) : Prop := ∃ v, e = .returned v ∧ (∀ B, Chg (fun b => b < w.heap.size) w' B → SeqV B v s) ∧ Ext w w'
theorem SliceKX.monoX {X Y : Nat → Prop} {A : World} {v : Value} {l : List Stk} (h : SliceKX X A v l) (hy : ∀ b, Y b → X b) : SliceKX Y A v l := h.chgX (Chg.refl X A) (fun b _ hb => hy b hb)
theorem OwnsP.mono {X Y : Nat → Prop} {A : World} {v : Value} {ys : List Stp} (h : OwnsP X A v ys) (hy : ∀ b, Y b → X b) : OwnsP Y A v ys := by
  obtain ⟨ps, h1, h2, h3⟩ := h
  exact ⟨ps, h1, h2, fun p hp => (h3 p hp).monoX (fun b hb => hb.imp (hy b) id)⟩
def OwnPost (s : Sq) (w : World) (e : Ending) (w' : World) : Prop := ∃ o v, w.heap.size ≤ o ∧ e = .returned (.agg #[.int .i64 s.1, v]) ∧ OwnsP (fun b => b ≤ o) w' v s.2 ∧ (∀ b, v.ownBlock = some b → o < b) ∧ Ext w w'
theorem OwnPost.seq {s : Sq} {w : World} {e : Ending} {w' : World} (h : OwnPost s w e w') : SeqPost s w e w' := by
  obtain ⟨o, v, ho, he, h1, h2, h3⟩ := h
  refine ⟨_, he, fun B hB => ⟨v, rfl, ?_⟩, h3⟩
  exact (OwnsP.chg (h1.mono (Y := fun b => b < w.heap.size) (fun b hb => by omega)) hB (fun b hb e => by have := h2 b hb; omega)).reads
end Go.Proofs.YtdolibeceijnnaaDoor
namespace Go.Proofs.YtdolibeceijnnaaDoor
open Go.RowKit
def ChPost (y : Stp) (v : Value) (w : World) (e : Ending) (w' : World) : Prop :=
  ∃ u, e = .returned (.agg #[u, .int .i64 y.2]) ∧ SliceK w' u y.1 ∧ (∀ b, u.ownBlock = some b → v.ownBlock = some b ∨ w.heap.size ≤ b) ∧ (∃ a, ∃ c, u = .slice a y.1.length c ∧ ∀ b off, a = some ⟨b, off, none⟩ → off = 0) ∧ ∀ n, n ≤ w.heap.size → (∀ b, v.ownBlock = some b → n ≤ b) → Below n w w'
structure MpSt (o : Nat) (W0 wr : World) (n : Int) (ys : List Stp) : Prop where
  be : Below o W0 wr
  c0 : wr.cell? ⟨o, 0, none⟩ = some (.int .i64 n)
  f1 : wr.frozen? ⟨o, 1, none⟩ = false
  v : ∃ v, wr.cell? ⟨o, 1, none⟩ = some v ∧ OwnsP (fun b => b ≤ o) wr v ys ∧ ∀ b, v.ownBlock = some b → o < b
def mapK (ch : Nat → Stp → Stp) (l : List Stp) (k : Nat) : List Stp := (List.range k).map fun i => ch i (l.getD i stp0)
theorem mapK_succ (ch : Nat → Stp → Stp) (l : List Stp) (k : Nat) : mapK ch l (k + 1) = mapK ch l k ++ [ch k (l.getD k stp0)] := by
  unfold mapK; rw [List.range_succ, List.map_append]; rfl
theorem mapK_len (ch : Nat → Stp → Stp) (l : List Stp) (k : Nat) : (mapK ch l k).length = k := by simp [mapK]
def Full (l : List Stp) : Prop := ∀ k, k < l.length → 0 < (l.getD k stp0).1.length ∧ (l.getD k stp0).1.length ≤ 40
set_option maxHeartbeats 8000000 in
set_option maxRecDepth 100000 in
theorem mapped_own (n : Int) (l : List Stp) (a : Option Addr) (cap : Nat) (w : World) (g : Nat) (cb : Array Value) (ch : Nat → Stp → Stp) (hl : l.length ≤ 200) (hf : Full l) (hc : CellsP w a l)
    (heg : ∀ args w, (callFunc g args).run Tryd.prog w = .ok (.enter g args) w)
    (hch : ∀ (k : Nat) (v : Value) (w' : World), k < l.length → Ext w w' → OwnsK w' v (l.getD k stp0).1 → (∀ b, v.ownBlock = some b → w.heap.size ≤ b) → Calls Tryd.prog g (#[.int .i64 (k : Int), .agg #[v, .int .i64 (l.getD k stp0).2]] ++ cb) w' (ChPost (ch k (l.getD k stp0)) v w')) :
    Calls Tryd.prog 31 #[.agg #[.int .i64 n, .slice a l.length cap], .func (.func g) #[] cb] w (OwnPost (n, mapK ch l l.length) w) := by
  have HC := Lib.hid hc
  have HF := Lib.hid hf
  have HCH := Lib.hid hch
  clear hc hf hch
  obtain ⟨i0, hi, hi0, hi1, hi2⟩ := info_parts infoStp
  have hz : ∀ w, (zeroValue 65).run Tryd.prog w = .ok (.agg #[.slice none 0 0, .int .i64 0]) w := fun _ => by kernel_rfl
  go_enter Tryd.func31, Tryd.ntmps31
  go_wp2
  have E1 : Ext w (((w.alloc (.cells #[.int .i64 n, .slice a l.length cap] 24)).alloc (.cells #[.int .i64 0, .slice none 0 0] 24)).alloc (.cells #[.int .i64 n, .slice none 0 0] 24)) := extA
  have c1 : (((w.alloc (.cells #[.int .i64 n, .slice a l.length cap] 24)).alloc (.cells #[.int .i64 0, .slice none 0 0] 24)).alloc (.cells #[.int .i64 n, .slice none 0 0] 24)).cell? ⟨w.heap.size + 1, 0, none⟩ = some (.int .i64 0) := by go_simp
  have c2 : (((w.alloc (.cells #[.int .i64 n, .slice a l.length cap] 24)).alloc (.cells #[.int .i64 0, .slice none 0 0] 24)).alloc (.cells #[.int .i64 n, .slice none 0 0] 24)).cell? ⟨w.heap.size + 1, 1, none⟩ = some (.slice none 0 0) := by go_simp
  have c3 : (((w.alloc (.cells #[.int .i64 n, .slice a l.length cap] 24)).alloc (.cells #[.int .i64 0, .slice none 0 0] 24)).alloc (.cells #[.int .i64 n, .slice none 0 0] 24)).cell? ⟨w.heap.size + 1 + 1, 0, none⟩ = some (.int .i64 n) := by go_simp
  have c4 : (((w.alloc (.cells #[.int .i64 n, .slice a l.length cap] 24)).alloc (.cells #[.int .i64 0, .slice none 0 0] 24)).alloc (.cells #[.int .i64 n, .slice none 0 0] 24)).cell? ⟨w.heap.size + 1 + 1, 1, none⟩ = some (.slice none 0 0) := by go_simp
  have f1 : (((w.alloc (.cells #[.int .i64 n, .slice a l.length cap] 24)).alloc (.cells #[.int .i64 0, .slice none 0 0] 24)).alloc (.cells #[.int .i64 n, .slice none 0 0] 24)).frozen? ⟨w.heap.size + 1, 0, none⟩ = false := by go_simp
  have f2 : (((w.alloc (.cells #[.int .i64 n, .slice a l.length cap] 24)).alloc (.cells #[.int .i64 0, .slice none 0 0] 24)).alloc (.cells #[.int .i64 n, .slice none 0 0] 24)).frozen? ⟨w.heap.size + 1, 1, none⟩ = false := by go_simp
  have f4 : (((w.alloc (.cells #[.int .i64 n, .slice a l.length cap] 24)).alloc (.cells #[.int .i64 0, .slice none 0 0] 24)).alloc (.cells #[.int .i64 n, .slice none 0 0] 24)).frozen? ⟨w.heap.size + 1 + 1, 1, none⟩ = false := by go_simp
  generalize (((w.alloc (.cells #[.int .i64 n, .slice a l.length cap] 24)).alloc (.cells #[.int .i64 0, .slice none 0 0] 24)).alloc (.cells #[.int .i64 n, .slice none 0 0] 24)) = W at E1 c1 c2 c3 c4 f1 f2 f4 ⊢
  obtain ⟨o, ho⟩ : ∃ o, o = w.heap.size + 1 + 1 := ⟨_, rfl⟩
  have ho1 : w.heap.size + 1 < o := by omega
  have hoW : o < W.heap.size := by rw [ho]; exact cell_lt c3
  rw [← ho] at c3 c4 f4 ⊢
  have M0 : Hid (MpSt o W W n (mapK ch l 0)) := ⟨Below.refl _ _, c3, f4, _, c4, OwnsP.nil _ _, fun b hb => by cases hb⟩
  clear c3 c4 f4 ho
  go_loopw [14] (fun i wr => ∃ k : Nat, k ≤ l.length ∧ i = .int .i64 k ∧ Hid (MpSt o W wr n (mapK ch l k))) (fun i _ => l.length - (intOf i).toNat)
  case atStart => exact ⟨0, Nat.zero_le _, rfl, M0⟩
  case round =>
    obtain ⟨k, hk, rfl, M⟩ := hrel
    clear M0
    have hbe := M.out.be
    have E2 : Ext w wr := E1.trans' hbe (by omega)
    have hsz := hbe.size
    have how : o < wr.heap.size := by omega
    by_cases hlt : k < l.length
    · obtain ⟨b, off, v, ha, p1, hv, p2⟩ := HC.out k hlt
      subst ha
      obtain ⟨sa, sc, rfl, hcs, hls⟩ := hv
      have p1 := E2.cell p1
      have p2 := E2.cell p2
      have hfu := HF.out k hlt
      have HCK := Lib.hid (fun (v : Value) (w' : World) => HCH.out k v w' hlt)
      have HMS := Lib.hid (mapK_succ ch l k)
      have hmk := mapK_len ch l k
      obtain ⟨sb, so, hsa, _, _⟩ := hcs 0 hfu.1
      subst hsa
      have HCS := Lib.hid hcs
      clear hcs hls
      generalize l.getD k stp0 = x at p1 p2 HCS hfu HCK HMS
      obtain ⟨st, wait⟩ := x
      dsimp only at p1 p2 HCS hfu HCK HMS
      obtain ⟨hfu1, hfu2⟩ := hfu
      have z1 := cell_lt p1
      dsimp only at z1
      obtain ⟨ov, m1, m2, m3⟩ := M.out.v
      have m0 := M.out.c0
      have mf := M.out.f1
      have HM2 := Lib.hid m2
      have HM3 := Lib.hid m3
      clear m2 m3 M
      have EX : Ext wr (wr.alloc (.cells #[.slice (some ⟨sb, so, none⟩) st.length sc, .int .i64 wait] 65)).drew := extA
      have x0 : (wr.alloc (.cells #[.slice (some ⟨sb, so, none⟩) st.length sc, .int .i64 wait] 65)).drew.cell? ⟨wr.heap.size, 0, none⟩ = some (.slice (some ⟨sb, so, none⟩) st.length sc) := by go_simp
      have x1 : (wr.alloc (.cells #[.slice (some ⟨sb, so, none⟩) st.length sc, .int .i64 wait] 65)).drew.cell? ⟨wr.heap.size, 1, none⟩ = some (.int .i64 wait) := by go_simp
      have xz : wr.heap.size < (wr.alloc (.cells #[.slice (some ⟨sb, so, none⟩) st.length sc, .int .i64 wait] 65)).drew.heap.size := by simp
      go_wp2
      obtain ⟨xb, hxb⟩ : ∃ xb, xb = wr.heap.size := ⟨_, rfl⟩
      rw [← hxb] at x0 x1 xz how ⊢
      have HXB := Lib.hid hxb
      clear hxb
      refine wp_region_heldE 14 (fun w' => w'.cell? ⟨o, 1, none⟩ = some ov ∧ w'.cell? ⟨xb, 0, none⟩ = some (.slice (some ⟨sb, so, none⟩) st.length sc) ∧ w'.cell? ⟨xb, 1, none⟩ = some (.int .i64 wait)) (by kernel_rfl) ?_
      generalize (wr.alloc (.cells #[.slice (some ⟨sb, so, none⟩) st.length sc, .int .i64 wait] 65)).drew = W2 at EX x0 x1 xz ⊢
      have q1 := EX.cell m1
      have q0 := EX.cell m0
      have qf := (Below.frozen (p := ⟨o, 1, none⟩) EX (cell_lt m1)).trans mf
      have hS : W2.cell? ⟨o, 1, none⟩ = some ov ∧ W2.cell? ⟨xb, 0, none⟩ = some (.slice (some ⟨sb, so, none⟩) st.length sc) ∧ W2.cell? ⟨xb, 1, none⟩ = some (.int .i64 wait) := ⟨q1, x0, x1⟩
      ((refine eTk 0 ?_); (refine eTk 1 ?_); (refine eTk 2 ?_); (refine eTk 3 ?_); (refine eTk 4 ?_); (refine eTk 5 ?_); (refine eTk 7 ?_); (refine eTk 8 ?_))
      (refine wpAnyE_one (i := 6) (o := ?_) ?_ (by kernel_rfl) (fun K hK => ?_); rotate_left; (focus ((simp only [List.getElem?_toArray, List.getElem?_cons_succ, List.getElem?_cons_zero]; exact rfl))); go_simp; go_at_call 61; refine (CloneK_any st sb so sc _ hfu2 hfu1 (HCS.out.ext (E2.trans EX))).mono ?_; rintro e w4 ⟨cv, rfl, hO4, hb4, hE4⟩; have HO4 := Lib.hid hO4; have HB4 := Lib.hid hb4; obtain ⟨ca, cc, rfl, _⟩ := hO4.reads; clear hO4 hb4; go_wp2_with fail; refine hK.out _ _ ?_ (fun hHeld => ?_); rotate_left; clear hK K; (try simp only [Act.put, List.setIfInBounds_toArray, List.set_cons_zero, List.set_cons_succ]))
      rotate_left
      · exact ⟨hE4.cell q1, hE4.cell x0, hE4.cell x1⟩
      (refine eTk 9 ?_)
      (refine wpAnyE_one (i := 10) (o := ?_) ?_ (by kernel_rfl) (fun K hK => ?_); rotate_left; (focus ((simp only [List.getElem?_toArray, List.getElem?_cons_succ, List.getElem?_cons_zero]; exact rfl))); go_simp; refine (HCK.out _ _ ((E2.trans EX).trans hE4) HO4.out (fun b hb => Nat.le_trans (E2.trans EX).size (HB4.out b hb))).mono ?_; rintro e w5 ⟨u, rfl, hsu, hub, hua, hbel⟩; have B5 := hbel W2.heap.size hE4.size HB4.out; have HSU := Lib.hid hsu; have HUB := Lib.hid hub; have HUA := Lib.hid hua; obtain ⟨ua, uc, rfl, _, _⟩ := hsu; clear hub hua hbel; go_wp2_with fail; refine hK.out _ _ ?_ (fun hHeld => ?_); rotate_left; clear hK K; (try simp only [Act.put, List.setIfInBounds_toArray, List.set_cons_zero, List.set_cons_succ]))
      rotate_left
      · exact ⟨cellB B5 (by show o < _; omega) hHeld.1, cellB B5 xz hHeld.2.1, cellB B5 xz hHeld.2.2⟩
      generalize ch k (st, wait) = y at HSU HUB HUA HMS ⊢
      obtain ⟨yst, ywait⟩ := y
      dsimp only at HSU HUB HUA HMS ⊢
      have E25 : Ext W2 w5 := hE4.trans' B5 (Nat.le_refl _)
      have E6 : Ext w5 (w5.alloc (.cells #[.slice ua yst.length uc, .int .i64 ywait] 65)) := extA
      (refine wpAnyE_one (i := 11) (o := ?_) ?_ (by kernel_rfl) (fun K hK => ?_); rotate_left; (focus ((simp only [List.getElem?_toArray, List.getElem?_cons_succ, List.getElem?_cons_zero]; exact rfl))); go_simp; refine hK.out _ _ ?_ (fun hHeld => ?_); rotate_left; clear hK K; (try simp only [Act.put, List.setIfInBounds_toArray, List.set_cons_zero, List.set_cons_succ]))
      rotate_left
      · exact ⟨E6.cell hHeld.1, E6.cell hHeld.2.1, E6.cell hHeld.2.2⟩
      have ho6 : OwnsP (fun b => b ≤ o) (w5.alloc (.cells #[.slice ua yst.length uc, .int .i64 ywait] 65)) ov (mapK ch l k) := HM2.out.chg (Chg.ext ((EX.trans E25).trans E6)) (fun b hb e => by have := HM3.out b hb; omega)
      have HO6 := Lib.hid ho6
      clear ho6
      have hl6 : (mapK ch l k).length = k := mapK_len ch l k
      refine wpAnyE_one (i := 12) (o := ?_) ?_ (by kernel_rfl) (fun K hK => ?_)
      rotate_left
      · simp only [List.getElem?_toArray, List.getElem?_cons_succ, List.getElem?_cons_zero]; exact rfl
      refine step_append1 rfl _ _ 22 rfl 65 i0 (.agg #[.slice none 0 0, .int .i64 0]) 2 32 Tryd.underlying22 hi hi0 hi1 hi2 rfl (by decide) ov (mapK ch l k).length _ rfl (Classical.choose_spec HO6.out).2.1 ⟨w5.heap.size, 0, none⟩ 1 1 (by decide) [.slice ua yst.length uc, .int .i64 ywait] rfl rfl (cells_one _ _ _) (by intro u hu; simp at hu; rcases hu with rfl | rfl <;> rfl) (by unfold maxLen; omega) (by omega) (fun v' w7 hown7 hend7 => ?_)
      have O7 : OwnsP (fun b => b ≤ o) w7 v' (mapK ch l k ++ [(yst, ywait)]) := by
        refine OwnsP.app HO6.out ?_ (fun b hb => by have := E6.size; have := E25.size; omega) hown7 hend7
        obtain ⟨ua', uc', hu1, hu2, hu3⟩ := HSU.out.ext E6
        refine ⟨ua', uc', hu1, hu2, hu3, fun b1 o1 hb1 hne hx => ?_⟩
        subst hb1
        have hb2 : W2.heap.size ≤ b1 := by
          rcases HUB.out b1 (by rw [hu1]; obtain ⟨_, _, hq, hq2⟩ := HUA.out; rw [hu1] at hq; cases hq; have := hq2 b1 o1 rfl; subst this; rfl) with h | h
          · exact HB4.out b1 h
          · exact Nat.le_trans hE4.size h
        rcases hx with hx | hx
        · omega
        · have := rowLt (Classical.choose_spec HM2.out).2.1 hx
          have h9 := HXB.out
          omega
      have hgr := hend7.chg
      have hov : ∀ b, ov.ownBlock = some b → b < xb := fun b hb => by rw [HXB.out]; exact rowLt (Classical.choose_spec HM2.out).2.1 hb
      have B7 : Below o (w5.alloc (.cells #[.slice ua yst.length uc, .int .i64 ywait] 65)) w7 := hend7.below (n := o) (by have := E6.size; have := E25.size; omega) (fun b hb => by have := HM3.out b hb; omega)
      have V7 := hend7.ge (n := o + 1) (by have := E6.size; have := E25.size; omega) (fun b hb => HM3.out b hb)
      have same7 : ∀ (p : Addr) (v : Value), p.block = o ∨ p.block = xb → (w5.alloc (.cells #[.slice ua yst.length uc, .int .i64 ywait] 65)).cell? p = some v → w7.cell? p = some v ∧ w7.frozen? p = (w5.alloc (.cells #[.slice ua yst.length uc, .int .i64 ywait] 65)).frozen? p := fun p v hp hc => by
        have h1 := hgr.1 p.block (cell_lt hc) (fun e => by
          rcases hp with hp | hp
          · have := HM3.out _ e; omega
          · have := hov _ e; omega)
        exact ⟨(World.cell?_of_block (w := w5.alloc (.cells #[.slice ua yst.length uc, .int .i64 ywait] 65)) h1).trans hc, World.frozen?_of_block (w := w5.alloc (.cells #[.slice ua yst.length uc, .int .i64 ywait] 65)) h1⟩
      refine hK.out _ _ ⟨(same7 ⟨o, 1, none⟩ _ (.inl rfl) hHeld.1).1, (same7 ⟨xb, 0, none⟩ _ (.inr rfl) hHeld.2.1).1, (same7 ⟨xb, 1, none⟩ _ (.inr rfl) hHeld.2.2).1⟩ (fun hHeld => ?_)
      clear hK K
      (try simp only [Act.put, List.setIfInBounds_toArray, List.set_cons_zero, List.set_cons_succ])
      (refine eTk 13 ?_)
      have HO7 := Lib.hid O7
      have HV7 := Lib.hid V7
      obtain ⟨va, vc, hvv, _, _⟩ := O7.reads
      have hlen : (mapK ch l k ++ [(yst, ywait)]).length = k + 1 := by rw [List.length_append, hl6]; rfl
      rw [hlen] at hvv
      subst hvv
      clear O7 V7 hown7 hend7 hgr hlen
      have r0 := (same7 ⟨o, 0, none⟩ _ (.inl rfl) (E6.cell (E25.cell q0))).1
      obtain ⟨r1, rf0⟩ := same7 ⟨o, 1, none⟩ _ (.inl rfl) (E6.cell (E25.cell q1))
      have rf := (rf0.trans (Below.frozen (p := ⟨o, 1, none⟩) E6 (cell_lt (E25.cell q1)))).trans ((Below.frozen (p := ⟨o, 1, none⟩) E25 (cell_lt q1)).trans qf)
      clear rf0
      clear hHeld same7
      (refine wpAnyE_free (i := 14) (o := ?_) ?_ (by kernel_rfl) (by kernel_rfl) (fun K hK => ?_); rotate_left; (focus ((simp only [List.getElem?_toArray, List.getElem?_cons_succ, List.getElem?_cons_zero]; exact rfl))); go_simp; refine hK.out _ _ ?_; clear hK K; (try simp only [Act.put, List.setIfInBounds_toArray, List.set_cons_zero, List.set_cons_succ]))
      refine wpAnyE_done (by kernel_rfl) ?_ _
      have MN : Hid (MpSt o W (w7.setCell ⟨o, 1, none⟩ (.slice va (k + 1) vc)) n (mapK ch l (k + 1))) := by
        show MpSt _ _ _ _ _
        rw [HMS.out]
        have BB : Below o W w7 := (hbe.trans (((EX.trans E25).trans E6).mono (by have := HXB.out; omega))).trans B7
        refine ⟨BB.setCell (p := ⟨o, 1, none⟩) (Nat.le_refl _) _, ?_, by rw [World.frozen?_setCell]; exact rf, _, World.cell?_setCell_same _ _ _ r1, HO7.out.chg (Chg.setCell (B := fun b => b ≤ o) ⟨o, 1, none⟩ _ (Nat.le_refl _)) (fun b hb e => by have := HV7.out b hb; omega), fun b hb => by have := HV7.out b hb; omega⟩
        rw [World.cell?_setCell_other _ _ _ _ (fun h => by simp only [Addr.mk.injEq] at h; omega)]
        exact r0
      generalize w7.setCell ⟨o, 1, none⟩ (.slice va (k + 1) vc) = w8 at MN ⊢
      go_wp2
      refine ⟨⟨k + 1, by omega, by go_num, MN⟩, by simp [intOf]; omega⟩
    · have hke : k = l.length := by omega
      subst hke
      obtain ⟨v, m1, m2, m3⟩ := M.out.v
      have m0 := M.out.c0
      have hr := m2.reads
      obtain ⟨va, vc, rfl, hva, hvl⟩ := hr
      have HVA := Lib.hid hva
      have HVL := Lib.hid hvl
      have d1 := cellB hbe (p := ⟨w.heap.size + 1, 0, none⟩) ho1 c1
      have d2 := cellB hbe (p := ⟨w.heap.size + 1, 1, none⟩) ho1 c2
      have g1 := (Below.frozen (p := ⟨w.heap.size + 1, 0, none⟩) hbe ho1).trans f1
      have g2 := (Below.frozen (p := ⟨w.heap.size + 1, 1, none⟩) hbe ho1).trans f2
      have hcc : Chg (fun b => b ≤ o) wr ((wr.setCell ⟨w.heap.size + 1, 0, none⟩ (.int .i64 n)).setCell ⟨w.heap.size + 1, 1, none⟩ (.slice va (mapK ch l l.length).length vc)) :=
        (Chg.setCell (B := fun b => b ≤ o) ⟨w.heap.size + 1, 0, none⟩ _ (by show w.heap.size + 1 ≤ o; omega)).trans (Chg.setCell (B := fun b => b ≤ o) ⟨w.heap.size + 1, 1, none⟩ _ (by show w.heap.size + 1 ≤ o; omega))
      have HFIN : Hid (OwnsP (fun b => b ≤ o) ((wr.setCell ⟨w.heap.size + 1, 0, none⟩ (.int .i64 n)).setCell ⟨w.heap.size + 1, 1, none⟩ (.slice va (mapK ch l l.length).length vc)) (.slice va (mapK ch l l.length).length vc) (mapK ch l l.length)) := m2.chg hcc (fun b hb e => by have := m3 b hb; omega)
      have HOB : Hid (∀ b, (Value.slice va (mapK ch l l.length).length vc).ownBlock = some b → o < b) := m3
      have how : w.heap.size ≤ o := by omega
      clear hcc
      clear hva hvl m2 m3 M
      have EF : Ext w ((wr.setCell ⟨w.heap.size + 1, 0, none⟩ (.int .i64 n)).setCell ⟨w.heap.size + 1, 1, none⟩ (.slice va (mapK ch l l.length).length vc)) := extA
      go_wp2
      refine bodyPost_ret (v := .agg #[.int .i64 n, .slice va (mapK ch l l.length).length vc]) (by rw [results_cell1 rfl]; go_simp) rfl ⟨o, _, how, rfl, HFIN.out, HOB.out, EF⟩
end Go.Proofs.YtdolibeceijnnaaDoor
namespace Go.Proofs.YtdolibeceijnnaaDoor
open Go.RowKit
set_option maxHeartbeats 2000000 in
theorem copied1_any (st : List Stk) (wait : Int) (k : Nat) (v : Value) (w : World) (ho : OwnsK w v st) :
    Calls Tryd.prog 63 #[.int .i64 (k : Int), .agg #[v, .int .i64 wait]] w (ChPost (st, wait) v w) := by
  have HO := Lib.hid ho
  obtain ⟨a, c, rfl, _, _, hb⟩ := ho.reads
  have HB := Lib.hid hb
  clear ho hb
  go_enter Tryd.func63, Tryd.ntmps63
  go_wp2
  have E : Ext w ((w.alloc (.cells #[.slice a st.length c, .int .i64 wait] 65)).alloc (.cells #[.slice a st.length c, .int .i64 wait] 65)) := extA
  refine bodyPost_ret (v := .agg #[.slice a st.length c, .int .i64 wait]) (by rw [results_cell1 rfl]; go_simp) rfl ⟨_, rfl, (HO.out.ext E).slice, fun b hb => .inl hb, ⟨a, c, rfl, fun b off h => ?_⟩, fun n hn _ => E.mono hn⟩
  subst h
  by_cases hne : st = []
  · have := HO.out.2
    subst hne
    rcases this with ⟨h1, _⟩ | ⟨g, cap, cur, h1, _⟩
    · cases h1
    · cases h1; rfl
  · exact (HB.out b off rfl hne).1
theorem mapK_id (l : List Stp) : mapK (fun _ x => x) l l.length = l := by
  unfold mapK
  apply list_ext_getD stp0 (by simp)
  intro j hj
  have : j < l.length := by simpa using hj
  simp [List.getD, this]
theorem copied_own (n : Int) (l : List Stp) (a : Option Addr) (cap : Nat) (w : World) (hl : l.length ≤ 200) (hf : Full l) (hc : CellsP w a l) :
    Calls Tryd.prog 34 #[.agg #[.int .i64 n, .slice a l.length cap]] w (OwnPost (n, l) w) := by
  have HC := Lib.hid hc
  have HF := Lib.hid hf
  have HL := Lib.hid hl
  clear hc hf hl
  go_enter Tryd.func34, Tryd.ntmps34
  go_wp2_with fail
  have E1 : Ext w ((w.alloc (.cells #[.int .i64 n, .slice a l.length cap] 24)).alloc (.cells #[.int .i64 0, .slice none 0 0] 24)) := extA
  have c1 : ((w.alloc (.cells #[.int .i64 n, .slice a l.length cap] 24)).alloc (.cells #[.int .i64 0, .slice none 0 0] 24)).cell? ⟨w.heap.size + 1, 0, none⟩ = some (.int .i64 0) := by go_simp
  have c2 : ((w.alloc (.cells #[.int .i64 n, .slice a l.length cap] 24)).alloc (.cells #[.int .i64 0, .slice none 0 0] 24)).cell? ⟨w.heap.size + 1, 1, none⟩ = some (.slice none 0 0) := by go_simp
  have f1 : ((w.alloc (.cells #[.int .i64 n, .slice a l.length cap] 24)).alloc (.cells #[.int .i64 0, .slice none 0 0] 24)).frozen? ⟨w.heap.size + 1, 0, none⟩ = false := by go_simp
  have f2 : ((w.alloc (.cells #[.int .i64 n, .slice a l.length cap] 24)).alloc (.cells #[.int .i64 0, .slice none 0 0] 24)).frozen? ⟨w.heap.size + 1, 1, none⟩ = false := by go_simp
  generalize ((w.alloc (.cells #[.int .i64 n, .slice a l.length cap] 24)).alloc (.cells #[.int .i64 0, .slice none 0 0] 24)) = W at E1 c1 c2 f1 f2 ⊢
  refine (mapped_own n l a cap W 63 #[] (fun _ x => x) HL.out HF.out (HC.out.ext E1) (enters_of Tryd.func63 (by kernel_rfl) rfl) (fun k v w' _ _ ho _ => copied1_any _ _ k v w' ho)).mono ?_
  rintro e w2 ⟨o, v, ho, rfl, hv, hob, hE⟩
  rw [mapK_id] at hv
  have HV := Lib.hid hv
  have HOB := Lib.hid hob
  have hz1 : w.heap.size + 1 < W.heap.size := cell_lt c1
  obtain ⟨ua, uc, rfl, _, _⟩ := hv.reads
  have g1 := (Below.frozen (p := ⟨w.heap.size + 1, 0, none⟩) hE (cell_lt c1)).trans f1
  have g2 := (Below.frozen (p := ⟨w.heap.size + 1, 1, none⟩) hE (cell_lt c2)).trans f2
  have c1 := hE.cell c1
  have c2 := hE.cell c2
  clear hv hob
  dsimp only
  go_wp2
  have EF : Ext w ((w2.setCell ⟨w.heap.size + 1, 0, none⟩ (.int .i64 n)).setCell ⟨w.heap.size + 1, 1, none⟩ (.slice ua l.length uc)) := extA
  have hc : Chg (fun b => b ≤ o) w2 ((w2.setCell ⟨w.heap.size + 1, 0, none⟩ (.int .i64 n)).setCell ⟨w.heap.size + 1, 1, none⟩ (.slice ua l.length uc)) :=
    (Chg.setCell (B := fun b => b ≤ o) ⟨w.heap.size + 1, 0, none⟩ _ (by show w.heap.size + 1 ≤ o; omega)).trans (Chg.setCell (B := fun b => b ≤ o) ⟨w.heap.size + 1, 1, none⟩ _ (by show w.heap.size + 1 ≤ o; omega))
  exact bodyPost_ret (v := .agg #[.int .i64 n, .slice ua l.length uc]) (by rw [results_cell1 rfl]; go_simp) rfl ⟨o, _, by omega, rfl, HV.out.chg hc (fun b hb e => by have := HOB.out b hb; omega), HOB.out, EF⟩
theorem copied_any (n : Int) (l : List Stp) (a : Option Addr) (cap : Nat) (w : World) (hl : l.length ≤ 200) (hf : Full l) (hc : CellsP w a l) :
    Calls Tryd.prog 34 #[.agg #[.int .i64 n, .slice a l.length cap]] w (SeqPost (n, l) w) := (copied_own n l a cap w hl hf hc).mono fun _ _ h => h.seq
end Go.Proofs.YtdolibeceijnnaaDoor
namespace Go.Proofs.YtdolibeceijnnaaDoor
open Go.RowKit
theorem wpList_append_run {P : Program} (w : World) {ops : Array Oper} {rest : List Oper} {o : Oper} {a : Act} {Q : Exit → Act → World → Prop} (hgd : o.guard = none) (s x : Operand) (t u : TypeId)
    (ho : o.op = .call { callee := .builtin .append, args := #[s, x], argTypes := #[t, u] }) (v y : Value) (hs : a.eval s = v) (hx : a.eval x = y)
    (v' : Value) (w' : World) (hr : (Builtin.append_ #[t, u] o.type #[v, y]).run P w = .ok v' w')
    (h : wpList P ops Q rest (a.put o.dst v') w') : wpList P ops Q (o :: rest) a w := by
  refine wpList_plain hgd fun K hK => ?_
  unfold Oper.wp execOp
  simp only [ho, resolve, invoke, builtin, Sem.run_bind, Sem.run_pure, Result.andThen_ok, List.map_toArray, List.map_cons, List.map_nil, hs, hx, hr]
  exact hK _ _ h
theorem zeroCells_size (z : Array Value) (n : Nat) : (Builtin.zeroCells z n).size = n * z.size := by unfold Builtin.zeroCells; simp
def GrowOk (e : TypeId) (size _n : Nat) (w : World) (r : Ending) (w' : World) : Prop := ∃ v, r = .returned v ∧ w'.ownsRow 0 e size v 0 [] ∧ (∃ g, v.ownBlock = some g ∧ w.heap.size ≤ g) ∧ Ext w w'
set_option maxHeartbeats 2000000 in
set_option maxRecDepth 100000 in
theorem GrowP_any (n : Nat) (w : World) (h0 : 0 < n) (hn : n ≤ 200) :
    Calls Tryd.prog 64 #[.slice none 0 0, .int .i64 (n : Int)] w (GrowOk 65 2 n w) := by
  obtain ⟨cp, cs, hap, hcp⟩ : ∃ (cp : World → Nat) (cs : World → Array Value), (∀ w' : World, (Builtin.append_ #[22, 3] 22 #[.slice none 0 0, .int .i64 (n : Int)]).run Tryd.prog w' = .ok (.slice (some ⟨w'.heap.size, 0, none⟩) n (cp w')) (w'.drew.alloc (.cells (cs w') 65))) ∧ ∀ w', n ≤ cp w' ∧ cp w' ≤ maxLen ∧ (cs w').size = cp w' * 2 := by
    obtain ⟨i0, hi, hi0, hi1, hi2⟩ := info_parts infoStp
    refine ⟨fun w' => grownCap w' n 0 65, _, fun w' => Lib.run_append_nil_zeros (P := Tryd.prog) w' 22 3 22 65 i0 (.agg #[.slice none 0 0, .int .i64 0]) .i64 .i64 Tryd.underlying22 Tryd.underlying3 hi hi0 n h0 (by rw [hi1]; omega) (by omega) (by rw [hi2]; omega), fun w' => ?_⟩
    have h1 := grownCap_ge w' n 0 65
    refine ⟨h1, grownCap_le_maxLen w' n 0 65 (by unfold maxLen; omega), ?_⟩
    rw [Array.size_append, zeroCells_size, zeroCells_size]
    show n * 2 + (grownCap w' n 0 65 - n) * 2 = grownCap w' n 0 65 * 2
    omega
  have HCP := Lib.hid (hcp w)
  have HAP := Lib.hid (hap w)
  clear hcp hap
  go_enter Tryd.func64, Tryd.ntmps64
  go_wp2_with (at_builtin; refine wpList_append_run _ rfl _ _ 22 3 rfl (.slice none 0 0) (.int .i64 (n : Int)) rfl rfl _ _ HAP.out ?_)
  have hcap := HCP.out
  generalize cp w = c at hcap ⊢
  generalize cs w = cells at hcap ⊢
  have E1 : Ext w (w.drew.alloc (.cells cells 65)) := extA
  have HO : Hid ((w.drew.alloc (.cells cells 65)).ownsRow 0 65 2 (.slice (some ⟨w.heap.size, 0, none⟩) 0 c) 0 []) := by
    have := World.ownsRow_made (w := w.drew) (base := 0) (e := 65) (size := 2) cells c (Nat.zero_le _) hcap.2.1 hcap.2.2
    exact this
  obtain ⟨hc1, hc2, hc3⟩ := hcap
  have HC3 := Lib.hid hc3
  clear hc3
  unfold maxLen at hc2
  go_wp2
  go_ret
  exact ⟨_, rfl, HO.out, ⟨_, rfl, Nat.le_refl _⟩, E1⟩
theorem run_append_empty {P : Program} (w : World) (t ty e : TypeId) (i : TypeInfo) (ht : P.underlying t = some (.slice e)) (hi : P.info? e = some i) (g : Addr) (n cap : Nat) (hn : n ≤ cap) (a : Option Addr) (c : Nat) :
    (Builtin.append_ #[t, t] ty #[.slice (some g) n cap, .slice a 0 c]).run P w = .ok (.slice (some g) n cap) w := by
  cases a <;> simp [Builtin.append_, run_underlying ht, sizeOf, typeInfo, hi, hn, Builtin.lenOf, Builtin.firstCells, loadCells, storeCells, loadCellsFrom]
theorem flat2_len_pairP (ps : List (Value × Stp)) : (flat2 (pairP ps)).length = ps.length * 2 := by rw [flat2_length]; simp [pairP]
theorem CellsP.pairs {w : World} {b off : Nat} {l : List Stp} (h : CellsP w (some ⟨b, off, none⟩) l) :
    ∃ ps : List (Value × Stp), ps.map (·.2) = l ∧ (∀ j u, (flat2 (pairP ps))[j]? = some u → w.cell? ((⟨b, off, none⟩ : Addr).add j) = some u) ∧ (∀ p ∈ ps, SliceK w p.1 p.2.1) ∧ ∀ u ∈ flat2 (pairP ps), u.oneCell' = true := by
  have hp : ∀ i, i < l.length → ∃ v, w.cell? ⟨b, off + i * 2, none⟩ = some v ∧ SliceK w v (l.getD i stp0).1 ∧ w.cell? ⟨b, off + i * 2 + 1, none⟩ = some (.int .i64 (l.getD i stp0).2) := fun i hi => by
    obtain ⟨b', off', v, h1, h2, h3, h4⟩ := h i hi
    cases h1
    exact ⟨v, h2, h3, h4⟩
  refine ⟨(List.range l.length).map fun i => ((w.cell? ⟨b, off + i * 2, none⟩).getD undef, l.getD i stp0), ?_, ?_, ?_, ?_⟩
  · apply list_ext_getD stp0 (by simp)
    intro j hj
    have : j < l.length := by simpa using hj
    simp [List.getD, this]
  · intro j u hu
    obtain ⟨i, hi, hh⟩ := flat2_two hu
    have hi' : i < l.length := by simpa [pairP] using hi
    obtain ⟨v, h1, h2, h3⟩ := hp i hi'
    rw [Addr.add_lit]
    rcases hh with ⟨rfl, rfl⟩ | ⟨rfl, rfl⟩
    · rw [h1]; simp [pairP, h1]
    · rw [← Nat.add_assoc, h3]; simp [pairP, List.getD, hi']
  · intro p hp'
    obtain ⟨i, hi, rfl⟩ := List.mem_map.1 hp'
    obtain ⟨v, h1, h2, h3⟩ := hp i (List.mem_range.1 hi)
    rw [h1]
    exact h2
  · intro u hu
    obtain ⟨j, hj, e⟩ := List.mem_iff_getElem.1 hu
    have hju := List.getElem?_eq_getElem hj
    rw [e] at hju
    obtain ⟨i, hi, hh⟩ := flat2_two hju
    have hi' : i < l.length := by simpa [pairP] using hi
    obtain ⟨v, h1, ⟨_, _, h2, _⟩, h3⟩ := hp i hi'
    rcases hh with ⟨_, h⟩ | ⟨_, h⟩
    · rw [h]; simp [pairP, h1, h2]; rfl
    · rw [h]; simp [pairP]; rfl
theorem rowP_reads {w : World} {v : Value} {ps : List (Value × Stp)} (h : w.ownsRow 0 65 2 v ps.length (flat2 (pairP ps))) (hs : ∀ p ∈ ps, SliceK w p.1 p.2.1) : SliceP w v (ps.map (·.2)) := by
  obtain ⟨a, cap, hv, hm, hr⟩ := rowReads h
  refine ⟨a, cap, by rw [hv]; simp, fun i hi => ?_, by simpa using rowRoom h hv⟩
  have hip : i < ps.length := by simpa using hi
  have hg := flat2_get (pairP ps) i (by simpa [pairP] using hip)
  have e1 : (pairP ps)[i]'(by simpa [pairP] using hip) = (ps[i].1, .int .i64 ps[i].2.2) := by simp [pairP]
  rw [e1] at hg
  have ey : (ps.map (·.2)).getD i stp0 = ps[i].2 := by simp [List.getD, hip]
  obtain ⟨b, hb, _, g1, _⟩ := hr _ _ hg.1
  obtain ⟨b', hb', _, g2, _⟩ := hr _ _ hg.2
  rw [hb] at hb'
  cases hb'
  exact ⟨b, 0, ps[i].1, hb, by rw [Nat.zero_add]; exact g1, by rw [ey]; exact hs _ (List.getElem_mem hip), by rw [ey, Nat.zero_add]; exact g2⟩
def PairsAt (w : World) (a : Option Addr) (ps : List (Value × Stp)) : Prop :=
  (ps = [] ∨ ∃ b off, a = some ⟨b, off, none⟩ ∧ ∀ j u, (flat2 (pairP ps))[j]? = some u → w.cell? ((⟨b, off, none⟩ : Addr).add j) = some u) ∧ (∀ p ∈ ps, SliceK w p.1 p.2.1) ∧ ∀ u ∈ flat2 (pairP ps), u.oneCell' = true
theorem CellsP.pairsAt {w : World} {a : Option Addr} {l : List Stp} (h : CellsP w a l) : ∃ ps : List (Value × Stp), ps.map (·.2) = l ∧ PairsAt w a ps := by
  cases l with
  | nil => exact ⟨[], rfl, .inl rfl, (fun p hp => by cases hp), (fun u hu => by simp [pairP, flat2] at hu)⟩
  | cons x l =>
    obtain ⟨b, off, _, ha, _⟩ := h 0 (by simp)
    subst ha
    obtain ⟨ps, h1, h2, h3, h4⟩ := h.pairs
    exact ⟨ps, h1, .inr ⟨b, off, rfl, h2⟩, h3, h4⟩
theorem PairsAt.ext {w w' : World} {a : Option Addr} {ps : List (Value × Stp)} (h : PairsAt w a ps) (k : Ext w w') : PairsAt w' a ps := by
  obtain ⟨h1, h2, h3⟩ := h
  refine ⟨?_, fun p hp => (h2 p hp).ext k, h3⟩
  rcases h1 with h1 | ⟨b, off, ha, hc⟩
  · exact .inl h1
  · exact .inr ⟨b, off, ha, fun j u hu => k.cell (hc j u hu)⟩
end Go.Proofs.YtdolibeceijnnaaDoor
namespace Go.Proofs.YtdolibeceijnnaaDoor
open Go.RowKit
def ConcatPost (l : List Stp) (w : World) (e : Ending) (w' : World) : Prop := ∃ a cap, e = .returned (.slice a l.length cap) ∧ CellsP w' a l ∧ l.length ≤ maxLen ∧ Ext w w'
def firstPs (p1 p2 : List (Value × Stp)) (k : Nat) : List (Value × Stp) := if k = 0 then [] else if k = 1 then p1 else p1 ++ p2
theorem pairP_append (ps q : List (Value × Stp)) : flat2 (pairP (ps ++ q)) = flat2 (pairP ps) ++ flat2 (pairP q) := by unfold pairP; rw [List.map_append, flat2_append]
def OwnsB (B : Nat) (w : World) (v : Value) (ps : List (Value × Stp)) : Prop := w.ownsRow 0 65 2 v ps.length (flat2 (pairP ps)) ∧ ∃ g, v.ownBlock = some g ∧ B ≤ g
theorem run_appP {B : Nat} {w : World} {v : Value} {ps q : List (Value × Stp)} {a : Option Addr} (c n : Nat) (h : OwnsB B w v ps) (hq : PairsAt w a q) (hn : n = q.length) (hl : ps.length + q.length ≤ 200) (hB : B ≤ w.heap.size) :
    ∃ v' w', (Builtin.append_ #[22, 22] 22 #[v, .slice a n c]).run Tryd.prog w = .ok v' w' ∧ OwnsB B w' v' (ps ++ q) ∧ Below B w w' := by
  obtain ⟨i0, hi, hi0, hi1, hi2⟩ := info_parts infoStp
  obtain ⟨hown, g, hg, hgB⟩ := h
  subst hn
  by_cases h0 : q.length = 0
  · have hqe : q = [] := List.eq_nil_of_length_eq_zero h0
    subst hqe
    rcases hown.2 with ⟨hv, _⟩ | ⟨g', cap, cur, hv, _, _, hcap, _⟩
    · rw [hv] at hg; cases hg
    · refine ⟨v, w, ?_, ?_, Below.refl _ _⟩
      · rw [hv]; exact run_append_empty w _ _ _ i0 Tryd.underlying22 hi _ _ _ hcap _ _
      · rw [List.append_nil]; exact ⟨hown, g, hg, hgB⟩
  · rcases hq.1 with hq1 | ⟨b, off, rfl, hc⟩
    · rw [hq1] at h0; exact absurd rfl h0
    · obtain ⟨v', w', hr, h2, h3⟩ := run_append1 (P := Tryd.prog) w 22 22 65 i0 (.agg #[.slice none 0 0, .int .i64 0]) 2 32 Tryd.underlying22 hi hi0 hi1 hi2 rfl (by decide) v ps.length _ hown ⟨b, off, none⟩ q.length c (by omega) (flat2 (pairP q)) (flat2_len_pairP q) hc hq.2.2 (by unfold maxLen; omega) (by omega)
      refine ⟨v', w', hr, ⟨?_, ?_⟩, h3.below hB (fun b hb => by rw [hg] at hb; cases hb; exact hgB)⟩
      · rw [List.length_append, pairP_append]; exact h2
      · rcases h3 with ⟨e1, _, _⟩ | ⟨e1, _⟩
        · exact ⟨g, by rw [e1]; exact hg, hgB⟩
        · exact ⟨_, e1, hB⟩
set_option maxHeartbeats 4000000 in
set_option maxRecDepth 100000 in
theorem ConcatP_any (p1 p2 : List (Value × Stp)) (l : List Stp) (hpl : (p1 ++ p2).map (·.2) = l) (a1 a2 : Option Addr) (c1 c2 cb : Nat) (w : World) (h1 : PairsAt w a1 p1) (h2 : PairsAt w a2 p2) (h0 : 0 < p1.length + p2.length) (hl1 : p1.length ≤ 100) (hl2 : p2.length ≤ 100)
    (e1 : w.cell? ⟨cb, 0, none⟩ = some (.slice a1 p1.length c1)) (e2 : w.cell? ⟨cb, 1, none⟩ = some (.slice a2 p2.length c2)) :
    Calls Tryd.prog 35 #[.slice (some ⟨cb, 0, none⟩) 2 2] w (ConcatPost l w) := by
  have HPL := Lib.hid hpl
  clear hpl
  have H1 := Lib.hid h1
  have H2 := Lib.hid h2
  clear h1 h2
  obtain ⟨i0, hi, hi0, hi1, hi2⟩ := info_parts infoStp
  obtain ⟨n1, hn1⟩ : ∃ n, n = p1.length := ⟨_, rfl⟩
  obtain ⟨n2, hn2⟩ : ∃ n, n = p2.length := ⟨_, rfl⟩
  rw [← hn1] at h0 hl1 e1
  rw [← hn2] at h0 hl2 e2
  have HN1 := Lib.hid hn1
  have HN2 := Lib.hid hn2
  clear hn1 hn2
  go_enter Tryd.func35, Tryd.ntmps35
  go_wp2
  go_loop [11, 3] (fun i z => ∃ k : Nat, k ≤ 2 ∧ i = .int .i64 k ∧ ∃ q : Nat, z = .int .i64 q ∧ (k = 0 → q = 0) ∧ (k = 1 → q = n1) ∧ (k = 2 → q = n1 + n2)) (fun i _ => 2 - (intOf i).toNat)
  case atStart => exact ⟨0, by omega, rfl, 0, rfl, by omega, by omega, by omega⟩
  case round =>
    obtain ⟨k, hk, rfl, q, rfl, q0, q1, q2⟩ := hrel
    have : k = 0 ∨ k = 1 ∨ k = 2 := by omega
    rcases this with rfl | rfl | rfl
    · have hq := q0 rfl
      subst hq
      clear q0 q1 q2
      go_wp2
      refine ⟨⟨1, by omega, by go_num, n1, by go_num, by omega, by omega, by omega⟩, by simp [intOf]⟩
    · have hq := q1 rfl
      subst hq
      clear q0 q1 q2
      go_wp2
      refine ⟨⟨2, by omega, by go_num, q + n2, by go_num, by omega, by omega, by omega⟩, by simp [intOf]⟩
    · have hq := q2 rfl
      subst hq
      clear q0 q1 q2
      have hgr := GrowP_any (n1 + n2) w h0 (by omega)
      rw [Int.natCast_add] at hgr
      have HGR := Lib.hid hgr
      clear hgr
      go_wp2_with fail
      refine HGR.out.mono ?_
      rintro e w1 ⟨v0, rfl, hown0, hv0, hE⟩
      have HO0 : Hid (OwnsB w.heap.size w1 v0 (firstPs p1 p2 0)) := ⟨hown0, hv0⟩
      have HE1 := Lib.hid e1
      have HE2 := Lib.hid e2
      have e1 := hE.cell e1
      have e2 := hE.cell e2
      clear hown0 hv0 HGR
      have hsz := hE.size
      go_wp2
      go_loopw [27, 6] (fun i v wr => ∃ k : Nat, k ≤ 2 ∧ i = .int .i64 k ∧ (∃ vv, v = vv ∧ Hid (OwnsB w.heap.size wr vv (firstPs p1 p2 k))) ∧ Ext w wr) (fun i _ _ => 2 - (intOf i).toNat)
      case atStart => exact ⟨0, by omega, rfl, ⟨_, rfl, HO0⟩, hE⟩
      case round =>
        obtain ⟨k, hk, rfl, ⟨vv, hvv, HO⟩, he⟩ := hrel
        obtain rfl := hvv.symm
        have e1 := he.cell HE1.out
        have e2 := he.cell HE2.out
        have hsz := he.size
        have : k = 0 ∨ k = 1 ∨ k = 2 := by omega
        rcases this with rfl | rfl | rfl
        · obtain ⟨v', w5, hrun, hO5, hB5⟩ := run_appP c1 n1 HO.out (H1.out.ext he) HN1.out (by have := HN1.out; simp [firstPs]; omega) hsz
          have HRUN := Lib.hid hrun
          have HO5 : Hid (OwnsB w.heap.size w5 v' (firstPs p1 p2 1)) := by show OwnsB _ _ _ _; simpa [firstPs] using hO5
          have hE5 : Ext w w5 := he.trans' hB5 (Nat.le_refl _)
          clear hrun hO5 hB5
          go_wp2_with (at_builtin; refine wpList_append_run _ rfl _ _ 22 22 rfl vv (.slice a1 n1 c1) rfl rfl _ _ HRUN.out ?_)
          go_wp2
          refine ⟨⟨1, by omega, by go_num, ⟨v', rfl, HO5⟩, hE5⟩, by simp [intOf]⟩
        · obtain ⟨v', w5, hrun, hO5, hB5⟩ := run_appP c2 n2 HO.out (H2.out.ext he) HN2.out (by have := HN1.out; have := HN2.out; simp [firstPs]; omega) hsz
          have HRUN := Lib.hid hrun
          have HO5 : Hid (OwnsB w.heap.size w5 v' (firstPs p1 p2 2)) := by show OwnsB _ _ _ _; simpa [firstPs] using hO5
          have hE5 : Ext w w5 := he.trans' hB5 (Nat.le_refl _)
          clear hrun hO5 hB5
          go_wp2_with (at_builtin; refine wpList_append_run _ rfl _ _ 22 22 rfl vv (.slice a2 n2 c2) rfl rfl _ _ HRUN.out ?_)
          go_wp2
          refine ⟨⟨2, by omega, by go_num, ⟨v', rfl, HO5⟩, hE5⟩, by simp [intOf]⟩
        · go_wp2
          go_ret
          have hs : ∀ p ∈ p1 ++ p2, SliceK wr p.1 p.2.1 := fun p hp => by
            rcases List.mem_append.1 hp with hp | hp
            · exact (H1.out.2.1 p hp).ext he
            · exact (H2.out.2.1 p hp).ext he
          have hO2 : OwnsB w.heap.size wr vv (p1 ++ p2) := by simpa [firstPs] using HO.out
          have hrd := rowP_reads hO2.1 hs
          rw [HPL.out] at hrd
          obtain ⟨ra, rc, hrv, hrc, hrl⟩ := hrd
          exact ⟨ra, rc, by rw [hrv]; rfl, hrc, hrl, he⟩
end Go.Proofs.YtdolibeceijnnaaDoor
namespace Go.Proofs.YtdolibeceijnnaaDoor
open Go.RowKit
theorem infoSeq : (Tryd.prog.info? 24).map (fun i => (i.zero, i.size, i.bytes)) = some (some (.agg #[.int .i64 0, .slice none 0 0]), 2, 32) := by kernel_rfl
theorem results_cell_tmp1 {fn : Func} {p u : Tmp} {ty : TypeId} (h : fn.results = #[.cell p ty, .tmp u]) (tmps : Array Value) (P : Program) (w : World) :
    (results fn tmps).run P w = ((asAddr (tmps.getD p undef)).run P w).andThen fun a w₁ => ((loadVar ty a).run P w₁).andThen fun x w₂ => .ok (.tuple #[x, tmps.getD u undef]) w₂ := by
  simp only [results, h]
  simp [Sem.run_bind, Result.andThen]
def mem1 (l : List Int) (x : Int) : Bool := l.contains x
def SeqErr (s : Sq) (err : Int) (w : World) (e : Ending) (w' : World) : Prop := ∃ v, e = .returned (.tuple #[v, .int .i64 err]) ∧ SeqV w' v s ∧ Ext w w'
theorem pauses_mem (n : Int) (l : List Stp) (k : Int) (h0 : 0 ≤ k) (h1 : k < l.length) : mem1 (pauses (n, l)) k = restsAt (n, l) k.toNat := by
  unfold mem1 pauses
  cases h : restsAt (n, l) k.toNat
  · rw [← Bool.not_eq_true, List.contains_iff_mem, List.mem_filter, h]; simp
  · rw [List.contains_iff_mem, List.mem_filter, h]
    refine ⟨?_, rfl⟩
    unfold ints
    rw [List.mem_map]
    exact ⟨k.toNat, List.mem_range.2 (by show k.toNat < (((l.length : Nat) : Int)).toNat; omega), by show ((k.toNat : Nat) : Int) = k; omega⟩
theorem CellsP.drop {w : World} {b off : Nat} {l : List Stp} (h : CellsP w (some ⟨b, off, none⟩) l) (k : Nat) : CellsP w (some ⟨b, off + k * 2, none⟩) (l.drop k) := fun i hi => by
  rw [List.length_drop] at hi
  obtain ⟨b', off', v, h1, h2, h3, h4⟩ := h (k + i) (by omega)
  cases h1
  have e : (l.drop k).getD i stp0 = l.getD (k + i) stp0 := by rw [List.getD_eq_getElem?_getD, List.getD_eq_getElem?_getD, List.getElem?_drop]
  rw [e]
  exact ⟨b, off + k * 2, v, rfl, by rw [show off + k * 2 + i * 2 = off + (k + i) * 2 from by omega]; exact h2, h3, by rw [show off + k * 2 + i * 2 + 1 = off + (k + i) * 2 + 1 from by omega]; exact h4⟩
theorem CellsP.take {w : World} {a : Option Addr} {l : List Stp} (h : CellsP w a l) (k : Nat) : CellsP w a (l.take k) := fun i hi => by
  rw [List.length_take] at hi
  have e : (l.take k).getD i stp0 = l.getD i stp0 := by
    rw [List.getD_eq_getElem?_getD, List.getD_eq_getElem?_getD, List.getElem?_take_of_lt (by omega)]
  rw [e]
  exact h i (by omega)
theorem ckSeq_full {n : Int} {l : List Stp} (h : ckSeq (n, l) = 0) : Full l := fun k hk => by
  have := (ckWalk_fine (ckSeq_zero h).2.2.2.2.1) k hk
  have h2 := ckStep_strokes this.1
  omega
theorem Full.turn {l : List Stp} (h : Full l) (k : Nat) : Full (l.drop k ++ l.take k) := fun i hi => by
  have hm : (l.drop k ++ l.take k).getD i stp0 ∈ l := by
    have h1 : (l.drop k ++ l.take k).getD i stp0 ∈ l.drop k ++ l.take k := by
      rw [List.getD_eq_getElem?_getD, List.getElem?_eq_getElem hi]; simp
    rcases List.mem_append.1 h1 with h1 | h1
    · exact List.mem_of_mem_drop h1
    · exact List.mem_of_mem_take h1
  obtain ⟨j, hj, e⟩ := List.mem_iff_getElem.1 hm
  have := h j hj
  rw [List.getD_eq_getElem?_getD, List.getElem?_eq_getElem hj] at this
  rw [← e]
  exact this
theorem seqV_zero (w : World) : SeqV w (.agg #[.int .i64 0, .slice none 0 0]) sq0 := ⟨_, rfl, none, 0, rfl, fun i hi => by simp [sq0] at hi, by simp [sq0], by simp, fun h => by simp [sq0] at h⟩
end Go.Proofs.YtdolibeceijnnaaDoor
namespace Go.Proofs.YtdolibeceijnnaaDoor
open Go.RowKit
end Go.Proofs.YtdolibeceijnnaaDoor
namespace Go.Proofs.YtdolibeceijnnaaDoor
open Go.RowKit
structure TrSt (X : Nat → Prop) (o : Nat) (W0 wr : World) (n : Int) (ys : List Stp) : Prop where
  be : Below o W0 wr
  c0 : wr.cell? ⟨o, 0, none⟩ = some (.int .i64 n)
  f1 : wr.frozen? ⟨o, 1, none⟩ = false
  v : ∃ v, wr.cell? ⟨o, 1, none⟩ = some v ∧ OwnsP X wr v ys ∧ ∀ b, v.ownBlock = some b → o < b
end Go.Proofs.YtdolibeceijnnaaDoor
namespace Go.Proofs.YtdolibeceijnnaaDoor
open Go.RowKit
end Go.Proofs.YtdolibeceijnnaaDoor
namespace Go.Proofs.YtdolibeceijnnaaDoor
open Go.RowKit
def cmpI (a b : Int) : Int := if a < b then -1 else if b < a then 1 else 0
theorem isNaN_any (x : Int) (w : World) : Calls Tryd.prog 83 #[.int .i64 x] w fun e w' => e = .returned (.bool false) ∧ w = w' := by
  have h : (x != x) = false := by simp
  go_enter Tryd.func83, Tryd.ntmps83
  go_wp2
  go_ret
  exact ⟨rfl, rfl⟩
theorem Compare_any (a b : Int) (w : World) : Calls Tryd.prog 70 #[.int .i64 a, .int .i64 b] w fun e w' => e = .returned (.int .i64 (cmpI a b)) ∧ w = w' := by
  unfold cmpI
  by_cases h1 : a < b
  · have h2 : ¬ b < a := by omega
    go_enter Tryd.func70, Tryd.ntmps70
    go_wp2_with (go_at_call 83; (with_reducible refine (isNaN_any _ _).mono ?_); rintro e w' ⟨rfl, rfl⟩)
    all_goals go_ret
    all_goals exact ⟨ret_int (by first | (simp; done) | (simp; omega)), rfl⟩
  · by_cases h2 : b < a
    · go_enter Tryd.func70, Tryd.ntmps70
      go_wp2_with (go_at_call 83; (with_reducible refine (isNaN_any _ _).mono ?_); rintro e w' ⟨rfl, rfl⟩)
      all_goals go_ret
      all_goals exact ⟨ret_int (by first | (simp; done) | (simp; omega)), rfl⟩
    · go_enter Tryd.func70, Tryd.ntmps70
      go_wp2_with (go_at_call 83; (with_reducible refine (isNaN_any _ _).mono ?_); rintro e w' ⟨rfl, rfl⟩)
      all_goals go_ret
      all_goals exact ⟨ret_int (by first | (simp; done) | (simp; omega)), rfl⟩
theorem sorted1_any (x y : Stk) (w : World) : Calls Tryd.prog 69 #[.agg #[.int .i64 x.1, .bool x.2], .agg #[.int .i64 y.1, .bool y.2]] w fun e w' => e = .returned (.int .i64 (cmpI x.1 y.1)) ∧ Ext w w' := by
  go_enter Tryd.func69, Tryd.ntmps69
  go_wp2_with fail
  refine (Compare_any x.1 y.1 _).mono ?_
  rintro e w1 ⟨rfl, rfl⟩
  go_wp2
  go_ret
  exact ⟨rfl, extA⟩
def StksAt (w : World) (b : Nat) (d : List Stk) : Prop := ∀ i, i < d.length → (w.cell? ⟨b, i * 2, none⟩ = some (.int .i64 (d.getD i stk0).1) ∧ w.cell? ⟨b, i * 2 + 1, none⟩ = some (.bool (d.getD i stk0).2)) ∧ w.frozen? ⟨b, i * 2, none⟩ = false ∧ w.frozen? ⟨b, i * 2 + 1, none⟩ = false
theorem StksAt.ext {A B : World} {b : Nat} {d : List Stk} (h : StksAt A b d) (k : Ext A B) : StksAt B b d := fun i hi => by
  obtain ⟨⟨h1, h2⟩, h3, h4⟩ := h i hi
  exact ⟨⟨k.cell h1, k.cell h2⟩, (Below.frozen (p := ⟨b, _, none⟩) k (cell_lt h1)).trans h3, (Below.frozen (p := ⟨b, _, none⟩) k (cell_lt h2)).trans h4⟩
theorem getD_set (d : List Stk) (i j : Nat) (x : Stk) (hi : i < d.length) : (d.set i x).getD j stk0 = if i = j then x else d.getD j stk0 := by
  rw [List.getD_eq_getElem?_getD, List.getD_eq_getElem?_getD, List.getElem?_set]
  by_cases h : i = j
  · subst h; rw [if_pos rfl, if_pos rfl, if_pos hi]; rfl
  · rw [if_neg h, if_neg h]
theorem StksAt.set {w : World} {b : Nat} {d : List Stk} (h : StksAt w b d) {i : Nat} (hi : i < d.length) (x : Stk) : StksAt ((w.setCell ⟨b, i * 2, none⟩ (.int .i64 x.1)).setCell ⟨b, i * 2 + 1, none⟩ (.bool x.2)) b (d.set i x) := fun j hj => by
  rw [List.length_set] at hj
  obtain ⟨⟨h1, h2⟩, h3, h4⟩ := h j hj
  obtain ⟨⟨k1, k2⟩, _, _⟩ := h i hi
  refine ⟨?_, by rw [World.frozen?_setCell, World.frozen?_setCell]; exact h3, by rw [World.frozen?_setCell, World.frozen?_setCell]; exact h4⟩
  rw [getD_set d i j x hi]
  by_cases e : i = j
  · subst e
    rw [if_pos rfl]
    refine ⟨?_, ?_⟩
    · rw [World.cell?_setCell_other _ _ _ _ (fun h => by simp only [Addr.mk.injEq] at h; omega), World.cell?_setCell_same _ _ _ k1]
    · rw [World.cell?_setCell_same _ _ (.bool x.2) (by rw [World.cell?_setCell_other _ _ _ _ (fun h => by simp only [Addr.mk.injEq] at h; omega)]; exact k2)]
  · rw [if_neg e]
    refine ⟨?_, ?_⟩
    · rw [World.cell?_setCell_other _ _ _ _ (fun h => by simp only [Addr.mk.injEq] at h; omega), World.cell?_setCell_other _ _ _ _ (fun h => by simp only [Addr.mk.injEq] at h; omega)]; exact h1
    · rw [World.cell?_setCell_other _ _ _ _ (fun h => by simp only [Addr.mk.injEq] at h; omega), World.cell?_setCell_other _ _ _ _ (fun h => by simp only [Addr.mk.injEq] at h; omega)]; exact h2
def insR (x : Stk) : List Stk → List Stk
  | [] => [x]
  | y :: r => if x.1 < y.1 then y :: insR x r else x :: y :: r
def sortR : List Stk → List Stk
  | [] => []
  | x :: r => insR x (sortR r)
def isortK (l : List Stk) : List Stk := (sortR l.reverse).reverse
theorem insR_length (x : Stk) (r : List Stk) : (insR x r).length = r.length + 1 := by
  induction r with
  | nil => rfl
  | cons y r ih => unfold insR; split <;> simp [ih]
theorem sortR_length (r : List Stk) : (sortR r).length = r.length := by
  induction r with
  | nil => rfl
  | cons x r ih => unfold sortR; rw [insR_length, ih]; rfl
theorem insR_mem (x z : Stk) (r : List Stk) : z ∈ insR x r ↔ z = x ∨ z ∈ r := by
  induction r with
  | nil => simp [insR]
  | cons y r ih =>
    unfold insR
    split
    · rw [List.mem_cons, ih, List.mem_cons]
      exact ⟨fun h => by rcases h with h | h | h <;> simp [h], fun h => by rcases h with h | h | h <;> simp [h]⟩
    · simp
theorem sortR_mem (z : Stk) (r : List Stk) : z ∈ sortR r ↔ z ∈ r := by
  induction r with
  | nil => rfl
  | cons x r ih => unfold sortR; rw [insR_mem, ih, List.mem_cons]
theorem isortK_mem (z : Stk) (l : List Stk) : z ∈ isortK l ↔ z ∈ l := by unfold isortK; rw [List.mem_reverse, sortR_mem, List.mem_reverse]
theorem isortK_length (l : List Stk) : (isortK l).length = l.length := by unfold isortK; rw [List.length_reverse, sortR_length, List.length_reverse]
def Desc (r : List Stk) : Prop := r.Pairwise fun a b => b.1 < a.1
theorem insR_desc {x : Stk} {r : List Stk} (h : Desc r) (hx : ∀ y ∈ r, y.1 ≠ x.1) : Desc (insR x r) := by
  induction r with
  | nil => exact List.pairwise_singleton _ _
  | cons y r ih =>
    obtain ⟨h1, h2⟩ := List.pairwise_cons.1 h
    unfold insR
    by_cases c : x.1 < y.1
    · rw [if_pos c]
      refine List.pairwise_cons.2 ⟨fun z hz => ?_, ih h2 (fun z hz => hx z (List.mem_cons_of_mem _ hz))⟩
      rcases (insR_mem x z r).1 hz with rfl | hz
      · exact c
      · exact h1 z hz
    · rw [if_neg c]
      refine List.pairwise_cons.2 ⟨fun z hz => ?_, h⟩
      have := hx y (List.mem_cons_self ..)
      rcases List.mem_cons.1 hz with rfl | hz
      · omega
      · have := h1 z hz; omega
def Diff (l : List Stk) : Prop := l.Pairwise fun a b => a.1 ≠ b.1
theorem sortR_desc {r : List Stk} (h : Diff r) : Desc (sortR r) := by
  induction r with
  | nil => exact List.Pairwise.nil
  | cons x r ih =>
    obtain ⟨h1, h2⟩ := List.pairwise_cons.1 h
    exact insR_desc (ih h2) (fun y hy => fun e => h1 y ((sortR_mem y r).1 hy) e.symm)
def Asc (l : List Stk) : Prop := l.Pairwise fun a b => a.1 < b.1
theorem isortK_asc {l : List Stk} (h : Diff l) : Asc (isortK l) := by
  unfold isortK Asc
  rw [List.pairwise_reverse]
  exact sortR_desc (List.pairwise_reverse.2 (h.imp fun hab e => hab e.symm))
theorem asc_ext {l m : List Stk} (hl : Asc l) (hm : Asc m) (h : ∀ z, z ∈ l ↔ z ∈ m) : l = m := by
  induction l generalizing m with
  | nil =>
    cases m with
    | nil => rfl
    | cons y m => exact absurd ((h y).2 (List.mem_cons_self ..)) (by simp)
  | cons x l ih =>
    cases m with
    | nil => exact absurd ((h x).1 (List.mem_cons_self ..)) (by simp)
    | cons y m =>
      obtain ⟨l1, l2⟩ := List.pairwise_cons.1 hl
      obtain ⟨m1, m2⟩ := List.pairwise_cons.1 hm
      have hxy : x = y := by
        rcases List.mem_cons.1 ((h x).1 (List.mem_cons_self ..)) with e | hx
        · exact e
        · rcases List.mem_cons.1 ((h y).2 (List.mem_cons_self ..)) with e | hy
          · exact e.symm
          · have a1 := m1 x hx
            have a2 := l1 y hy
            omega
      subst hxy
      congr 1
      refine ih l2 m2 (fun z => ⟨fun hz => ?_, fun hz => ?_⟩)
      · rcases List.mem_cons.1 ((h z).1 (List.mem_cons_of_mem _ hz)) with e | hz'
        · have := l1 z hz; rw [e] at this; omega
        · exact hz'
      · rcases List.mem_cons.1 ((h z).2 (List.mem_cons_of_mem _ hz)) with e | hz'
        · have := m1 z hz; rw [e] at this; omega
        · exact hz'
theorem ordered_mem (z : Stk) (l : List Stk) : z ∈ ordered l ↔ z ∈ l ∧ 0 ≤ z.1 ∧ z.1 < 6 := by
  unfold ordered
  rw [List.mem_flatMap]
  refine ⟨fun ⟨a, ha, hz⟩ => ?_, fun ⟨h1, h2, h3⟩ => ⟨z.1, ?_, List.mem_filter.2 ⟨h1, by simp⟩⟩⟩
  · obtain ⟨h1, h2⟩ := List.mem_filter.1 hz
    have h2 : z.1 = a := by simpa using h2
    unfold ints at ha
    obtain ⟨i, hi, rfl⟩ := List.mem_map.1 ha
    have := List.mem_range.1 hi
    have e : z.1 = (i : Int) := h2
    exact ⟨h1, by omega, by omega⟩
  · unfold ints
    exact List.mem_map.2 ⟨z.1.toNat, List.mem_range.2 (by show z.1.toNat < 6; omega), by show ((z.1.toNat : Nat) : Int) = z.1; omega⟩
theorem ordered_asc {l : List Stk} (h : Diff l) : Asc (ordered l) := by
  have h1 : ∀ (ls : List Int), ls.Pairwise (· < ·) → Asc (ls.flatMap fun a => l.filter fun y => y.1 == a) := by
    intro ls
    induction ls with
    | nil => intro _; exact List.Pairwise.nil
    | cons a ls ih =>
      intro hp
      obtain ⟨p1, p2⟩ := List.pairwise_cons.1 hp
      rw [List.flatMap_cons]
      refine List.pairwise_append.2 ⟨?_, ih p2, fun x hx y hy => ?_⟩
      · have hd : Diff (l.filter fun y => y.1 == a) := h.sublist (List.filter_sublist)
        refine hd.imp_of_mem (fun {x y} hx hy hne => ?_)
        have e1 : x.1 = a := by simpa using (List.mem_filter.1 hx).2
        have e2 : y.1 = a := by simpa using (List.mem_filter.1 hy).2
        exact absurd (e1.trans e2.symm) hne
      · have e1 : x.1 = a := by simpa using (List.mem_filter.1 hx).2
        obtain ⟨c, hc, hy2⟩ := List.mem_flatMap.1 hy
        have e2 : y.1 = c := by simpa using (List.mem_filter.1 hy2).2
        have := p1 c hc
        omega
  exact h1 _ (by decide)
theorem isortK_ordered {l : List Stk} (h : Diff l) (hk : ∀ y ∈ l, 0 ≤ y.1 ∧ y.1 < 6) : isortK l = ordered l :=
  asc_ext (isortK_asc h) (ordered_asc h) fun z => by
    rw [isortK_mem, ordered_mem]
    exact ⟨fun hz => ⟨hz, hk z hz⟩, fun hz => hz.1⟩
end Go.Proofs.YtdolibeceijnnaaDoor
namespace Go.Proofs.YtdolibeceijnnaaDoor
open Go.RowKit
def sortedTo (l : List Stk) (i : Nat) : List Stk := (sortR (l.take i).reverse).reverse ++ l.drop i
theorem sortedTo_length (l : List Stk) (i : Nat) : (sortedTo l i).length = l.length := by
  unfold sortedTo
  rw [List.length_append, List.length_reverse, sortR_length, List.length_reverse, List.length_take, List.length_drop]; omega
theorem sortedTo_end (l : List Stk) : sortedTo l l.length = isortK l := by unfold sortedTo isortK; rw [List.take_length, List.drop_length, List.append_nil]
theorem sortedTo_one (l : List Stk) : sortedTo l 1 = l := by
  cases l with
  | nil => rfl
  | cons x l => simp [sortedTo, sortR, insR]
theorem sortedTo_succ (l : List Stk) {i : Nat} (h : i < l.length) : sortedTo l (i + 1) = (insR (l.getD i stk0) (sortR (l.take i).reverse)).reverse ++ l.drop (i + 1) := by
  unfold sortedTo
  rw [List.take_succ_eq_append_getElem h, List.reverse_append, List.getD_eq_getElem?_getD, List.getElem?_eq_getElem h]
  rfl
structure InSt (x : Stk) (S R d : List Stk) (j : Nat) : Prop where
  ex : ∃ P M, d = P ++ x :: M ++ S ∧ P.length = j ∧ (insR x P.reverse).reverse ++ M = R
theorem InSt.start (l : List Stk) {i : Nat} (h : i < l.length) : InSt (l.getD i stk0) (l.drop (i + 1)) (insR (l.getD i stk0) (sortR (l.take i).reverse)).reverse (sortedTo l i) i :=
  ⟨(sortR (l.take i).reverse).reverse, [], by unfold sortedTo; rw [drop_cons l stk0 h]; simp, by rw [List.length_reverse, sortR_length, List.length_reverse, List.length_take]; omega, by rw [List.reverse_reverse, List.append_nil]⟩
theorem InSt.at {x : Stk} {S R d : List Stk} {j : Nat} (h : InSt x S R d j) : d.getD j stk0 = x := by
  obtain ⟨P, M, rfl, rfl, _⟩ := h.ex
  rw [List.append_assoc, List.getD_eq_getElem?_getD, List.getElem?_append_right (Nat.le_refl _), Nat.sub_self]; rfl
theorem InSt.zero {x : Stk} {S R d : List Stk} (h : InSt x S R d 0) : d = R ++ S := by
  obtain ⟨P, M, rfl, hp, hr⟩ := h.ex
  have : P = [] := List.eq_nil_of_length_eq_zero hp
  subst this
  rw [← hr]; rfl
theorem InSt.stop {x : Stk} {S R d : List Stk} {j : Nat} (h : InSt x S R d (j + 1)) (hn : ¬ x.1 < (d.getD j stk0).1) : d = R ++ S := by
  obtain ⟨P, M, rfl, hp, hr⟩ := h.ex
  obtain ⟨P', y, rfl⟩ : ∃ P' y, P = P' ++ [y] := by
    rcases List.eq_nil_or_concat P with rfl | ⟨P', y, rfl⟩
    · simp at hp
    · exact ⟨P', y, by simp⟩
  have hj : P'.length = j := by simp at hp; exact hp
  have hy : ((P' ++ [y]) ++ x :: M ++ S).getD j stk0 = y := by
    rw [List.getD_eq_getElem?_getD, List.append_assoc, List.append_assoc, List.getElem?_append_right (by omega), hj, Nat.sub_self]; rfl
  rw [hy] at hn
  rw [List.reverse_append] at hr
  have e : insR x ([y].reverse ++ P'.reverse) = x :: y :: P'.reverse := by show insR x (y :: P'.reverse) = _; unfold insR; rw [if_neg hn]
  rw [e] at hr
  rw [← hr]
  simp
theorem InSt.swap {x : Stk} {S R d : List Stk} {j : Nat} (h : InSt x S R d (j + 1)) (hn : x.1 < (d.getD j stk0).1) : InSt x S R ((d.set (j + 1) (d.getD j stk0)).set j x) j := by
  obtain ⟨P, M, rfl, hp, hr⟩ := h.ex
  obtain ⟨P', y, rfl⟩ : ∃ P' y, P = P' ++ [y] := by
    rcases List.eq_nil_or_concat P with rfl | ⟨P', y, rfl⟩
    · simp at hp
    · exact ⟨P', y, by simp⟩
  have hj : P'.length = j := by simp at hp; exact hp
  have hy : ((P' ++ [y]) ++ x :: M ++ S).getD j stk0 = y := by
    rw [List.getD_eq_getElem?_getD, List.append_assoc, List.append_assoc, List.getElem?_append_right (by omega), hj, Nat.sub_self]; rfl
  rw [hy] at hn ⊢
  rw [List.reverse_append] at hr
  have e : insR x ([y].reverse ++ P'.reverse) = y :: insR x P'.reverse := by show insR x (y :: P'.reverse) = _; rw [insR, if_pos hn]
  rw [e] at hr
  refine ⟨P', y :: M, ?_, hj, ?_⟩
  · have e1 : (P' ++ [y]) ++ x :: M ++ S = P' ++ (y :: x :: (M ++ S)) := by simp
    rw [e1, List.set_append, if_neg (by omega), List.set_append, if_neg (by simp; omega)]
    have e2 : j + 1 - P'.length = 1 := by omega
    have e3 : j - P'.length = 0 := by omega
    rw [e2, e3]
    simp
  · rw [← hr]; simp
theorem InSt.len {x : Stk} {S R d : List Stk} {j : Nat} (h : InSt x S R d j) : j < d.length := by
  obtain ⟨P, M, rfl, rfl, _⟩ := h.ex
  simp
structure SoSt (b : Nat) (w wr : World) (d : List Stk) : Prop where
  at_ : StksAt wr b d
  own : Own1 b w wr
theorem Own1.trans {n : Nat} {A B C : World} (h : Own1 n A B) (k : Own1 n B C) : Own1 n A C := ⟨h.1.trans k.1, fun i hi hn => (k.2 i (Nat.lt_of_lt_of_le hi h.1.size) hn).trans (h.2 i hi hn)⟩
theorem Own1.setCell {n : Nat} {A : World} (j : Nat) (v : Value) : Own1 n A (A.setCell ⟨n, j, none⟩ v) := ⟨(Below.refl _ _).setCell (p := ⟨n, j, none⟩) (Nat.le_refl _) _, fun k _ hne => Below.heap_setCell _ _ _ _ (fun e => hne (by first | exact e | exact e.symm))⟩
theorem SoSt.ext {b : Nat} {w A B : World} {d : List Stk} (h : SoSt b w A d) (k : Ext A B) (hb : b < A.heap.size) : SoSt b w B d := ⟨h.at_.ext k, h.own.trans (Own1.ext k (Nat.le_of_lt hb))⟩
set_option maxHeartbeats 8000000 in
set_option maxRecDepth 100000 in
theorem insertion_any (l : List Stk) (b cap : Nat) (w : World) (hl : l.length ≤ 12) (h : StksAt w b l) (hb : b < w.heap.size) :
    Calls Tryd.prog 90 #[.slice (some ⟨b, 0, none⟩) l.length cap, .int .i64 0, .int .i64 (l.length : Int), .func (.func 69) #[] #[]] w fun e w' => e = .returned (.tuple #[]) ∧ SoSt b w w' (isortK l) := by
  have M0 : Hid (SoSt b w w (sortedTo l 1)) := ⟨by rw [sortedTo_one]; exact h, Own1.ext (Ext.refl _) (Nat.le_of_lt hb)⟩
  clear h
  go_enter Tryd.func90, Tryd.ntmps90
  go_wp2
  go_loopw [8] (fun i wr => ∃ k : Nat, 1 ≤ k ∧ (k ≤ l.length ∨ k = 1) ∧ i = .int .i64 k ∧ Hid (SoSt b w wr (sortedTo l k))) (fun i _ => l.length + 1 - (intOf i).toNat)
  case atStart => exact ⟨1, by omega, .inr rfl, rfl, M0⟩
  case round =>
    obtain ⟨k, hk1, hk, rfl, M⟩ := hrel
    clear M0
    by_cases hlt : k < l.length
    · have hs := InSt.start l hlt
      have HSU := Lib.hid (sortedTo_succ l hlt)
      have hdl := sortedTo_length l k
      generalize (insR (l.getD k stk0) (sortR (l.take k).reverse)).reverse = R at hs HSU
      generalize l.getD k stk0 = x at hs HSU
      generalize l.drop (k + 1) = S at hs HSU
      obtain ⟨d, hd⟩ : ∃ d, d = sortedTo l k := ⟨_, rfl⟩
      rw [← hd] at hs M hdl
      have HIN := Lib.hid hs
      clear hd hs
      go_wp2
      obtain ⟨wo, rfl⟩ : ∃ wo : World, wo = wr := ⟨_, rfl⟩
      go_loopw [9] (fun i wr => ∃ j : Nat, j ≤ k ∧ i = .int .i64 j ∧ ∃ d : List Stk, d.length = l.length ∧ Hid (InSt x S R d j) ∧ Hid (SoSt b w wr d)) (fun i _ => (intOf i).toNat)
      case atStart => exact ⟨k, Nat.le_refl _, rfl, d, hdl, HIN, M⟩
      case round =>
        clear M HIN
        obtain ⟨j, hj, rfl, d', hdl', HIN, M⟩ := hrel
        have zb : b < wr.heap.size := Nat.lt_of_lt_of_le hb M.out.own.1.size
        by_cases hj0 : j = 0
        · subst hj0
          have ME : Hid (SoSt b w wr (sortedTo l (k + 1))) := by
            show SoSt _ _ _ _
            rw [HSU.out, ← HIN.out.zero]; exact M.out
          go_wp2
          go_quiet (fail)
          go_wp2
          refine ⟨⟨k + 1, by omega, .inl (by omega), by go_num, ME.out.ext extA zb⟩, by simp [intOf]; omega⟩
        · obtain ⟨q, rfl⟩ : ∃ q, j = q + 1 := ⟨j - 1, by omega⟩
          clear hj0
          have hjl := HIN.out.len
          obtain ⟨⟨e1, e2⟩, e3, e4⟩ := M.out.at_ (q + 1) (by omega)
          obtain ⟨⟨f1, f2⟩, f3, f4⟩ := M.out.at_ q (by omega)
          rw [HIN.out.at] at e1 e2
          have HST := Lib.hid (fun hn => HIN.out.stop hn)
          have HSW := Lib.hid (fun hn => HIN.out.swap hn)
          generalize d'.getD q stk0 = y at f1 f2 HST HSW
          have z1 := cell_lt e1
          have hq2 : ((q : Int) + 1 - 1).toNat = q := by omega
          have hq3 : ((q + 1 : Nat) : Int) - 1 = (q : Int) := by omega
          have hq4 : IntKind.i64.wrap (((q + 1 : Nat) : Int) - 1) = (q : Int) := by rw [hq3]; exact IntWalk.i64_in _ (by omega)
          have hq5 : decide (((q + 1 : Nat) : Int) > 0) = true := by simp
          have hgt : (0 : Int) < ((q + 1 : Nat) : Int) := by omega
          have hq6 : (0 : Int) ≤ (q : Int) := by omega
          have hq7 : (q : Int) < (l.length : Int) := by omega
          have hq8 : (q : Int) + 1 < (l.length : Int) := by omega
          have hq9 : q < l.length := by omega
          have hq11 : (0 : Int) ≤ (q : Int) + 1 := by omega
          have hq10 : q + 1 < l.length := by omega
          by_cases hlt2 : x.1 < y.1
          · have hc : cmpI x.1 y.1 = -1 := by unfold cmpI; rw [if_pos hlt2]
            have HC := Lib.hid hc
            clear hc
            go_wp2
            have hwq : IntKind.i64.wrap (q : Int) = (q : Int) := IntWalk.i64_in _ (by omega)
            go_region_held3 (fun w' => Sees wr w') ((repeat (first | exact Sees.refl _ | assumption | apply Sees.drew | apply Sees.alloc | (refine Sees.ext ?_ (by assumption))))) (first | (go_at_call 69; refine (sorted1_any x y _).mono ?_; rintro e w' ⟨rfl, hE⟩; rw [HC.out]))
            have hSee : Sees wr w' := by assumption
            have M2 : Hid (SoSt b w w' d') := M.out.ext hSee.2.2 zb
            have zb2 : b < w'.heap.size := Nat.lt_of_lt_of_le zb hSee.2.2.size
            clear M
            go_wp2
            refine wp_region_heldE 15 (fun w'' => w''.cell? ⟨b, (q + 1) * 2, none⟩ = some (.int .i64 x.1) ∧ w''.cell? ⟨b, (q + 1) * 2 + 1, none⟩ = some (.bool x.2) ∧ w''.cell? ⟨b, q * 2, none⟩ = some (.int .i64 y.1) ∧ w''.cell? ⟨b, q * 2 + 1, none⟩ = some (.bool y.2)) (by kernel_rfl) ?_
            have ED : Ext w' w'.drew := extA
            have EA := hSee.2.2.trans ED
            have e3 := (Below.frozen (p := ⟨b, (q + 1) * 2, none⟩) EA (cell_lt e1)).trans e3
            have e4 := (Below.frozen (p := ⟨b, (q + 1) * 2 + 1, none⟩) EA (cell_lt e2)).trans e4
            have f3 := (Below.frozen (p := ⟨b, q * 2, none⟩) EA (cell_lt f1)).trans f3
            have f4 := (Below.frozen (p := ⟨b, q * 2 + 1, none⟩) EA (cell_lt f2)).trans f4
            have e1 := EA.cell e1
            have e2 := EA.cell e2
            have f1 := EA.cell f1
            have f2 := EA.cell f2
            have M3 : Hid (SoSt b w w'.drew d') := M2.out.ext ED zb2
            clear M2
            have hS : w'.drew.cell? ⟨b, (q + 1) * 2, none⟩ = some (.int .i64 x.1) ∧ w'.drew.cell? ⟨b, (q + 1) * 2 + 1, none⟩ = some (.bool x.2) ∧ w'.drew.cell? ⟨b, q * 2, none⟩ = some (.int .i64 y.1) ∧ w'.drew.cell? ⟨b, q * 2 + 1, none⟩ = some (.bool y.2) := ⟨e1, e2, f1, f2⟩
            generalize w'.drew = W at M3 e1 e2 e3 e4 f1 f2 f3 f4 hS ⊢
            ((refine eTk 0 ?_); (refine eTk 1 ?_); (refine eTk 5 ?_); (refine eTk 6 ?_); (refine eTk 7 ?_); (refine eTk 8 ?_); (refine eTk 9 ?_))
            ((refine ePu 2 ?_); (refine ePu 3 ?_); (refine ePu 4 ?_); (refine ePu 10 ?_); (refine ePu 11 ?_); (refine ePu 12 ?_))
            (refine eTk 13 ?_)
            (refine ePu 14 ?_)
            (refine wpAnyE_free (i := 15) (o := ?_) ?_ (by kernel_rfl) (by kernel_rfl) (fun K hK => ?_); rotate_left; (focus ((simp only [List.getElem?_toArray, List.getElem?_cons_succ, List.getElem?_cons_zero]; exact rfl))); go_simp; refine hK.out _ _ ?_; clear hK K; (try simp only [Act.put, List.setIfInBounds_toArray, List.set_cons_zero, List.set_cons_succ]))
            (refine ePu 16 ?_)
            (refine wpAnyE_free (i := 17) (o := ?_) ?_ (by kernel_rfl) (by kernel_rfl) (fun K hK => ?_); rotate_left; (focus ((simp only [List.getElem?_toArray, List.getElem?_cons_succ, List.getElem?_cons_zero]; exact rfl))); go_simp; refine hK.out _ _ ?_; clear hK K; (try simp only [Act.put, List.setIfInBounds_toArray, List.set_cons_zero, List.set_cons_succ]))
            refine wpAnyE_done (by kernel_rfl) ?_ _
            have hsoA : StksAt ((W.setCell ⟨b, (q + 1) * 2, none⟩ (.int .i64 y.1)).setCell ⟨b, (q + 1) * 2 + 1, none⟩ (.bool y.2)) b (d'.set (q + 1) y) := M3.out.at_.set hjl y
            have hsoB : StksAt ((((W.setCell ⟨b, (q + 1) * 2, none⟩ (.int .i64 y.1)).setCell ⟨b, (q + 1) * 2 + 1, none⟩ (.bool y.2)).setCell ⟨b, q * 2, none⟩ (.int .i64 x.1)).setCell ⟨b, q * 2 + 1, none⟩ (.bool x.2)) b ((d'.set (q + 1) y).set q x) := hsoA.set (by rw [List.length_set]; omega) x
            have hoB : Own1 b w ((((W.setCell ⟨b, (q + 1) * 2, none⟩ (.int .i64 y.1)).setCell ⟨b, (q + 1) * 2 + 1, none⟩ (.bool y.2)).setCell ⟨b, q * 2, none⟩ (.int .i64 x.1)).setCell ⟨b, q * 2 + 1, none⟩ (.bool x.2)) := (((M3.out.own.trans (Own1.setCell _ _)).trans (Own1.setCell _ _)).trans (Own1.setCell _ _)).trans (Own1.setCell _ _)
            have M4 : Hid (SoSt b w ((((W.setCell ⟨b, (q + 1) * 2, none⟩ (.int .i64 y.1)).setCell ⟨b, (q + 1) * 2 + 1, none⟩ (.bool y.2)).setCell ⟨b, q * 2, none⟩ (.int .i64 x.1)).setCell ⟨b, q * 2 + 1, none⟩ (.bool x.2)) ((d'.set (q + 1) y).set q x)) := ⟨hsoB, hoB⟩
            have hb4 : b < ((((W.setCell ⟨b, (q + 1) * 2, none⟩ (.int .i64 y.1)).setCell ⟨b, (q + 1) * 2 + 1, none⟩ (.bool y.2)).setCell ⟨b, q * 2, none⟩ (.int .i64 x.1)).setCell ⟨b, q * 2 + 1, none⟩ (.bool x.2)).heap.size := Nat.lt_of_lt_of_le hb hoB.1.size
            have HI4 : Hid (InSt x S R ((d'.set (q + 1) y).set q x) q) := HSW.out hlt2
            have hl4 : ((d'.set (q + 1) y).set q x).length = l.length := by rw [List.length_set, List.length_set]; exact hdl'
            clear hsoA hsoB hoB e1 e2 e3 e4 f1 f2 f3 f4 hS M3
            generalize ((((W.setCell ⟨b, (q + 1) * 2, none⟩ (.int .i64 y.1)).setCell ⟨b, (q + 1) * 2 + 1, none⟩ (.bool y.2)).setCell ⟨b, q * 2, none⟩ (.int .i64 x.1)).setCell ⟨b, q * 2 + 1, none⟩ (.bool x.2)) = W5 at M4 hb4 ⊢
            generalize (d'.set (q + 1) y).set q x = d5 at M4 HI4 hl4
            go_wp2
            refine ⟨⟨q, by omega, by go_num, d5, hl4, HI4, M4.out.ext extA hb4⟩, by simp [intOf]⟩
          · have hc : 0 ≤ cmpI x.1 y.1 := by unfold cmpI; rw [if_neg hlt2]; split <;> omega
            have HC := Lib.hid hc
            clear hc
            have hd5 := HST.out hlt2
            have ME : Hid (SoSt b w wr (sortedTo l (k + 1))) := by
              show SoSt _ _ _ _
              rw [HSU.out, ← hd5]; exact M.out
            clear hd5
            go_wp2
            have hwq : IntKind.i64.wrap (q : Int) = (q : Int) := IntWalk.i64_in _ (by omega)
            have hcn : ¬ cmpI x.1 y.1 < 0 := by have := HC.out; omega
            go_region_held3 (fun w' => Sees wr w') ((repeat (first | exact Sees.refl _ | assumption | apply Sees.drew | apply Sees.alloc | (refine Sees.ext ?_ (by assumption))))) (first | (go_at_call 69; refine (sorted1_any x y _).mono ?_; rintro e w' ⟨rfl, hE⟩))
            have hSee : Sees wr w' := by assumption
            have M2 : Hid (SoSt b w w' (sortedTo l (k + 1))) := ME.out.ext hSee.2.2 zb
            have zb2 : b < w'.heap.size := Nat.lt_of_lt_of_le zb hSee.2.2.size
            clear M ME hSee
            go_wp2
            refine ⟨⟨k + 1, by omega, .inl (by omega), by go_num, M2.out.ext extA zb2⟩, by simp [intOf]; omega⟩
    · have ME : Hid (SoSt b w wr (isortK l)) := by
        show SoSt _ _ _ _
        rcases hk with hk | hk
        · have : k = l.length := by omega
          subst this
          rw [← sortedTo_end]; exact M.out
        · subst hk
          have h0 : l.length ≤ 1 := by omega
          have : isortK l = sortedTo l 1 := by
            rw [sortedTo_one]
            match l, h0 with
            | [], _ => rfl
            | [y], _ => rfl
          rw [this]; exact M.out
      clear M
      go_wp2
      exact bodyPost_end (v := .tuple #[]) (results_none rfl _ _ _) rfl ⟨rfl, ME.out⟩
end Go.Proofs.YtdolibeceijnnaaDoor
namespace Go.Proofs.YtdolibeceijnnaaDoor
open Go.RowKit
set_option maxHeartbeats 8000000 in
set_option maxRecDepth 100000 in
theorem len64_any (x : Int) (w : World) (h0 : 0 ≤ x) (h1 : x < 256) : Calls Tryd.prog 99 #[.int .u64 x] w fun e w' => (∃ m : Int, e = .returned (.int .i64 m)) ∧ w' = w := by
  go_enter Tryd.func99, Tryd.ntmps99
  go_wp2
  exact bodyPost_ret (results_tmp rfl _ _ _) rfl ⟨⟨_, rfl⟩, rfl⟩
set_option maxHeartbeats 8000000 in
set_option maxRecDepth 100000 in
theorem len_any (x : Int) (w : World) (h0 : 0 ≤ x) (h1 : x < 256) : Calls Tryd.prog 82 #[.int .u64 x] w fun e w' => (∃ m : Int, e = .returned (.int .i64 m)) ∧ w' = w := by
  go_enter Tryd.func82, Tryd.ntmps82
  go_wp2_with (go_at_call 99; refine (len64_any x _ h0 h1).mono ?_; rintro e w' ⟨⟨m, rfl⟩, rfl⟩)
  exact bodyPost_ret (results_tmp rfl _ _ _) rfl ⟨⟨_, rfl⟩, rfl⟩
theorem pdq_any (l : List Stk) (b cap : Nat) (m : Int) (w : World) (hl : l.length ≤ 12) (h : StksAt w b l) (hb : b < w.heap.size) :
    Calls Tryd.prog 81 #[.slice (some ⟨b, 0, none⟩) l.length cap, .int .i64 0, .int .i64 (l.length : Int), .int .i64 m, .func (.func 69) #[] #[]] w fun e w' => e = .returned (.tuple #[]) ∧ SoSt b w w' (isortK l) := by
  have HS := Lib.hid h
  clear h
  go_enter Tryd.func81, Tryd.ntmps81
  go_wp2
  go_loopw [1, 2] (fun i j wr => i = .int .i64 0 ∧ j = .int .i64 (l.length : Int) ∧ wr = w) (fun _ _ _ => 0)
  case atStart => exact ⟨rfl, rfl, rfl⟩
  case round =>
    obtain ⟨rfl, rfl, rfl⟩ := hrel
    have hw : IntKind.i64.wrap ((l.length : Int) - 0) = (l.length : Int) := IntWalk.i64_in _ (by omega)
    have hle : ((l.length : Int) ≤ 12) := by omega
    go_wp2_with (go_at_call 90; refine (insertion_any l b cap _ hl HS.out hb).mono ?_; rintro e w' ⟨rfl, hso⟩; have HSO := Lib.hid hso; clear hso)
    exact bodyPost_ret (v := .tuple #[]) (results_none rfl _ _ _) rfl ⟨rfl, HSO.out⟩
set_option maxHeartbeats 8000000 in
set_option maxRecDepth 100000 in
theorem SortFunc_any (l : List Stk) (b cap : Nat) (w : World) (hl : l.length ≤ 12) (h : StksAt w b l) (hb : b < w.heap.size) :
    Calls Tryd.prog 68 #[.slice (some ⟨b, 0, none⟩) l.length cap, .func (.func 69) #[] #[]] w fun e w' => e = .returned (.tuple #[]) ∧ SoSt b w w' (isortK l) := by
  have HS := Lib.hid h
  clear h
  go_enter Tryd.func68, Tryd.ntmps68
  have h0 : (0 : Int) ≤ (l.length : Int) := by omega
  have h1 : (l.length : Int) < 256 := by omega
  have hw : IntKind.u64.wrap (l.length : Int) = (l.length : Int) := by show (l.length : Int) % 2 ^ 64 = _; omega
  go_wp2_with (first | (go_at_call 82; refine (len_any (l.length : Int) _ h0 h1).mono ?_; rintro e w' ⟨⟨m, rfl⟩, rfl⟩) | (go_at_call 81; refine (pdq_any l b cap _ _ hl HS.out hb).mono ?_; rintro e w' ⟨rfl, hso⟩; have HSO := Lib.hid hso; clear hso))
  exact bodyPost_end (v := .tuple #[]) (results_none rfl _ _ _) rfl ⟨rfl, HSO.out⟩
set_option maxHeartbeats 8000000 in
set_option maxRecDepth 100000 in
theorem sorted_any (l : List Stk) (b cap : Nat) (w : World) (hl : l.length ≤ 12) (h : StksAt w b l) (hb : b < w.heap.size) :
    Calls Tryd.prog 48 #[.slice (some ⟨b, 0, none⟩) l.length cap] w fun e w' => e = .returned (.slice (some ⟨b, 0, none⟩) l.length cap) ∧ SoSt b w w' (isortK l) := by
  have HS := Lib.hid h
  clear h
  go_enter Tryd.func48, Tryd.ntmps48
  go_wp2_with (go_at_call 68; refine (SortFunc_any l b cap _ hl HS.out hb).mono ?_; rintro e w' ⟨rfl, hso⟩; have HSO := Lib.hid hso; clear hso)
  exact bodyPost_ret (results_tmp rfl _ _ _) rfl ⟨rfl, HSO.out⟩
end Go.Proofs.YtdolibeceijnnaaDoor
namespace Go.Proofs.YtdolibeceijnnaaDoor
open Go.RowKit
end Go.Proofs.YtdolibeceijnnaaDoor
namespace Go.Proofs.YtdolibeceijnnaaDoor
open Go.RowKit
end Go.Proofs.YtdolibeceijnnaaDoor
namespace Go.Proofs.YtdolibeceijnnaaDoor
open Go.RowKit
end Go.Proofs.YtdolibeceijnnaaDoor
namespace Go.Proofs.YtdolibeceijnnaaDoor
open Go.RowKit
theorem flat2_set (l : List (Value × Value)) : ∀ (k : Nat), k < l.length → ∀ p : Value × Value, ((flat2 l).set (k * 2) p.1).set (k * 2 + 1) p.2 = flat2 (l.set k p) := by
  induction l with
  | nil => intro k hk; simp at hk
  | cons x l ih =>
    intro k hk p
    cases k with
    | zero => simp [flat2]
    | succ k =>
      have := ih k (by simpa using hk) p
      rw [show (k + 1) * 2 = k * 2 + 1 + 1 by omega]
      simp only [flat2, List.flatMap_cons, List.set_cons_succ, List.cons_append, List.nil_append] at this ⊢
      rw [this]
theorem flat2_take (l : List (Value × Value)) : ∀ k, (flat2 l).take (k * 2) = flat2 (l.take k) := by
  induction l with
  | nil => intro k; simp [flat2]
  | cons x l ih =>
    intro k
    cases k with
    | zero => simp [flat2]
    | succ k =>
      have := ih k
      rw [show (k + 1) * 2 = k * 2 + 1 + 1 by omega]
      simp only [flat2, List.flatMap_cons, List.take_succ_cons, List.cons_append, List.nil_append] at this ⊢
      rw [this]
theorem flat2_drop (l : List (Value × Value)) : ∀ k, (flat2 l).drop (k * 2) = flat2 (l.drop k) := by
  induction l with
  | nil => intro k; simp [flat2]
  | cons x l ih =>
    intro k
    cases k with
    | zero => simp [flat2]
    | succ k =>
      have := ih k
      rw [show (k + 1) * 2 = k * 2 + 1 + 1 by omega]
      simp only [flat2, List.flatMap_cons, List.drop_succ_cons, List.cons_append, List.nil_append] at this ⊢
      rw [this]
theorem Chg.cell {B : Nat → Prop} {A C : World} (h : Chg B A C) {p : Addr} {v : Value} (hp : ¬ B p.block) (hc : A.cell? p = some v) : C.cell? p = some v := (World.cell?_of_block (h.2 p.block (cell_lt hc) hp)).trans hc
theorem Chg.frozen {B : Nat → Prop} {A C : World} (h : Chg B A C) {p : Addr} {v : Value} (hp : ¬ B p.block) (hc : A.cell? p = some v) : C.frozen? p = A.frozen? p := World.frozen?_of_block (h.2 p.block (cell_lt hc) hp)
theorem pairP_set (ps : List (Value × Stp)) (k : Nat) (p : Value × Stp) : pairP (ps.set k p) = (pairP ps).set k (p.1, .int .i64 p.2.2) := by unfold pairP; rw [List.map_set]
theorem OwnsP.put {X : Nat → Prop} {A : World} {l : List Stp} {g vc : Nat} (h : OwnsP X A (.slice (some ⟨g, 0, none⟩) l.length vc) l) (k : Nat) (hk : k < l.length) (sv : Value) (y : Stp) :
    ∃ ps : List (Value × Stp), ps.map (·.2) = l ∧ (∀ p ∈ ps, SliceKX (fun b => X b ∨ b = g) A p.1 p.2.1) ∧
      ((A.setCell ⟨g, k * 2, none⟩ sv).setCell ⟨g, k * 2 + 1, none⟩ (.int .i64 y.2)).ownsRow 0 65 2 (.slice (some ⟨g, 0, none⟩) l.length vc) l.length (flat2 (pairP (ps.set k (sv, y)))) ∧
      (∃ u1, A.cell? ⟨g, k * 2, none⟩ = some u1) ∧ (∃ u2, A.cell? ⟨g, k * 2 + 1, none⟩ = some u2) ∧ A.frozen? ⟨g, k * 2, none⟩ = false ∧ A.frozen? ⟨g, k * 2 + 1, none⟩ = false := by
  obtain ⟨ps, h1, h2, h3⟩ := h
  have hl : ps.length = l.length := by rw [← h1]; simp
  have hg := flat2_get (pairP ps) k (by simp [pairP, hl]; exact hk)
  refine ⟨ps, h1, fun p hp => (h3 p hp).monoX (fun b hb => hb.imp id (fun e => by rw [e]; rfl)), ?_, ⟨_, (h2.cellAt _ (by omega)).trans hg.1⟩, ⟨_, (h2.cellAt _ (by omega)).trans hg.2⟩, h2.frozenAt _, h2.frozenAt _⟩
  have s1 := (h2.stored (k * 2) sv).1
  have s2 := (s1.stored (k * 2 + 1) (.int .i64 y.2)).1
  rw [flat2_set (pairP ps) k (by simp [pairP, hl]; exact hk) (sv, .int .i64 y.2)] at s2
  rw [pairP_set]
  exact s2
theorem Asc.diff {l : List Stk} (h : Asc l) : Diff l := h.imp fun hab e => by omega
theorem ckStrokes_asc {l : List Stk} {z : Int} (h : ckStrokes z l = 0) : Asc l ∧ ∀ y ∈ l, z < y.1 := by
  induction l generalizing z with
  | nil => exact ⟨List.Pairwise.nil, fun y hy => by cases hy⟩
  | cons x l ih =>
    unfold ckStrokes at h
    by_cases h1 : x.1 < 0 ∨ 6 ≤ x.1
    · rw [if_pos h1] at h; cases h
    · rw [if_neg h1] at h
      by_cases h2 : x.1 = z
      · rw [if_pos h2] at h; cases h
      · rw [if_neg h2] at h
        by_cases h3 : x.1 < z
        · rw [if_pos h3] at h; cases h
        · rw [if_neg h3] at h
          obtain ⟨i1, i2⟩ := ih h
          refine ⟨List.Pairwise.cons (fun y hy => i2 y hy) i1, fun y hy => ?_⟩
          rcases List.mem_cons.1 hy with rfl | hy
          · omega
          · have := i2 y hy; omega
theorem OwnsP.up {X : Nat → Prop} {A : World} {v : Value} {ys : List Stp} (h : OwnsP X A v ys) : OwnsP (fun b => X b ∨ A.heap.size ≤ b) A v ys := by
  obtain ⟨ps, h1, h2, h3⟩ := h
  refine ⟨ps, h1, h2, fun p hp => (h3 p hp).chgX (Chg.refl _ A) (fun b hb hh => ?_)⟩
  rcases hh with (hh | hh) | hh
  · exact .inl hh
  · omega
  · exact .inr hh
theorem OwnsK.stksAt {A : World} {v : Value} {l : List Stk} (h : OwnsK A v l) (h0 : 0 < l.length) : ∃ b cap, v = .slice (some ⟨b, 0, none⟩) l.length cap ∧ StksAt A b l ∧ v.ownBlock = some b := by
  obtain ⟨a, cap, hv, hc, hm, hf⟩ := h.reads
  obtain ⟨b, off, ha, _, _⟩ := hc 0 h0
  have hne : l ≠ [] := List.length_pos_iff.1 h0
  obtain ⟨e0, hb, hfr⟩ := hf b off ha hne
  subst e0
  refine ⟨b, cap, by rw [hv, ha], fun i hi => ?_, hb⟩
  obtain ⟨b', off', e, c1, c2⟩ := hc i hi
  rw [ha] at e
  cases e
  rw [Nat.zero_add] at c1 c2
  exact ⟨⟨c1, c2⟩, (hfr i hi).1, (hfr i hi).2⟩
theorem StksAt.slice {A : World} {b cap : Nat} {l : List Stk} (h : StksAt A b l) (hm : l.length ≤ maxLen) : SliceK A (.slice (some ⟨b, 0, none⟩) l.length cap) l :=
  ⟨_, cap, rfl, fun i hi => ⟨b, 0, rfl, by rw [Nat.zero_add]; exact (h i hi).1.1, by rw [Nat.zero_add]; exact (h i hi).1.2⟩, hm⟩
end Go.Proofs.YtdolibeceijnnaaDoor
namespace Go.Proofs.YtdolibeceijnnaaDoor
open Go.RowKit
end Go.Proofs.YtdolibeceijnnaaDoor
namespace Go.Proofs.YtdolibeceijnnaaDoor
open Go.RowKit
theorem ownsK_succ {w : World} {v : Value} {l : List Stk} {x : Stk} (h : w.ownsRow 0 67 2 v (l.length + 1) (flatK l ++ [.int .i64 x.1, .bool x.2])) : OwnsK w v (l ++ [x]) := by
  unfold OwnsK
  rw [List.length_append, flatK_append]
  exact h
end Go.Proofs.YtdolibeceijnnaaDoor
namespace Go.Proofs.YtdolibeceijnnaaDoor
open Go.RowKit
end Go.Proofs.YtdolibeceijnnaaDoor
namespace Go.Proofs.YtdolibeceijnnaaDoor
open Go.RowKit
def movesK (l : List Stp) (a : Int) (k : Nat) : List Int := (ints (k : Int)).filter fun j => movesIn a (l.getD j.toNat stp0)
theorem movesK_succ (l : List Stp) (a : Int) (k : Nat) : movesK l a (k + 1) = movesK l a k ++ if movesIn a (l.getD k stp0) then [(k : Int)] else [] := by
  unfold movesK
  rw [ints_succ, List.filter_append]
  congr 1
  by_cases c : movesIn a (l.getD k stp0) = true
  · rw [if_pos c, List.filter_cons, Int.toNat_natCast, if_pos c]; rfl
  · rw [if_neg c, List.filter_cons, Int.toNat_natCast, if_neg c]; rfl
theorem movesK_len (l : List Stp) (a : Int) (k : Nat) : (movesK l a k).length ≤ k := by
  unfold movesK
  refine Nat.le_trans (List.length_filter_le _ _) ?_
  simp [ints]
theorem movesK_end (l : List Stp) (a : Int) : movesK l a l.length = movesOf l a := rfl
def OwnIPost (l : List Int) (w : World) (e : Ending) (w' : World) : Prop := ∃ v, e = .returned v ∧ OwnsI w' v l ∧ (∀ b, v.ownBlock = some b → w.heap.size ≤ b) ∧ Ext w w'
end Go.Proofs.YtdolibeceijnnaaDoor
namespace Go.Proofs.YtdolibeceijnnaaDoor
open Go.RowKit
theorem CellsI.take {w : World} {a : Option Addr} {l : List Int} (h : CellsI w a l) (k : Nat) : CellsI w a (l.take k) := fun i hi => by
  rw [List.length_take] at hi
  have e : (l.take k).getD i 0 = l.getD i 0 := by
    rw [List.getD_eq_getElem?_getD, List.getD_eq_getElem?_getD, List.getElem?_take_of_lt (by omega)]
  rw [e]
  exact h i (by omega)
end Go.Proofs.YtdolibeceijnnaaDoor
namespace Go.Proofs.YtdolibeceijnnaaDoor
open Go.RowKit
theorem moves1_any (y : Stk) (x : Int) (pb : Nat) (w : World) (hp : w.cell? ⟨pb, 0, none⟩ = some (.int .i64 x)) :
    Calls Tryd.prog 85 #[.agg #[.int .i64 y.1, .bool y.2], .pointer (some ⟨pb, 0, none⟩)] w fun r w' => r = .returned (.bool (y.1 == x)) ∧ Ext w w' := by
  obtain ⟨a, o⟩ := y
  dsimp only
  have z := cell_lt hp
  dsimp only at z
  go_enter Tryd.func85, Tryd.ntmps85
  go_wp2
  go_ret
  exact ⟨ret_bool rfl, extA⟩
set_option maxHeartbeats 2000000 in
theorem IndexK_any (l : List Stk) (x : Int) (pb : Nat) (a : Option Addr) (cap : Nat) (w : World) (hl : l.length ≤ maxLen) (hc : CellsK w a l) (hp : w.cell? ⟨pb, 0, none⟩ = some (.int .i64 x)) :
    Calls Tryd.prog 100 #[.slice a l.length cap, .func (.func 85) #[] #[.pointer (some ⟨pb, 0, none⟩)]] w (AnyPost (movesL x l) w) := by
  unfold maxLen at hl
  have HC := Lib.hid hc
  clear hc
  go_enter Tryd.func100, Tryd.ntmps100
  go_wp2
  go_loopw [8] (fun i wr => ∃ k : Nat, k ≤ l.length ∧ i = .int .i64 k ∧ Hid (movesL x (l.drop k) = movesL x l) ∧ Ext w wr) (fun i _ => l.length - (intOf i).toNat)
  case atStart => exact ⟨0, Nat.zero_le _, rfl, by show _ = _; rfl, Ext.refl _⟩
  case round =>
    obtain ⟨k, hk, rfl, hz, he⟩ := hrel
    have hp := he.cell hp
    by_cases hlt : k < l.length
    · obtain ⟨b, off, ha, p1, p2⟩ := HC.out.ext he k hlt
      subst ha
      have hz1 := any_drop (fun y : Stk => y.1 == x) l stk0 hlt hz.out
      have HZ := Lib.hid hz1
      clear hz hz1
      generalize l.getD k stk0 = y at p1 p2 HZ
      have z1 := cell_lt p1
      dsimp only at z1
      have HCL := Lib.hid (moves1_any y x pb wr hp)
      go_wp2_with fail
      refine HCL.out.mono ?_
      rintro e w1 ⟨rfl, hE⟩
      have E1 := he.trans hE
      clear HCL
      cases hv : (y.1 == x)
      · have HZ2 : Hid (movesL x (l.drop (k + 1)) = movesL x l) := by
          show _ = _
          have := HZ.out
          rw [hv, Bool.false_or] at this
          exact this
        clear HZ
        go_wp2
        refine ⟨⟨k + 1, by omega, by go_num, HZ2, E1⟩, by simp [intOf]; omega⟩
      · have HZ2 : Hid (movesL x l = true) := by
          show _ = _
          have := HZ.out
          rw [hv, Bool.true_or] at this
          exact this.symm
        clear HZ
        go_wp2
        go_ret
        exact ⟨(k : Int), rfl, by rw [HZ2.out]; simp, E1⟩
    · have hz1 := hz.out
      rw [List.drop_eq_nil_of_le (by omega)] at hz1
      have HA := Lib.hid hz1
      clear hz hz1
      go_wp2
      go_ret
      exact ⟨-1, rfl, by rw [← HA.out]; rfl, he⟩
theorem ContainsK_any (l : List Stk) (x : Int) (pb : Nat) (a : Option Addr) (cap : Nat) (w : World) (hl : l.length ≤ maxLen) (hc : CellsK w a l) (hp : w.cell? ⟨pb, 0, none⟩ = some (.int .i64 x)) :
    Calls Tryd.prog 84 #[.slice a l.length cap, .func (.func 85) #[] #[.pointer (some ⟨pb, 0, none⟩)]] w fun r w' => r = .returned (.bool (movesL x l)) ∧ Ext w w' := by
  have HI := Lib.hid (IndexK_any l x pb a cap w hl hc hp)
  clear hl hc
  go_enter Tryd.func84, Tryd.ntmps84
  go_wp2_with fail
  refine HI.out.mono ?_
  rintro e w1 ⟨r, rfl, hr, hE⟩
  have HR := Lib.hid hr
  clear hr
  go_wp2
  all_goals go_ret
  all_goals exact ⟨ret_bool HR.out, hE⟩
end Go.Proofs.YtdolibeceijnnaaDoor
namespace Go.Proofs.YtdolibeceijnnaaDoor
open Go.RowKit
set_option maxHeartbeats 4000000 in
set_option maxRecDepth 100000 in
theorem moves_any (n : Value) (l : List Stp) (x : Int) (a : Option Addr) (cap : Nat) (w : World) (hl : l.length ≤ 200) (hc : CellsP w a l) :
    Calls Tryd.prog 73 #[.agg #[n, .slice a l.length cap], .int .i64 x] w (OwnIPost (movesOf l x) w) := by
  have HC := Lib.hid hc
  clear hc
  obtain ⟨i0, hi, hi0, hi1, hi2⟩ := info_parts infoInt
  go_enter Tryd.func73, Tryd.ntmps73
  go_wp2
  have E1 : Ext w ((w.alloc (.cells #[n, .slice a l.length cap] 24)).alloc (.cells #[.int .i64 x] 3)) := extA
  have e1 : ((w.alloc (.cells #[n, .slice a l.length cap] 24)).alloc (.cells #[.int .i64 x] 3)).cell? ⟨w.heap.size, 1, none⟩ = some (.slice a l.length cap) := by go_simp
  have e2 : ((w.alloc (.cells #[n, .slice a l.length cap] 24)).alloc (.cells #[.int .i64 x] 3)).cell? ⟨w.heap.size + 1, 0, none⟩ = some (.int .i64 x) := by go_simp
  generalize ((w.alloc (.cells #[n, .slice a l.length cap] 24)).alloc (.cells #[.int .i64 x] 3)) = W at E1 e1 e2 ⊢
  have hW := E1.size
  go_loopw [11, 5] (fun i v wr => ∃ k : Nat, k ≤ l.length ∧ i = .int .i64 k ∧ (∃ vv, v = vv ∧ Hid (OwnsI wr vv (movesK l x k) ∧ ∀ b, vv.ownBlock = some b → W.heap.size ≤ b)) ∧ Ext W wr) (fun i _ _ => l.length - (intOf i).toNat)
  case atStart => exact ⟨0, Nat.zero_le _, rfl, ⟨_, rfl, OwnsI.nil _, fun b hb => by cases hb⟩, Ext.refl _⟩
  case round =>
    obtain ⟨k, hk, rfl, ⟨vv, hvv, hO⟩, he⟩ := hrel
    obtain rfl := hvv.symm
    have d1 := he.cell e1
    have d2 := he.cell e2
    by_cases hlt : k < l.length
    · obtain ⟨b, off, v, ha, p1, hv, p2⟩ := HC.out.ext (E1.trans he) k hlt
      subst ha
      obtain ⟨sa, sc, rfl, hcs, hls⟩ := hv
      have HCS := Lib.hid hcs
      have HLS := Lib.hid hls
      have HM := Lib.hid (movesK_succ l x k)
      have hq := movesK_len l x k
      clear hcs hls
      generalize l.getD k stp0 = y at p1 p2 HCS HLS HM
      obtain ⟨st, wait⟩ := y
      dsimp only at p1 p2 HCS HLS HM
      have z1 := cell_lt p1
      dsimp only at z1
      have hsz := he.size
      have hmv : movesIn x (st, wait) = movesL x st := rfl
      rw [hmv] at HM
      have EB : Ext wr (wr.alloc (.cells #[.slice sa st.length sc, .int .i64 wait] 65)) := extA
      have HWY := Lib.hid (ContainsK_any st x (w.heap.size + 1) sa sc _ HLS.out (HCS.out.ext EB) (EB.cell d2))
      clear hmv
      generalize movesL x st = v at HM HWY
      cases hv : v
      · have HR : Hid (movesK l x (k + 1) = movesK l x k) := by show _ = _; rw [HM.out, hv]; simp
        clear HM
        go_wp2_with fail
        refine HWY.out.mono ?_
        rintro e w2 ⟨rfl, hE0⟩
        have hE := EB.trans hE0
        rw [hv]
        go_wp2
        refine ⟨⟨k + 1, by omega, by go_num, ⟨vv, rfl, by rw [HR.out]; exact ⟨hO.out.1.ext hE, hO.out.2⟩⟩, he.trans hE⟩, by simp [intOf]; omega⟩
      · have HR : Hid (movesK l x (k + 1) = movesK l x k ++ [(k : Int)]) := by show _ = _; rw [HM.out, hv]; simp
        have O2 := Lib.hid hO.out.1
        have OB := Lib.hid hO.out.2
        clear HM hO
        generalize hP : movesK l x k = P at HR O2 hq
        clear hP
        go_wp2_with fail
        refine HWY.out.mono ?_
        rintro e w2 ⟨rfl, hE0⟩
        have hE := EB.trans hE0
        rw [hv]
        have hsz2 := hE.size
        go_wp2_with (at_builtin; refine wpList_append1 _ rfl _ _ 27 rfl 3 i0 (.int .i64 0) 1 8 Tryd.underlying27 hi hi0 hi1 hi2 rfl (by decide) vv P.length (P.map (Value.int .i64)) rfl ?ho ⟨w2.heap.size, 0, none⟩ 1 1 (by decide) [.int .i64 (k : Int)] rfl rfl ?hn ?c1 ?c2 ?c3 ?c4)
        case ho => exact (O2.out.ext hE).ext ((Ext.refl _).alloc _)
        case hn => exact cells_one _ _ _
        case c1 => intro u hu; simp at hu; subst hu; rfl
        case c2 => unfold maxLen; omega
        case c3 => omega
        case c4 =>
          intro v' w5 hown5 hend5
          have O5 : Hid (OwnsI w5 v' (movesK l x (k + 1))) := by show OwnsI _ _ _; rw [HR.out]; exact ownsI_succ hown5
          have B6 : Ext W w5 := ((he.trans hE).trans ((Ext.refl _).alloc _)).trans' (hend5.below (n := W.heap.size) (by simp; omega) OB.out) (Nat.le_refl _)
          skip
          have OB5 : Hid (∀ b, v'.ownBlock = some b → W.heap.size ≤ b) := hend5.ge (n := W.heap.size) (by simp; omega) OB.out
          clear hown5 hend5 O2 OB
          go_wp2
          refine ⟨⟨k + 1, by omega, by go_num, ⟨v', rfl, O5.out, OB5.out⟩, B6⟩, by simp [intOf]; omega⟩
    · have hke : k = l.length := by omega
      subst hke
      go_wp2
      go_ret
      exact ⟨_, rfl, by rw [← movesK_end]; exact hO.out.1, (fun b hb => Nat.le_trans hW (hO.out.2 b hb)), E1.trans he⟩
end Go.Proofs.YtdolibeceijnnaaDoor
namespace Go.Proofs.YtdolibeceijnnaaDoor
open Go.RowKit
end Go.Proofs.YtdolibeceijnnaaDoor
namespace Go.Proofs.YtdolibeceijnnaaDoor
open Go.RowKit
end Go.Proofs.YtdolibeceijnnaaDoor
namespace Go.Proofs.YtdolibeceijnnaaDoor
open Go.RowKit
def insI (c : Int → Int → Int) (x : Int) : List Int → List Int
  | [] => [x]
  | y :: r => if c x y < 0 then y :: insI c x r else x :: y :: r
def sortI (c : Int → Int → Int) : List Int → List Int
  | [] => []
  | x :: r => insI c x (sortI c r)
theorem insI_length (c : Int → Int → Int) (x : Int) (r : List Int) : (insI c x r).length = r.length + 1 := by
  induction r with
  | nil => rfl
  | cons y r ih => unfold insI; split <;> simp [ih]
theorem sortI_length (c : Int → Int → Int) (r : List Int) : (sortI c r).length = r.length := by
  induction r with
  | nil => rfl
  | cons x r ih => unfold sortI; rw [insI_length, ih]; rfl
def sortedI (c : Int → Int → Int) (l : List Int) (i : Nat) : List Int := (sortI c (l.take i).reverse).reverse ++ l.drop i
structure InI (c : Int → Int → Int) (x : Int) (S R d : List Int) (j : Nat) : Prop where
  ex : ∃ P M, d = P ++ x :: M ++ S ∧ P.length = j ∧ (insI c x P.reverse).reverse ++ M = R
theorem InI.start (c : Int → Int → Int) (l : List Int) {i : Nat} (h : i < l.length) : InI c (l.getD i 0) (l.drop (i + 1)) (insI c (l.getD i 0) (sortI c (l.take i).reverse)).reverse (sortedI c l i) i :=
  ⟨(sortI c (l.take i).reverse).reverse, [], by unfold sortedI; rw [drop_cons l 0 h]; simp, by rw [List.length_reverse, sortI_length, List.length_reverse, List.length_take]; omega, by rw [List.reverse_reverse, List.append_nil]⟩
theorem InI.at {c : Int → Int → Int} {x : Int} {S R d : List Int} {j : Nat} (h : InI c x S R d j) : d.getD j 0 = x := by
  obtain ⟨P, M, rfl, rfl, _⟩ := h.ex
  rw [List.append_assoc, List.getD_eq_getElem?_getD, List.getElem?_append_right (Nat.le_refl _), Nat.sub_self]; rfl
theorem InI.zero {c : Int → Int → Int} {x : Int} {S R d : List Int} (h : InI c x S R d 0) : d = R ++ S := by
  obtain ⟨P, M, rfl, hp, hr⟩ := h.ex
  have : P = [] := List.eq_nil_of_length_eq_zero hp
  subst this
  rw [← hr]; rfl
theorem InI.stop {c : Int → Int → Int} {x : Int} {S R d : List Int} {j : Nat} (h : InI c x S R d (j + 1)) (hn : ¬ c x (d.getD j 0) < 0) : d = R ++ S := by
  obtain ⟨P, M, rfl, hp, hr⟩ := h.ex
  obtain ⟨P', y, rfl⟩ : ∃ P' y, P = P' ++ [y] := by
    rcases List.eq_nil_or_concat P with rfl | ⟨P', y, rfl⟩
    · simp at hp
    · exact ⟨P', y, by simp⟩
  have hj : P'.length = j := by simp at hp; exact hp
  have hy : ((P' ++ [y]) ++ x :: M ++ S).getD j 0 = y := by
    rw [List.getD_eq_getElem?_getD, List.append_assoc, List.append_assoc, List.getElem?_append_right (by omega), hj, Nat.sub_self]; rfl
  rw [hy] at hn
  rw [List.reverse_append] at hr
  have e : insI c x ([y].reverse ++ P'.reverse) = x :: y :: P'.reverse := by show insI c x (y :: P'.reverse) = _; unfold insI; rw [if_neg hn]
  rw [e] at hr
  rw [← hr]
  simp
theorem InI.swap {c : Int → Int → Int} {x : Int} {S R d : List Int} {j : Nat} (h : InI c x S R d (j + 1)) (hn : c x (d.getD j 0) < 0) : InI c x S R ((d.set (j + 1) (d.getD j 0)).set j x) j := by
  obtain ⟨P, M, rfl, hp, hr⟩ := h.ex
  obtain ⟨P', y, rfl⟩ : ∃ P' y, P = P' ++ [y] := by
    rcases List.eq_nil_or_concat P with rfl | ⟨P', y, rfl⟩
    · simp at hp
    · exact ⟨P', y, by simp⟩
  have hj : P'.length = j := by simp at hp; exact hp
  have hy : ((P' ++ [y]) ++ x :: M ++ S).getD j 0 = y := by
    rw [List.getD_eq_getElem?_getD, List.append_assoc, List.append_assoc, List.getElem?_append_right (by omega), hj, Nat.sub_self]; rfl
  rw [hy] at hn ⊢
  rw [List.reverse_append] at hr
  have e : insI c x ([y].reverse ++ P'.reverse) = y :: insI c x P'.reverse := by show insI c x (y :: P'.reverse) = _; rw [insI, if_pos hn]
  rw [e] at hr
  refine ⟨P', y :: M, ?_, hj, ?_⟩
  · have e1 : (P' ++ [y]) ++ x :: M ++ S = P' ++ (y :: x :: (M ++ S)) := by simp
    rw [e1, List.set_append, if_neg (by omega), List.set_append, if_neg (by simp; omega)]
    have e2 : j + 1 - P'.length = 1 := by omega
    have e3 : j - P'.length = 0 := by omega
    rw [e2, e3]
    simp
  · rw [← hr]; simp
theorem InI.len {c : Int → Int → Int} {x : Int} {S R d : List Int} {j : Nat} (h : InI c x S R d j) : j < d.length := by
  obtain ⟨P, M, rfl, rfl, _⟩ := h.ex
  simp
def IntsAt (w : World) (b : Nat) (d : List Int) : Prop := ∀ i, i < d.length → w.cell? ⟨b, i, none⟩ = some (.int .i64 (d.getD i 0)) ∧ w.frozen? ⟨b, i, none⟩ = false
theorem IntsAt.ext {A B : World} {b : Nat} {d : List Int} (h : IntsAt A b d) (k : Ext A B) : IntsAt B b d := fun i hi => by
  obtain ⟨h1, h3⟩ := h i hi
  exact ⟨k.cell h1, (Below.frozen (p := ⟨b, _, none⟩) k (cell_lt h1)).trans h3⟩
theorem IntsAt.set {w : World} {b : Nat} {d : List Int} (h : IntsAt w b d) {i : Nat} (hi : i < d.length) (x : Int) : IntsAt (w.setCell ⟨b, i, none⟩ (.int .i64 x)) b (d.set i x) := fun j hj => by
  rw [List.length_set] at hj
  obtain ⟨h1, h3⟩ := h j hj
  obtain ⟨k1, _⟩ := h i hi
  refine ⟨?_, by rw [World.frozen?_setCell]; exact h3⟩
  by_cases e : i = j
  · subst e
    rw [World.cell?_setCell_same _ _ _ k1]
    simp [List.getD_eq_getElem?_getD, hi]
  · rw [World.cell?_setCell_other _ _ _ _ (fun h => by simp only [Addr.mk.injEq] at h; omega), h1]
    simp [List.getD_eq_getElem?_getD, e]
structure SiSt (b : Nat) (w wr : World) (d : List Int) : Prop where
  at_ : IntsAt wr b d
  own : Own1 b w wr
theorem SiSt.ext {b : Nat} {w A B : World} {d : List Int} (h : SiSt b w A d) (k : Ext A B) (hb : b < A.heap.size) : SiSt b w B d := ⟨h.at_.ext k, h.own.trans (Own1.ext k (Nat.le_of_lt hb))⟩
end Go.Proofs.YtdolibeceijnnaaDoor
namespace Go.Proofs.YtdolibeceijnnaaDoor
open Go.RowKit
end Go.Proofs.YtdolibeceijnnaaDoor
namespace Go.Proofs.YtdolibeceijnnaaDoor
open Go.RowKit
def bf (l : List Stp) (b a : Int) : Bool := lexLt (movesOf l b) (movesOf l a) || (decide (b < a) && (movesOf l b == movesOf l a))
theorem ints_asc (n : Int) : (ints n).Pairwise fun a b => a < b := by
  unfold ints
  rw [List.pairwise_map]
  exact List.pairwise_lt_range.imp (fun h => by simpa using h)
theorem ints_length (n : Int) : (ints n).length = n.toNat := by unfold ints; simp
theorem ints_mem {n a : Int} : a ∈ ints n ↔ 0 ≤ a ∧ a < n := by
  unfold ints
  rw [List.mem_map]
  constructor
  · rintro ⟨k, hk, rfl⟩
    rw [List.mem_range] at hk
    show (0 : Int) ≤ (k : Int) ∧ (k : Int) < n
    omega
  · intro h
    exact ⟨a.toNat, by rw [List.mem_range]; omega, by show ((a.toNat : Nat) : Int) = a; omega⟩
end Go.Proofs.YtdolibeceijnnaaDoor
namespace Go.Proofs.YtdolibeceijnnaaDoor
open Go.RowKit
theorem step_append_run {P : Program} {ops : Array Oper} {o : Oper} {a : Act} {w : World} {K : Act → World → Prop} {Q : Exit → Act → World → Prop} {E : Prop} (hgd : o.guard = none) (s x : Operand) (t u : TypeId)
    (ho : o.op = .call { callee := .builtin .append, args := #[s, x], argTypes := #[t, u] }) (v y : Value) (hs : a.eval s = v) (hx : a.eval x = y)
    (v' : Value) (w' : World) (hr : (Builtin.append_ #[t, u] o.type #[v, y]).run P w = .ok v' w')
    (h : K (a.put o.dst v') w') :
    if Region.wanted o (yielded ops a.tmps) = true then Oper.wp P o a w K Q else E := by
  have hw : Region.wanted o (yielded ops a.tmps) = true := by simp [Region.wanted, hgd]
  rw [if_pos hw]
  unfold Oper.wp execOp
  simp only [ho, resolve, invoke, builtin, Sem.run_bind, Sem.run_pure, Result.andThen_ok, List.map_toArray, List.map_cons, List.map_nil, hs, hx, hr]
  exact h
theorem PairsAt.take {w : World} {b off : Nat} {ps : List (Value × Stp)} (h : PairsAt w (some ⟨b, off, none⟩) ps) (k : Nat) : PairsAt w (some ⟨b, off, none⟩) (ps.take k) := by
  refine ⟨?_, fun p hp => h.2.1 p (List.mem_of_mem_take hp), fun u hu => ?_⟩
  · right
    refine ⟨b, off, rfl, fun j u hu => ?_⟩
    rcases h.1 with e | ⟨b', off', e, hc⟩
    · rw [e, List.take_nil] at hu; simp [pairP, flat2] at hu
    · cases e
      refine hc j u ?_
      have e2 : flat2 (pairP (ps.take k)) = (flat2 (pairP ps)).take (k * 2) := by rw [flat2_take]; unfold pairP; rw [List.map_take]
      rw [e2] at hu
      exact List.getElem?_eq_some_iff.2 (by
        obtain ⟨h1, h2⟩ := List.getElem?_eq_some_iff.1 hu
        rw [List.length_take] at h1
        exact ⟨by omega, by rw [← h2, List.getElem_take]⟩)
  · have e2 : flat2 (pairP (ps.take k)) = (flat2 (pairP ps)).take (k * 2) := by rw [flat2_take]; unfold pairP; rw [List.map_take]
    rw [e2] at hu
    exact h.2.2 u (List.mem_of_mem_take hu)
theorem PairsAt.drop {w : World} {b off : Nat} {ps : List (Value × Stp)} (h : PairsAt w (some ⟨b, off, none⟩) ps) (k : Nat) : PairsAt w (some ⟨b, off + k * 2, none⟩) (ps.drop k) := by
  have e2 : flat2 (pairP (ps.drop k)) = (flat2 (pairP ps)).drop (k * 2) := by rw [flat2_drop]; unfold pairP; rw [List.map_drop]
  refine ⟨.inr ⟨b, off + k * 2, rfl, fun j u hu => ?_⟩, fun p hp => h.2.1 p (List.mem_of_mem_drop hp), fun u hu => ?_⟩
  · rw [e2, List.getElem?_drop] at hu
    rcases h.1 with e | ⟨b', off', e, hc⟩
    · rw [e] at hu; simp [pairP, flat2] at hu
    · cases e
      have := hc _ u hu
      rw [Addr.add_lit] at this ⊢
      rw [Nat.add_assoc]
      exact this
  · rw [e2] at hu
    exact h.2.2 u (List.mem_of_mem_drop hu)
theorem PairsAt.nil (w : World) (a : Option Addr) : PairsAt w a [] := ⟨.inl rfl, (fun p hp => by cases hp), (fun u hu => by simp [pairP, flat2] at hu)⟩
end Go.Proofs.YtdolibeceijnnaaDoor
namespace Go.Proofs.YtdolibeceijnnaaDoor
open Go.RowKit
end Go.Proofs.YtdolibeceijnnaaDoor
namespace Go.Proofs.YtdolibeceijnnaaDoor
open Go.RowKit
end Go.Proofs.YtdolibeceijnnaaDoor
