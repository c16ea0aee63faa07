/- Steps of the proof: RegE, QMapped, QMap, QCopied, QConcat, QConcatP, QFrom, QFromR, QTurnR, QFromRR, QSort, QSortW, QSortF, QConcatK, QHas, QDel, QMergeM, QMerge, QOrdR, QIntsR, QStepR, QRenE, QMoves, QMovesP, QCmpL, QStd1, QSortI, QStable, QStdP, QAppP, QMergeR, QJoinR, QJoin, QBack. No conditions. -/
import Derived.Lib.AppendZeros
import Derived.Lib.BitFns
import Derived.Deep.RegionLaw
import Derived.Lib.SlicesDelete
import Derived.Deep.DeepCutAuto
import Derived.Test.YtdolibeceijnnaaDoorZGT1
import Derived.Test.YtdolibeceijnnaaDoorZGT2
namespace Go.Proofs.YtdolibeceijnnaaDoor
open Go Go.RowKit
variable {P : Program} {md : Region.Mode} {ops : Array Oper} {Q : Exit → Act → World → Prop} {S : World → Prop} {f : Nat}
def wpAnyE (P : Program) (md : Region.Mode) (ops : Array Oper) (Q : Exit → Act → World → Prop) (S : World → Prop) (f : Nat) : Nat → Array Bool → Act → World → Prop
  | 0, listed, a, w => Region.ready md ops listed = [] ∧ Q .normal a w
  | fuel + 1, listed, a, w =>
    (Region.ready md ops listed = [] → Q .normal a w) ∧
    ∀ i ∈ Region.ready md ops listed, wpOp P ops Q i (fun a' w' => ((listed.setIfInBounds i true).getD f false = false → S w') ∧ wpAnyE P md ops Q S f fuel (listed.setIfInBounds i true) a' w') a w
theorem wpAny_of_heldE : ∀ (fuel : Nat) (listed : Array Bool) (a : Act) (w : World), wpAnyE P md ops Q S f fuel listed a w → wpAny P md ops Q fuel listed a w
  | 0, _, _, _, h => h
  | fuel + 1, _, _, _, h => ⟨h.1, fun i hi => wpOp_mono (fun a' w' h' => wpAny_of_heldE fuel _ a' w' h'.2) (h.2 i hi)⟩
def waitsFor (md : Region.Mode) (ops : Array Oper) (f i : Nat) : Bool := match ops[f]? with
  | some o => o.after.any fun e => Region.binds md e && e.on == i
  | none => true
theorem pend_set {listed : Array Bool} {f i : Nat} (h : f ≠ i) : (listed.setIfInBounds i true).getD f false = listed.getD f false := getD_set_ne false (Ne.symm h)
theorem wpAnyE_first (b : Bool) {i : Nat} {oi : Oper} {v : Value} (hi : ops[i]? = some oi) (hif : f ≠ i) (hsel : ∀ (j : Nat) (o : Oper) cs b, ops[j]? = some o → o.op ≠ .select cs b)
    (hQ : ∀ c a w, Q (.panic c) (a.put oi.dst v) w → Q (.panic c) a w) (hfi : b = true → waitsFor md ops f i = true) :
    ∀ (fuel : Nat) (listed : Array Bool) (a : Act) (w : World),
      (∀ j oj, ops[j]? = some oj → j ≠ i → listed.getD j true = false → (∀ e ∈ oj.after, Region.binds md e = true → e.on ≠ i) → oi.apart ops oj = true) →
      i ∈ Region.ready md ops listed → YieldsIf P ops (fun w => b = true → S w) oi v a → (b = true → listed.getD f false = false) → (listed.getD f false = false → S w) →
      wpAnyE P md ops Q S f fuel (listed.setIfInBounds i true) (a.put oi.dst v) w → wpAnyE P md ops Q S f (fuel + 1) listed a w := by
  intro fuel
  induction fuel with
  | zero =>
    intro listed a w _ hr hy hb hS H
    refine ⟨fun h => (by rw [h] at hr; cases hr), fun j hj => ?_⟩
    by_cases hji : j = i
    · subst hji; exact hy.wpOp hi (fun h => hS (hb h)) ⟨fun h => hS (by rw [pend_set hif] at h; exact h), H⟩
    · have := ready_mono hj hji
      rw [H.1] at this
      cases this
  | succ fuel ih =>
    intro listed a w hfree hr hy hb hS H
    refine ⟨fun h => (by rw [h] at hr; cases hr), fun j hj => ?_⟩
    by_cases hji : j = i
    · subst hji; exact hy.wpOp hi (fun h => hS (hb h)) ⟨fun h => hS (by rw [pend_set hif] at h; exact h), H⟩
    · have h1 := H.2 j (ready_mono hj hji)
      obtain ⟨hjun, oj, hoj, hall⟩ := mem_ready.1 hj
      have hnot : ∀ e ∈ oj.after, Region.binds md e = true → e.on ≠ i := fun e he hb heq => by
        have h1 := hall e he hb
        have h0 := (mem_ready.1 hr).1
        rw [heq] at h1
        rcases Nat.lt_or_ge i listed.size with h' | h'
        · simp [h'] at h0 h1; rw [h0] at h1; cases h1
        · simp [Array.getElem?_eq_none h'] at h1
      have hjf : b = true → f ≠ j := fun hbt hf => by
        subst hf
        have hfi := hfi hbt
        unfold waitsFor at hfi
        rw [hoj] at hfi
        obtain ⟨e, he, h2⟩ := Array.any_eq_true'.1 hfi
        simp only [Bool.and_eq_true, beq_iff_eq] at h2
        exact hnot e he h2.1 h2.2
      have h2 := wpOp_putIf hoj (hfree j oj hoj hji hjun hnot) (fun cs b => hsel i oi cs b hi) (fun cs b => hsel j oj cs b hoj) hQ hy h1
      have hfree' : ∀ k ok, ops[k]? = some ok → k ≠ i → (listed.setIfInBounds j true).getD k true = false →
          (∀ e ∈ ok.after, Region.binds md e = true → e.on ≠ i) → oi.apart ops ok = true := fun k ok hk hki hun hno => by
        refine hfree k ok hk hki ?_ hno
        by_cases hjk : j = k
        · subst hjk; exact hjun
        · rw [getD_set_ne true hjk] at hun; exact hun
      refine wpOp_mono (fun a' w' h3 => ?_) h2
      have hc : (listed.setIfInBounds j true).getD f false = false → S w' := fun h => h3.2.1 (by rw [Array.setIfInBounds_comm _ _ (Ne.symm hji), pend_set hif]; exact h)
      refine ⟨hc, ih (listed.setIfInBounds j true) a' w' hfree' (ready_mono hr (Ne.symm hji)) h3.1 (fun h => by rw [pend_set (hjf h)]; exact hb h) hc ?_⟩
      rw [Array.setIfInBounds_comm _ _ hji]
      exact h3.2.2
theorem wpAnyE_take {i : Nat} {oi : Oper} {v : Value} {fuel : Nat} {listed : Array Bool} {a : Act} {w : World} (hi : ops[i]? = some oi)
    (hs : (Region.noSelect ops && Region.free md ops listed i && (Region.ready md ops listed).contains i && waitsFor md ops f i && (f != i) && !listed.getD f false) = true)
    (hQ : ∀ c a w, Q (.panic c) (a.put oi.dst v) w → Q (.panic c) a w) (hy : YieldsIf P ops S oi v a) (hS : S w)
    (h : wpAnyE P md ops Q S f fuel (listed.setIfInBounds i true) (a.put oi.dst v) w) : wpAnyE P md ops Q S f (fuel + 1) listed a w := by
  simp only [Bool.and_eq_true, bne_iff_ne, Bool.not_eq_true'] at hs
  refine wpAnyE_first true hi hs.1.2 (Region.noSelect_spec hs.1.1.1.1.1) hQ (fun _ => hs.1.1.2) fuel listed a w (Region.free_spec hi hs.1.1.1.1.2) (by simpa using hs.1.1.1.2) ?_ (fun _ => hs.2) (fun _ => hS) h
  rcases hy with ⟨h1, h2⟩ | h1
  · exact .inl ⟨h1, fun w hw => h2 w (hw rfl)⟩
  · exact .inr h1
theorem wpAnyE_pure {i : Nat} {oi : Oper} {v : Value} {fuel : Nat} {listed : Array Bool} {a : Act} {w : World} (hi : ops[i]? = some oi)
    (hs : (Region.noSelect ops && Region.free md ops listed i && (Region.ready md ops listed).contains i && (f != i)) = true)
    (hQ : ∀ c a w, Q (.panic c) (a.put oi.dst v) w → Q (.panic c) a w) (hy : YieldsIf P ops (fun _ => True) oi v a) (hS : listed.getD f false = false → S w)
    (h : wpAnyE P md ops Q S f fuel (listed.setIfInBounds i true) (a.put oi.dst v) w) : wpAnyE P md ops Q S f (fuel + 1) listed a w := by
  simp only [Bool.and_eq_true, bne_iff_ne] at hs
  refine wpAnyE_first false hi hs.2 (Region.noSelect_spec hs.1.1.1) hQ (fun h => by cases h) fuel listed a w (Region.free_spec hi hs.1.1.2) (by simpa using hs.1.2) ?_ (fun h => by cases h) hS h
  rcases hy with ⟨h1, h2⟩ | h1
  · exact .inl ⟨h1, fun w _ => h2 w trivial⟩
  · exact .inr h1
theorem wpAnyE_one {i : Nat} {o : Oper} {fuel : Nat} {listed : Array Bool} {a : Act} {w : World} (ho : ops[i]? = some o) (hr : Region.ready md ops listed = [i])
    (h : ∀ K' : Act → World → Prop, Shut (∀ a w, S w → (S w → wpAnyE P md ops Q S f fuel (listed.setIfInBounds i true) a w) → K' a w) → if Region.wanted o (yielded ops a.tmps) = true then Oper.wp P o a w K' Q else K' (a.put o.dst undef) w) :
    wpAnyE P md ops Q S f (fuel + 1) listed a w := by
  refine ⟨fun h0 => (by rw [hr] at h0; cases h0), fun j hj => ?_⟩
  rw [hr] at hj
  rcases List.mem_singleton.1 hj with rfl
  exact wpOp_step ho (fun K' hK => h K' (fun a w hS hW => hK a w ⟨fun _ => hS, hW hS⟩))
theorem wpAnyE_two {i j : Nat} {o p : Oper} {fuel : Nat} {listed : Array Bool} {a : Act} {w : World} (ho : ops[i]? = some o) (hp : ops[j]? = some p) (hr : Region.ready md ops listed = [i, j])
    (h : ∀ K' : Act → World → Prop, Shut (∀ a w, S w → (S w → wpAnyE P md ops Q S f fuel (listed.setIfInBounds i true) a w) → K' a w) → if Region.wanted o (yielded ops a.tmps) = true then Oper.wp P o a w K' Q else K' (a.put o.dst undef) w)
    (h2 : ∀ K' : Act → World → Prop, Shut (∀ a w, S w → (S w → wpAnyE P md ops Q S f fuel (listed.setIfInBounds j true) a w) → K' a w) → if Region.wanted p (yielded ops a.tmps) = true then Oper.wp P p a w K' Q else K' (a.put p.dst undef) w) :
    wpAnyE P md ops Q S f (fuel + 1) listed a w := by
  refine ⟨fun h0 => (by rw [hr] at h0; cases h0), fun k hk => ?_⟩
  rw [hr] at hk
  rcases List.mem_cons.1 hk with rfl | hk
  · exact wpOp_step ho (fun K' hK => h K' (fun a w hS hW => hK a w ⟨fun _ => hS, hW hS⟩))
  · rcases List.mem_singleton.1 hk with rfl
    exact wpOp_step hp (fun K' hK => h2 K' (fun a w hS hW => hK a w ⟨fun _ => hS, hW hS⟩))
theorem wpAnyE_free {i : Nat} {o : Oper} {fuel : Nat} {listed : Array Bool} {a : Act} {w : World} (ho : ops[i]? = some o) (hr : Region.ready md ops listed = [i]) (hl : (listed.setIfInBounds i true).getD f false = true)
    (h : ∀ K' : Act → World → Prop, Shut (∀ a w, wpAnyE P md ops Q S f fuel (listed.setIfInBounds i true) a w → K' a w) → if Region.wanted o (yielded ops a.tmps) = true then Oper.wp P o a w K' Q else K' (a.put o.dst undef) w) :
    wpAnyE P md ops Q S f (fuel + 1) listed a w := by
  refine ⟨fun h0 => (by rw [hr] at h0; cases h0), fun j hj => ?_⟩
  rw [hr] at hj
  rcases List.mem_singleton.1 hj with rfl
  exact wpOp_step ho (fun K' hK => h K' (fun a w hW => hK a w ⟨fun h => (by rw [hl] at h; cases h), hW⟩))
theorem wpAnyE_done {listed : Array Bool} {a : Act} {w : World} (hr : Region.ready md ops listed = []) (h : Q .normal a w) :
    ∀ fuel, wpAnyE P md ops Q S f fuel listed a w
  | 0 => ⟨hr, h⟩
  | _ + 1 => ⟨fun _ => h, by rw [hr]; simp⟩
theorem wp_region_heldE (f : Nat) (S : World → Prop) {id : Nat} {a : Act} {w : World} (hm : P.follows .mixedOrders = true)
    (h : wpAnyE P .any ops Q S f ops.size (Array.replicate ops.size false) a w.drew) : (Code.region id ops true).wp P Q a w :=
  wp_region_any hm (wpAny_of_heldE _ _ _ _ h)
theorem eTk {P : Program} {md : Region.Mode} {ops : Array Oper} {Q : Exit → Act → World → Prop} {S : World → Prop} {f : Nat} (i : Nat) {oi : Oper} {v : Value} {fuel : Nat} {listed : Array Bool} {a b : Act} {w : World}
    (h : wpAnyE P md ops Q S f fuel (listed.setIfInBounds i true) b w)
    (hi : ops[i]? = some oi := by simp only [List.getElem?_toArray, List.getElem?_cons_succ, List.getElem?_cons_zero]; exact rfl)
    (hs : (Region.noSelect ops && Region.free md ops listed i && (Region.ready md ops listed).contains i && waitsFor md ops f i && (f != i) && !listed.getD f false) = true := by kernel_rfl)
    (hQ : ∀ c a w, Q (.panic c) (a.put oi.dst v) w → Q (.panic c) a w := by exact fun _ _ _ h => h)
    (hy : YieldsIf P ops S oi v a := by refine Or.inl ⟨by rfl, ?_⟩; intro w hSw; (try dsimp only at hSw); (first | (go_simp; done) | (go_simp; with_reducible rfl)))
    (hb : a.put oi.dst v = b := by (try simp only [Act.put, List.setIfInBounds_toArray, List.set_cons_zero, List.set_cons_succ]); exact rfl)
    (hS : S w := by assumption) : wpAnyE P md ops Q S f (fuel + 1) listed a w := by
  subst hb
  exact wpAnyE_take hi hs hQ hy hS h
theorem ePu {P : Program} {md : Region.Mode} {ops : Array Oper} {Q : Exit → Act → World → Prop} {S : World → Prop} {f : Nat} (i : Nat) {oi : Oper} {v : Value} {fuel : Nat} {listed : Array Bool} {a b : Act} {w : World}
    (h : wpAnyE P md ops Q S f fuel (listed.setIfInBounds i true) b w)
    (hi : ops[i]? = some oi := by simp only [List.getElem?_toArray, List.getElem?_cons_succ, List.getElem?_cons_zero]; exact rfl)
    (hs : (Region.noSelect ops && Region.free md ops listed i && (Region.ready md ops listed).contains i && (f != i)) = true := by kernel_rfl)
    (hQ : ∀ c a w, Q (.panic c) (a.put oi.dst v) w → Q (.panic c) a w := by exact fun _ _ _ h => h)
    (hy : YieldsIf P ops (fun _ => True) oi v a := by refine Or.inl ⟨by rfl, ?_⟩; intro w hSw; clear hSw; (first | (go_simp; done) | (go_simp; with_reducible rfl)))
    (hb : a.put oi.dst v = b := by (try simp only [Act.put, List.setIfInBounds_toArray, List.set_cons_zero, List.set_cons_succ]); exact rfl)
    (hS : listed.getD f false = false → S w := by first | exact (fun _ => by assumption) | (intro hlst; exact absurd hlst (by kernel_rfl)) | (intro hlst; cases hlst)) : wpAnyE P md ops Q S f (fuel + 1) listed a w := by
  subst hb
  exact wpAnyE_pure hi hs hQ hy hS h
end Go.Proofs.YtdolibeceijnnaaDoor
namespace Go.Proofs.YtdolibeceijnnaaDoor
open Go.RowKit
theorem step_append1 {P : Program} {ops : Array Oper} {o : Oper} {a : Act} {w : World} {K : Act → World → Prop} {Q : Exit → Act → World → Prop} {E : Prop} (hgd : o.guard = none) (s x : Operand) (t : TypeId)
    (ho : o.op = .call { callee := .builtin .append, args := #[s, x], argTypes := #[t, t] })
    (e : TypeId) (i : TypeInfo) (z : Value) (size bytes : Nat) (ht : P.underlying t = some (.slice e)) (hi : P.info? e = some i) (hz : i.zero = some z)
    (hsize : i.size = size) (hby : i.bytes = bytes) (hzs : z.cells.size = size) (hsz : 0 < size)
    (v : Value) (n : Nat) (xs : List Value) (hs : a.eval s = v) (hown : w.ownsRow 0 e size v n xs)
    (ad : Addr) (m c : Nat) (hm : 0 < m) (news : List Value) (hx : a.eval x = .slice (some ad) m c) (hl : news.length = m * size) (hnews : ∀ j u, news[j]? = some u → w.cell? (ad.add j) = some u) (h1 : ∀ u ∈ news, u.oneCell' = true)
    (h63 : n + m ≤ maxLen) (hbytes : (n + m) * bytes ≤ 140737488355328)
    (h : ∀ v' w', w'.ownsRow 0 e size v' (n + m) (xs ++ news) → AppEnd w w' v v' → K (a.put o.dst v') w') :
    if Region.wanted o (yielded ops a.tmps) = true then Oper.wp P o a w K Q else E := by
  have hw : Region.wanted o (yielded ops a.tmps) = true := by simp [Region.wanted, hgd]
  rw [if_pos hw]
  obtain ⟨v', w', hr, h2, h3⟩ := run_append1 (P := P) w t o.type e i z size bytes ht hi hz hsize hby hzs hsz v n xs hown ad m c hm news hl hnews h1 h63 hbytes
  unfold Oper.wp execOp
  simp only [ho, resolve, invoke, builtin, Sem.run_bind, Sem.run_pure, Result.andThen_ok, List.map_toArray, List.map_cons, List.map_nil, hs, hx, hr]
  exact h v' w' h2 h3
def SliceKX (X : Nat → Prop) (w : World) (v : Value) (l : List Stk) : Prop := ∃ a cap, v = .slice a l.length cap ∧ CellsK w a l ∧ l.length ≤ maxLen ∧ ∀ b off, a = some ⟨b, off, none⟩ → l ≠ [] → ¬ X b
theorem SliceKX.slice {X : Nat → Prop} {w : World} {v : Value} {l : List Stk} (h : SliceKX X w v l) : SliceK w v l := by
  obtain ⟨a, cap, h1, h2, h3, _⟩ := h
  exact ⟨a, cap, h1, h2, h3⟩
theorem SliceKX.chg {X : Nat → Prop} {A B : World} {v : Value} {l : List Stk} (h : SliceKX X A v l) (c : Chg X A B) : SliceK B v l := by
  obtain ⟨a, cap, h1, h2, h3, h4⟩ := h
  refine ⟨a, cap, h1, fun i hi => ?_, h3⟩
  obtain ⟨b, off, e1, e2, e3⟩ := h2 i hi
  have hb := h4 b off e1 (by intro h; simp [h] at hi)
  exact ⟨b, off, e1, (World.cell?_of_block (w := A) (a := ⟨b, _, none⟩) (c.2 b (cell_lt e2) hb)).trans e2, (World.cell?_of_block (w := A) (a := ⟨b, _, none⟩) (c.2 b (cell_lt e3) hb)).trans e3⟩
theorem SliceKX.chgX {X Y : Nat → Prop} {A B : World} {v : Value} {l : List Stk} (h : SliceKX X A v l) (c : Chg X A B) (hy : ∀ b, b < A.heap.size → Y b → X b) : SliceKX Y B v l := by
  have h' := h
  obtain ⟨a, cap, h1, h2, h3, h4⟩ := h
  obtain ⟨a', cap', e1, e2, e3⟩ := h'.chg c
  rw [h1] at e1
  cases e1
  refine ⟨a, cap, h1, e2, h3, fun b off hb hne hY => ?_⟩
  obtain ⟨b1, o1, f1, f2, _⟩ := h2 0 (List.length_pos_iff.2 hne)
  rw [hb] at f1
  cases f1
  exact h4 b off hb hne (hy b (cell_lt f2) hY)
def pairP (ps : List (Value × Stp)) : List (Value × Value) := ps.map fun p => (p.1, .int .i64 p.2.2)
def OwnsP (X : Nat → Prop) (w : World) (v : Value) (ys : List Stp) : Prop :=
  ∃ ps : List (Value × Stp), ps.map (·.2) = ys ∧ w.ownsRow 0 65 2 v ys.length (flat2 (pairP ps)) ∧ ∀ p ∈ ps, SliceKX (fun b => X b ∨ v.ownBlock = some b) w p.1 p.2.1
theorem OwnsP.nil (X : Nat → Prop) (w : World) : OwnsP X w (.slice none 0 0) [] := ⟨[], rfl, World.ownsRow_nil w 0 _ _, fun p hp => by cases hp⟩
theorem OwnsP.chg {X : Nat → Prop} {A B : World} {v : Value} {ys : List Stp} (h : OwnsP X A v ys) (c : Chg X A B) (hv : ∀ b, v.ownBlock = some b → ¬ X b) : OwnsP X B v ys := by
  obtain ⟨ps, h1, h2, h3⟩ := h
  refine ⟨ps, h1, rowSame h2 (fun b hb => c.2 b (rowLt h2 hb) (hv b hb)), fun p hp => ?_⟩
  exact (h3 p hp).chgX ⟨c.1, fun k hk hn => c.2 k hk (fun hx => hn (.inl hx))⟩ (fun b _ hy => hy)
theorem OwnsP.reads {X : Nat → Prop} {A : World} {v : Value} {ys : List Stp} (h : OwnsP X A v ys) : SliceP A v ys := by
  obtain ⟨ps, h1, h2, h3⟩ := h
  obtain ⟨a, cap, hv, hm, hr⟩ := rowReads h2
  refine ⟨a, cap, hv, fun i hi => ?_, rowRoom h2 hv⟩
  have hl : ps.length = ys.length := by rw [← h1]; simp
  have hi' : i < (pairP ps).length := by simp [pairP]; omega
  have hip : i < ps.length := by omega
  have hg := flat2_get (pairP ps) i hi'
  have e1 : (pairP ps)[i].1 = ps[i].1 := by simp [pairP]
  have e2 : (pairP ps)[i].2 = .int .i64 ps[i].2.2 := by simp [pairP]
  rw [e1, e2] at hg
  have ey : ys.getD i stp0 = ps[i].2 := by rw [← h1]; simp [List.getD, hip]
  obtain ⟨b, hb, _, g1, _⟩ := hr _ _ hg.1
  obtain ⟨b', hb', _, g2, _⟩ := hr _ _ hg.2
  rw [hb] at hb'
  cases hb'
  refine ⟨b, 0, ps[i].1, hb, by rw [Nat.zero_add]; exact g1, ?_, ?_⟩
  · rw [ey]; exact (h3 _ (List.getElem_mem hip)).slice
  · rw [ey, Nat.zero_add]; exact g2
theorem OwnsP.app {X : Nat → Prop} {A B : World} {v v' : Value} {ys : List Stp} {u : Value} {y : Stp} (h : OwnsP X A v ys) (hu : SliceKX (fun b => X b ∨ v.ownBlock = some b) A u y.1) (_hX : ∀ b, X b → b < A.heap.size)
    (hown : B.ownsRow 0 65 2 v' (ys.length + 1) (flat2 (pairP (Classical.choose h)) ++ [u, .int .i64 y.2])) (he : AppEnd A B v v') : OwnsP X B v' (ys ++ [y]) := by
  obtain ⟨h1, h2, h3⟩ := Classical.choose_spec h
  refine ⟨Classical.choose h ++ [(u, y)], by rw [List.map_append, h1]; rfl, ?_, ?_⟩
  · unfold pairP at hown ⊢
    rw [List.length_append, List.map_append, flat2_append]
    exact hown
  · have c : Chg (fun b => X b ∨ v.ownBlock = some b) A B := by
      rcases he with ⟨_, _, hg⟩ | ⟨_, hx⟩
      · exact ⟨hg.size, fun k hk hn => hg.block k hk (fun e => hn (.inr e.symm))⟩
      · exact Chg.ext hx
    have hy : ∀ b, b < A.heap.size → (X b ∨ v'.ownBlock = some b) → (X b ∨ v.ownBlock = some b) := fun b hb hh => by
      rcases hh with hh | hh
      · exact .inl hh
      · rcases he with ⟨hv, _, _⟩ | ⟨hv, _⟩
        · exact .inr (hv ▸ hh)
        · rw [hv] at hh; cases hh; omega
    intro p hp
    rcases List.mem_append.1 hp with hp | hp
    · exact (h3 p hp).chgX c hy
    · rcases List.mem_singleton.1 hp with rfl
      exact hu.chgX c hy
theorem Chg.mono {B C : Nat → Prop} {A D : World} (h : Chg B A D) (k : ∀ b, B b → C b) : Chg C A D := ⟨h.1, fun i hi hn => h.2 i hi (fun hb => hn (k i hb))⟩
def SeqPost (s : Sq) (w : World) (e : Ending) (w' : World) : Prop := ∃ v, e = .returned v ∧ (∀ B, Chg (fun b => b < w.heap.size) w' B → SeqV B v s) ∧ Ext w w'
theorem SliceKX.monoX {X Y : Nat → Prop} {A : World} {v : Value} {l : List Stk} (h : SliceKX X A v l) (hy : ∀ b, Y b → X b) : SliceKX Y A v l := h.chgX (Chg.refl X A) (fun b _ hb => hy b hb)
theorem OwnsP.mono {X Y : Nat → Prop} {A : World} {v : Value} {ys : List Stp} (h : OwnsP X A v ys) (hy : ∀ b, Y b → X b) : OwnsP Y A v ys := by
  obtain ⟨ps, h1, h2, h3⟩ := h
  exact ⟨ps, h1, h2, fun p hp => (h3 p hp).monoX (fun b hb => hb.imp (hy b) id)⟩
def OwnPost (s : Sq) (w : World) (e : Ending) (w' : World) : Prop := ∃ o v, w.heap.size ≤ o ∧ e = .returned (.agg #[.int .i64 s.1, v]) ∧ OwnsP (fun b => b ≤ o) w' v s.2 ∧ (∀ b, v.ownBlock = some b → o < b) ∧ Ext w w'
theorem OwnPost.seq {s : Sq} {w : World} {e : Ending} {w' : World} (h : OwnPost s w e w') : SeqPost s w e w' := by
  obtain ⟨o, v, ho, he, h1, h2, h3⟩ := h
  refine ⟨_, he, fun B hB => ⟨v, rfl, ?_⟩, h3⟩
  exact (OwnsP.chg (h1.mono (Y := fun b => b < w.heap.size) (fun b hb => by omega)) hB (fun b hb e => by have := h2 b hb; omega)).reads
end Go.Proofs.YtdolibeceijnnaaDoor
namespace Go.Proofs.YtdolibeceijnnaaDoor
open Go.RowKit
def ChPost (y : Stp) (v : Value) (w : World) (e : Ending) (w' : World) : Prop :=
  ∃ u, e = .returned (.agg #[u, .int .i64 y.2]) ∧ SliceK w' u y.1 ∧ (∀ b, u.ownBlock = some b → v.ownBlock = some b ∨ w.heap.size ≤ b) ∧ (∃ a, ∃ c, u = .slice a y.1.length c ∧ ∀ b off, a = some ⟨b, off, none⟩ → off = 0) ∧ ∀ n, n ≤ w.heap.size → (∀ b, v.ownBlock = some b → n ≤ b) → Below n w w'
structure MpSt (o : Nat) (W0 wr : World) (n : Int) (ys : List Stp) : Prop where
  be : Below o W0 wr
  c0 : wr.cell? ⟨o, 0, none⟩ = some (.int .i64 n)
  f1 : wr.frozen? ⟨o, 1, none⟩ = false
  v : ∃ v, wr.cell? ⟨o, 1, none⟩ = some v ∧ OwnsP (fun b => b ≤ o) wr v ys ∧ ∀ b, v.ownBlock = some b → o < b
def mapK (ch : Nat → Stp → Stp) (l : List Stp) (k : Nat) : List Stp := (List.range k).map fun i => ch i (l.getD i stp0)
theorem mapK_succ (ch : Nat → Stp → Stp) (l : List Stp) (k : Nat) : mapK ch l (k + 1) = mapK ch l k ++ [ch k (l.getD k stp0)] := by
  unfold mapK; rw [List.range_succ, List.map_append]; rfl
theorem mapK_len (ch : Nat → Stp → Stp) (l : List Stp) (k : Nat) : (mapK ch l k).length = k := by simp [mapK]
def Full (l : List Stp) : Prop := ∀ k, k < l.length → 0 < (l.getD k stp0).1.length ∧ (l.getD k stp0).1.length ≤ 40
set_option maxHeartbeats 8000000 in
set_option maxRecDepth 100000 in
theorem mapped_own (n : Int) (l : List Stp) (a : Option Addr) (cap : Nat) (w : World) (g : Nat) (cb : Array Value) (ch : Nat → Stp → Stp) (hl : l.length ≤ 200) (hf : Full l) (hc : CellsP w a l)
    (heg : ∀ args w, (callFunc g args).run Tryd.prog w = .ok (.enter g args) w)
    (hch : ∀ (k : Nat) (v : Value) (w' : World), k < l.length → Ext w w' → OwnsK w' v (l.getD k stp0).1 → (∀ b, v.ownBlock = some b → w.heap.size ≤ b) → Calls Tryd.prog g (#[.int .i64 (k : Int), .agg #[v, .int .i64 (l.getD k stp0).2]] ++ cb) w' (ChPost (ch k (l.getD k stp0)) v w')) :
    Calls Tryd.prog 31 #[.agg #[.int .i64 n, .slice a l.length cap], .func (.func g) #[] cb] w (OwnPost (n, mapK ch l l.length) w) := by
  have HC := Lib.hid hc
  have HF := Lib.hid hf
  have HCH := Lib.hid hch
  clear hc hf hch
  obtain ⟨i0, hi, hi0, hi1, hi2⟩ := info_parts infoStp
  have hz : ∀ w, (zeroValue 65).run Tryd.prog w = .ok (.agg #[.slice none 0 0, .int .i64 0]) w := fun _ => by kernel_rfl
  go_enter Tryd.func31, Tryd.ntmps31
  go_wp2
  have E1 : Ext w (((w.alloc (.cells #[.int .i64 n, .slice a l.length cap] 24)).alloc (.cells #[.int .i64 0, .slice none 0 0] 24)).alloc (.cells #[.int .i64 n, .slice none 0 0] 24)) := extA
  have c1 : (((w.alloc (.cells #[.int .i64 n, .slice a l.length cap] 24)).alloc (.cells #[.int .i64 0, .slice none 0 0] 24)).alloc (.cells #[.int .i64 n, .slice none 0 0] 24)).cell? ⟨w.heap.size + 1, 0, none⟩ = some (.int .i64 0) := by go_simp
  have c2 : (((w.alloc (.cells #[.int .i64 n, .slice a l.length cap] 24)).alloc (.cells #[.int .i64 0, .slice none 0 0] 24)).alloc (.cells #[.int .i64 n, .slice none 0 0] 24)).cell? ⟨w.heap.size + 1, 1, none⟩ = some (.slice none 0 0) := by go_simp
  have c3 : (((w.alloc (.cells #[.int .i64 n, .slice a l.length cap] 24)).alloc (.cells #[.int .i64 0, .slice none 0 0] 24)).alloc (.cells #[.int .i64 n, .slice none 0 0] 24)).cell? ⟨w.heap.size + 1 + 1, 0, none⟩ = some (.int .i64 n) := by go_simp
  have c4 : (((w.alloc (.cells #[.int .i64 n, .slice a l.length cap] 24)).alloc (.cells #[.int .i64 0, .slice none 0 0] 24)).alloc (.cells #[.int .i64 n, .slice none 0 0] 24)).cell? ⟨w.heap.size + 1 + 1, 1, none⟩ = some (.slice none 0 0) := by go_simp
  have f1 : (((w.alloc (.cells #[.int .i64 n, .slice a l.length cap] 24)).alloc (.cells #[.int .i64 0, .slice none 0 0] 24)).alloc (.cells #[.int .i64 n, .slice none 0 0] 24)).frozen? ⟨w.heap.size + 1, 0, none⟩ = false := by go_simp
  have f2 : (((w.alloc (.cells #[.int .i64 n, .slice a l.length cap] 24)).alloc (.cells #[.int .i64 0, .slice none 0 0] 24)).alloc (.cells #[.int .i64 n, .slice none 0 0] 24)).frozen? ⟨w.heap.size + 1, 1, none⟩ = false := by go_simp
  have f4 : (((w.alloc (.cells #[.int .i64 n, .slice a l.length cap] 24)).alloc (.cells #[.int .i64 0, .slice none 0 0] 24)).alloc (.cells #[.int .i64 n, .slice none 0 0] 24)).frozen? ⟨w.heap.size + 1 + 1, 1, none⟩ = false := by go_simp
  generalize (((w.alloc (.cells #[.int .i64 n, .slice a l.length cap] 24)).alloc (.cells #[.int .i64 0, .slice none 0 0] 24)).alloc (.cells #[.int .i64 n, .slice none 0 0] 24)) = W at E1 c1 c2 c3 c4 f1 f2 f4 ⊢
  obtain ⟨o, ho⟩ : ∃ o, o = w.heap.size + 1 + 1 := ⟨_, rfl⟩
  have ho1 : w.heap.size + 1 < o := by omega
  have hoW : o < W.heap.size := by rw [ho]; exact cell_lt c3
  rw [← ho] at c3 c4 f4 ⊢
  have M0 : Hid (MpSt o W W n (mapK ch l 0)) := ⟨Below.refl _ _, c3, f4, _, c4, OwnsP.nil _ _, fun b hb => by cases hb⟩
  clear c3 c4 f4 ho
  go_loopw [14] (fun i wr => ∃ k : Nat, k ≤ l.length ∧ i = .int .i64 k ∧ Hid (MpSt o W wr n (mapK ch l k))) (fun i _ => l.length - (intOf i).toNat)
  case atStart => exact ⟨0, Nat.zero_le _, rfl, M0⟩
  case round =>
    obtain ⟨k, hk, rfl, M⟩ := hrel
    clear M0
    have hbe := M.out.be
    have E2 : Ext w wr := E1.trans' hbe (by omega)
    have hsz := hbe.size
    have how : o < wr.heap.size := by omega
    by_cases hlt : k < l.length
    · obtain ⟨b, off, v, ha, p1, hv, p2⟩ := HC.out k hlt
      subst ha
      obtain ⟨sa, sc, rfl, hcs, hls⟩ := hv
      have p1 := E2.cell p1
      have p2 := E2.cell p2
      have hfu := HF.out k hlt
      have HCK := Lib.hid (fun (v : Value) (w' : World) => HCH.out k v w' hlt)
      have HMS := Lib.hid (mapK_succ ch l k)
      have hmk := mapK_len ch l k
      obtain ⟨sb, so, hsa, _, _⟩ := hcs 0 hfu.1
      subst hsa
      have HCS := Lib.hid hcs
      clear hcs hls
      generalize l.getD k stp0 = x at p1 p2 HCS hfu HCK HMS
      obtain ⟨st, wait⟩ := x
      dsimp only at p1 p2 HCS hfu HCK HMS
      obtain ⟨hfu1, hfu2⟩ := hfu
      have z1 := cell_lt p1
      dsimp only at z1
      obtain ⟨ov, m1, m2, m3⟩ := M.out.v
      have m0 := M.out.c0
      have mf := M.out.f1
      have HM2 := Lib.hid m2
      have HM3 := Lib.hid m3
      clear m2 m3 M
      have EX : Ext wr (wr.alloc (.cells #[.slice (some ⟨sb, so, none⟩) st.length sc, .int .i64 wait] 65)).drew := extA
      have x0 : (wr.alloc (.cells #[.slice (some ⟨sb, so, none⟩) st.length sc, .int .i64 wait] 65)).drew.cell? ⟨wr.heap.size, 0, none⟩ = some (.slice (some ⟨sb, so, none⟩) st.length sc) := by go_simp
      have x1 : (wr.alloc (.cells #[.slice (some ⟨sb, so, none⟩) st.length sc, .int .i64 wait] 65)).drew.cell? ⟨wr.heap.size, 1, none⟩ = some (.int .i64 wait) := by go_simp
      have xz : wr.heap.size < (wr.alloc (.cells #[.slice (some ⟨sb, so, none⟩) st.length sc, .int .i64 wait] 65)).drew.heap.size := by simp
      go_wp2
      obtain ⟨xb, hxb⟩ : ∃ xb, xb = wr.heap.size := ⟨_, rfl⟩
      rw [← hxb] at x0 x1 xz how ⊢
      have HXB := Lib.hid hxb
      clear hxb
      refine wp_region_heldE 14 (fun w' => w'.cell? ⟨o, 1, none⟩ = some ov ∧ w'.cell? ⟨xb, 0, none⟩ = some (.slice (some ⟨sb, so, none⟩) st.length sc) ∧ w'.cell? ⟨xb, 1, none⟩ = some (.int .i64 wait)) (by kernel_rfl) ?_
      generalize (wr.alloc (.cells #[.slice (some ⟨sb, so, none⟩) st.length sc, .int .i64 wait] 65)).drew = W2 at EX x0 x1 xz ⊢
      have q1 := EX.cell m1
      have q0 := EX.cell m0
      have qf := (Below.frozen (p := ⟨o, 1, none⟩) EX (cell_lt m1)).trans mf
      have hS : W2.cell? ⟨o, 1, none⟩ = some ov ∧ W2.cell? ⟨xb, 0, none⟩ = some (.slice (some ⟨sb, so, none⟩) st.length sc) ∧ W2.cell? ⟨xb, 1, none⟩ = some (.int .i64 wait) := ⟨q1, x0, x1⟩
      ((refine eTk 0 ?_); (refine eTk 1 ?_); (refine eTk 2 ?_); (refine eTk 3 ?_); (refine eTk 4 ?_); (refine eTk 5 ?_); (refine eTk 7 ?_); (refine eTk 8 ?_))
      (refine wpAnyE_one (i := 6) (o := ?_) ?_ (by kernel_rfl) (fun K hK => ?_); rotate_left; (focus ((simp only [List.getElem?_toArray, List.getElem?_cons_succ, List.getElem?_cons_zero]; exact rfl))); go_simp; go_at_call 61; refine (CloneK_any st sb so sc _ hfu2 hfu1 (HCS.out.ext (E2.trans EX))).mono ?_; rintro e w4 ⟨cv, rfl, hO4, hb4, hE4⟩; have HO4 := Lib.hid hO4; have HB4 := Lib.hid hb4; obtain ⟨ca, cc, rfl, _⟩ := hO4.reads; clear hO4 hb4; go_wp2_with fail; refine hK.out _ _ ?_ (fun hHeld => ?_); rotate_left; clear hK K; (try simp only [Act.put, List.setIfInBounds_toArray, List.set_cons_zero, List.set_cons_succ]))
      rotate_left
      · exact ⟨hE4.cell q1, hE4.cell x0, hE4.cell x1⟩
      (refine eTk 9 ?_)
      (refine wpAnyE_one (i := 10) (o := ?_) ?_ (by kernel_rfl) (fun K hK => ?_); rotate_left; (focus ((simp only [List.getElem?_toArray, List.getElem?_cons_succ, List.getElem?_cons_zero]; exact rfl))); go_simp; refine (HCK.out _ _ ((E2.trans EX).trans hE4) HO4.out (fun b hb => Nat.le_trans (E2.trans EX).size (HB4.out b hb))).mono ?_; rintro e w5 ⟨u, rfl, hsu, hub, hua, hbel⟩; have B5 := hbel W2.heap.size hE4.size HB4.out; have HSU := Lib.hid hsu; have HUB := Lib.hid hub; have HUA := Lib.hid hua; obtain ⟨ua, uc, rfl, _, _⟩ := hsu; clear hub hua hbel; go_wp2_with fail; refine hK.out _ _ ?_ (fun hHeld => ?_); rotate_left; clear hK K; (try simp only [Act.put, List.setIfInBounds_toArray, List.set_cons_zero, List.set_cons_succ]))
      rotate_left
      · exact ⟨cellB B5 (by show o < _; omega) hHeld.1, cellB B5 xz hHeld.2.1, cellB B5 xz hHeld.2.2⟩
      generalize ch k (st, wait) = y at HSU HUB HUA HMS ⊢
      obtain ⟨yst, ywait⟩ := y
      dsimp only at HSU HUB HUA HMS ⊢
      have E25 : Ext W2 w5 := hE4.trans' B5 (Nat.le_refl _)
      have E6 : Ext w5 (w5.alloc (.cells #[.slice ua yst.length uc, .int .i64 ywait] 65)) := extA
      (refine wpAnyE_one (i := 11) (o := ?_) ?_ (by kernel_rfl) (fun K hK => ?_); rotate_left; (focus ((simp only [List.getElem?_toArray, List.getElem?_cons_succ, List.getElem?_cons_zero]; exact rfl))); go_simp; refine hK.out _ _ ?_ (fun hHeld => ?_); rotate_left; clear hK K; (try simp only [Act.put, List.setIfInBounds_toArray, List.set_cons_zero, List.set_cons_succ]))
      rotate_left
      · exact ⟨E6.cell hHeld.1, E6.cell hHeld.2.1, E6.cell hHeld.2.2⟩
      have ho6 : OwnsP (fun b => b ≤ o) (w5.alloc (.cells #[.slice ua yst.length uc, .int .i64 ywait] 65)) ov (mapK ch l k) := HM2.out.chg (Chg.ext ((EX.trans E25).trans E6)) (fun b hb e => by have := HM3.out b hb; omega)
      have HO6 := Lib.hid ho6
      clear ho6
      have hl6 : (mapK ch l k).length = k := mapK_len ch l k
      refine wpAnyE_one (i := 12) (o := ?_) ?_ (by kernel_rfl) (fun K hK => ?_)
      rotate_left
      · simp only [List.getElem?_toArray, List.getElem?_cons_succ, List.getElem?_cons_zero]; exact rfl
      refine step_append1 rfl _ _ 22 rfl 65 i0 (.agg #[.slice none 0 0, .int .i64 0]) 2 32 Tryd.underlying22 hi hi0 hi1 hi2 rfl (by decide) ov (mapK ch l k).length _ rfl (Classical.choose_spec HO6.out).2.1 ⟨w5.heap.size, 0, none⟩ 1 1 (by decide) [.slice ua yst.length uc, .int .i64 ywait] rfl rfl (cells_one _ _ _) (by intro u hu; simp at hu; rcases hu with rfl | rfl <;> rfl) (by unfold maxLen; omega) (by omega) (fun v' w7 hown7 hend7 => ?_)
      have O7 : OwnsP (fun b => b ≤ o) w7 v' (mapK ch l k ++ [(yst, ywait)]) := by
        refine OwnsP.app HO6.out ?_ (fun b hb => by have := E6.size; have := E25.size; omega) hown7 hend7
        obtain ⟨ua', uc', hu1, hu2, hu3⟩ := HSU.out.ext E6
        refine ⟨ua', uc', hu1, hu2, hu3, fun b1 o1 hb1 hne hx => ?_⟩
        subst hb1
        have hb2 : W2.heap.size ≤ b1 := by
          rcases HUB.out b1 (by rw [hu1]; obtain ⟨_, _, hq, hq2⟩ := HUA.out; rw [hu1] at hq; cases hq; have := hq2 b1 o1 rfl; subst this; rfl) with h | h
          · exact HB4.out b1 h
          · exact Nat.le_trans hE4.size h
        rcases hx with hx | hx
        · omega
        · have := rowLt (Classical.choose_spec HM2.out).2.1 hx
          have h9 := HXB.out
          omega
      have hgr := hend7.chg
      have hov : ∀ b, ov.ownBlock = some b → b < xb := fun b hb => by rw [HXB.out]; exact rowLt (Classical.choose_spec HM2.out).2.1 hb
      have B7 : Below o (w5.alloc (.cells #[.slice ua yst.length uc, .int .i64 ywait] 65)) w7 := hend7.below (n := o) (by have := E6.size; have := E25.size; omega) (fun b hb => by have := HM3.out b hb; omega)
      have V7 := hend7.ge (n := o + 1) (by have := E6.size; have := E25.size; omega) (fun b hb => HM3.out b hb)
      have same7 : ∀ (p : Addr) (v : Value), p.block = o ∨ p.block = xb → (w5.alloc (.cells #[.slice ua yst.length uc, .int .i64 ywait] 65)).cell? p = some v → w7.cell? p = some v ∧ w7.frozen? p = (w5.alloc (.cells #[.slice ua yst.length uc, .int .i64 ywait] 65)).frozen? p := fun p v hp hc => by
        have h1 := hgr.1 p.block (cell_lt hc) (fun e => by
          rcases hp with hp | hp
          · have := HM3.out _ e; omega
          · have := hov _ e; omega)
        exact ⟨(World.cell?_of_block (w := w5.alloc (.cells #[.slice ua yst.length uc, .int .i64 ywait] 65)) h1).trans hc, World.frozen?_of_block (w := w5.alloc (.cells #[.slice ua yst.length uc, .int .i64 ywait] 65)) h1⟩
      refine hK.out _ _ ⟨(same7 ⟨o, 1, none⟩ _ (.inl rfl) hHeld.1).1, (same7 ⟨xb, 0, none⟩ _ (.inr rfl) hHeld.2.1).1, (same7 ⟨xb, 1, none⟩ _ (.inr rfl) hHeld.2.2).1⟩ (fun hHeld => ?_)
      clear hK K
      (try simp only [Act.put, List.setIfInBounds_toArray, List.set_cons_zero, List.set_cons_succ])
      (refine eTk 13 ?_)
      have HO7 := Lib.hid O7
      have HV7 := Lib.hid V7
      obtain ⟨va, vc, hvv, _, _⟩ := O7.reads
      have hlen : (mapK ch l k ++ [(yst, ywait)]).length = k + 1 := by rw [List.length_append, hl6]; rfl
      rw [hlen] at hvv
      subst hvv
      clear O7 V7 hown7 hend7 hgr hlen
      have r0 := (same7 ⟨o, 0, none⟩ _ (.inl rfl) (E6.cell (E25.cell q0))).1
      obtain ⟨r1, rf0⟩ := same7 ⟨o, 1, none⟩ _ (.inl rfl) (E6.cell (E25.cell q1))
      have rf := (rf0.trans (Below.frozen (p := ⟨o, 1, none⟩) E6 (cell_lt (E25.cell q1)))).trans ((Below.frozen (p := ⟨o, 1, none⟩) E25 (cell_lt q1)).trans qf)
      clear rf0
      clear hHeld same7
      (refine wpAnyE_free (i := 14) (o := ?_) ?_ (by kernel_rfl) (by kernel_rfl) (fun K hK => ?_); rotate_left; (focus ((simp only [List.getElem?_toArray, List.getElem?_cons_succ, List.getElem?_cons_zero]; exact rfl))); go_simp; refine hK.out _ _ ?_; clear hK K; (try simp only [Act.put, List.setIfInBounds_toArray, List.set_cons_zero, List.set_cons_succ]))
      refine wpAnyE_done (by kernel_rfl) ?_ _
      have MN : Hid (MpSt o W (w7.setCell ⟨o, 1, none⟩ (.slice va (k + 1) vc)) n (mapK ch l (k + 1))) := by
        show MpSt _ _ _ _ _
        rw [HMS.out]
        have BB : Below o W w7 := (hbe.trans (((EX.trans E25).trans E6).mono (by have := HXB.out; omega))).trans B7
        refine ⟨BB.setCell (p := ⟨o, 1, none⟩) (Nat.le_refl _) _, ?_, by rw [World.frozen?_setCell]; exact rf, _, World.cell?_setCell_same _ _ _ r1, HO7.out.chg (Chg.setCell (B := fun b => b ≤ o) ⟨o, 1, none⟩ _ (Nat.le_refl _)) (fun b hb e => by have := HV7.out b hb; omega), fun b hb => by have := HV7.out b hb; omega⟩
        rw [World.cell?_setCell_other _ _ _ _ (fun h => by simp only [Addr.mk.injEq] at h; omega)]
        exact r0
      generalize w7.setCell ⟨o, 1, none⟩ (.slice va (k + 1) vc) = w8 at MN ⊢
      go_wp2
      refine ⟨⟨k + 1, by omega, by go_num, MN⟩, by simp [intOf]; omega⟩
    · have hke : k = l.length := by omega
      subst hke
      obtain ⟨v, m1, m2, m3⟩ := M.out.v
      have m0 := M.out.c0
      have hr := m2.reads
      obtain ⟨va, vc, rfl, hva, hvl⟩ := hr
      have HVA := Lib.hid hva
      have HVL := Lib.hid hvl
      have d1 := cellB hbe (p := ⟨w.heap.size + 1, 0, none⟩) ho1 c1
      have d2 := cellB hbe (p := ⟨w.heap.size + 1, 1, none⟩) ho1 c2
      have g1 := (Below.frozen (p := ⟨w.heap.size + 1, 0, none⟩) hbe ho1).trans f1
      have g2 := (Below.frozen (p := ⟨w.heap.size + 1, 1, none⟩) hbe ho1).trans f2
      have hcc : Chg (fun b => b ≤ o) wr ((wr.setCell ⟨w.heap.size + 1, 0, none⟩ (.int .i64 n)).setCell ⟨w.heap.size + 1, 1, none⟩ (.slice va (mapK ch l l.length).length vc)) :=
        (Chg.setCell (B := fun b => b ≤ o) ⟨w.heap.size + 1, 0, none⟩ _ (by show w.heap.size + 1 ≤ o; omega)).trans (Chg.setCell (B := fun b => b ≤ o) ⟨w.heap.size + 1, 1, none⟩ _ (by show w.heap.size + 1 ≤ o; omega))
      have HFIN : Hid (OwnsP (fun b => b ≤ o) ((wr.setCell ⟨w.heap.size + 1, 0, none⟩ (.int .i64 n)).setCell ⟨w.heap.size + 1, 1, none⟩ (.slice va (mapK ch l l.length).length vc)) (.slice va (mapK ch l l.length).length vc) (mapK ch l l.length)) := m2.chg hcc (fun b hb e => by have := m3 b hb; omega)
      have HOB : Hid (∀ b, (Value.slice va (mapK ch l l.length).length vc).ownBlock = some b → o < b) := m3
      have how : w.heap.size ≤ o := by omega
      clear hcc
      clear hva hvl m2 m3 M
      have EF : Ext w ((wr.setCell ⟨w.heap.size + 1, 0, none⟩ (.int .i64 n)).setCell ⟨w.heap.size + 1, 1, none⟩ (.slice va (mapK ch l l.length).length vc)) := extA
      go_wp2
      refine bodyPost_ret (v := .agg #[.int .i64 n, .slice va (mapK ch l l.length).length vc]) (by rw [results_cell1 rfl]; go_simp) rfl ⟨o, _, how, rfl, HFIN.out, HOB.out, EF⟩
end Go.Proofs.YtdolibeceijnnaaDoor
namespace Go.Proofs.YtdolibeceijnnaaDoor
open Go.RowKit
set_option maxHeartbeats 2000000 in
theorem copied1_any (st : List Stk) (wait : Int) (k : Nat) (v : Value) (w : World) (ho : OwnsK w v st) :
    Calls Tryd.prog 63 #[.int .i64 (k : Int), .agg #[v, .int .i64 wait]] w (ChPost (st, wait) v w) := by
  have HO := Lib.hid ho
  obtain ⟨a, c, rfl, _, _, hb⟩ := ho.reads
  have HB := Lib.hid hb
  clear ho hb
  go_enter Tryd.func63, Tryd.ntmps63
  go_wp2
  have E : Ext w ((w.alloc (.cells #[.slice a st.length c, .int .i64 wait] 65)).alloc (.cells #[.slice a st.length c, .int .i64 wait] 65)) := extA
  refine bodyPost_ret (v := .agg #[.slice a st.length c, .int .i64 wait]) (by rw [results_cell1 rfl]; go_simp) rfl ⟨_, rfl, (HO.out.ext E).slice, fun b hb => .inl hb, ⟨a, c, rfl, fun b off h => ?_⟩, fun n hn _ => E.mono hn⟩
  subst h
  by_cases hne : st = []
  · have := HO.out.2
    subst hne
    rcases this with ⟨h1, _⟩ | ⟨g, cap, cur, h1, _⟩
    · cases h1
    · cases h1; rfl
  · exact (HB.out b off rfl hne).1
theorem mapK_id (l : List Stp) : mapK (fun _ x => x) l l.length = l := by
  unfold mapK
  apply list_ext_getD stp0 (by simp)
  intro j hj
  have : j < l.length := by simpa using hj
  simp [List.getD, this]
theorem copied_own (n : Int) (l : List Stp) (a : Option Addr) (cap : Nat) (w : World) (hl : l.length ≤ 200) (hf : Full l) (hc : CellsP w a l) :
    Calls Tryd.prog 34 #[.agg #[.int .i64 n, .slice a l.length cap]] w (OwnPost (n, l) w) := by
  have HC := Lib.hid hc
  have HF := Lib.hid hf
  have HL := Lib.hid hl
  clear hc hf hl
  go_enter Tryd.func34, Tryd.ntmps34
  go_wp2_with fail
  have E1 : Ext w ((w.alloc (.cells #[.int .i64 n, .slice a l.length cap] 24)).alloc (.cells #[.int .i64 0, .slice none 0 0] 24)) := extA
  have c1 : ((w.alloc (.cells #[.int .i64 n, .slice a l.length cap] 24)).alloc (.cells #[.int .i64 0, .slice none 0 0] 24)).cell? ⟨w.heap.size + 1, 0, none⟩ = some (.int .i64 0) := by go_simp
  have c2 : ((w.alloc (.cells #[.int .i64 n, .slice a l.length cap] 24)).alloc (.cells #[.int .i64 0, .slice none 0 0] 24)).cell? ⟨w.heap.size + 1, 1, none⟩ = some (.slice none 0 0) := by go_simp
  have f1 : ((w.alloc (.cells #[.int .i64 n, .slice a l.length cap] 24)).alloc (.cells #[.int .i64 0, .slice none 0 0] 24)).frozen? ⟨w.heap.size + 1, 0, none⟩ = false := by go_simp
  have f2 : ((w.alloc (.cells #[.int .i64 n, .slice a l.length cap] 24)).alloc (.cells #[.int .i64 0, .slice none 0 0] 24)).frozen? ⟨w.heap.size + 1, 1, none⟩ = false := by go_simp
  generalize ((w.alloc (.cells #[.int .i64 n, .slice a l.length cap] 24)).alloc (.cells #[.int .i64 0, .slice none 0 0] 24)) = W at E1 c1 c2 f1 f2 ⊢
  refine (mapped_own n l a cap W 63 #[] (fun _ x => x) HL.out HF.out (HC.out.ext E1) (enters_of Tryd.func63 (by kernel_rfl) rfl) (fun k v w' _ _ ho _ => copied1_any _ _ k v w' ho)).mono ?_
  rintro e w2 ⟨o, v, ho, rfl, hv, hob, hE⟩
  rw [mapK_id] at hv
  have HV := Lib.hid hv
  have HOB := Lib.hid hob
  have hz1 : w.heap.size + 1 < W.heap.size := cell_lt c1
  obtain ⟨ua, uc, rfl, _, _⟩ := hv.reads
  have g1 := (Below.frozen (p := ⟨w.heap.size + 1, 0, none⟩) hE (cell_lt c1)).trans f1
  have g2 := (Below.frozen (p := ⟨w.heap.size + 1, 1, none⟩) hE (cell_lt c2)).trans f2
  have c1 := hE.cell c1
  have c2 := hE.cell c2
  clear hv hob
  dsimp only
  go_wp2
  have EF : Ext w ((w2.setCell ⟨w.heap.size + 1, 0, none⟩ (.int .i64 n)).setCell ⟨w.heap.size + 1, 1, none⟩ (.slice ua l.length uc)) := extA
  have hc : Chg (fun b => b ≤ o) w2 ((w2.setCell ⟨w.heap.size + 1, 0, none⟩ (.int .i64 n)).setCell ⟨w.heap.size + 1, 1, none⟩ (.slice ua l.length uc)) :=
    (Chg.setCell (B := fun b => b ≤ o) ⟨w.heap.size + 1, 0, none⟩ _ (by show w.heap.size + 1 ≤ o; omega)).trans (Chg.setCell (B := fun b => b ≤ o) ⟨w.heap.size + 1, 1, none⟩ _ (by show w.heap.size + 1 ≤ o; omega))
  exact bodyPost_ret (v := .agg #[.int .i64 n, .slice ua l.length uc]) (by rw [results_cell1 rfl]; go_simp) rfl ⟨o, _, by omega, rfl, HV.out.chg hc (fun b hb e => by have := HOB.out b hb; omega), HOB.out, EF⟩
theorem copied_any (n : Int) (l : List Stp) (a : Option Addr) (cap : Nat) (w : World) (hl : l.length ≤ 200) (hf : Full l) (hc : CellsP w a l) :
    Calls Tryd.prog 34 #[.agg #[.int .i64 n, .slice a l.length cap]] w (SeqPost (n, l) w) := (copied_own n l a cap w hl hf hc).mono fun _ _ h => h.seq
end Go.Proofs.YtdolibeceijnnaaDoor
namespace Go.Proofs.YtdolibeceijnnaaDoor
open Go.RowKit
theorem wpList_append_run {P : Program} (w : World) {ops : Array Oper} {rest : List Oper} {o : Oper} {a : Act} {Q : Exit → Act → World → Prop} (hgd : o.guard = none) (s x : Operand) (t u : TypeId)
    (ho : o.op = .call { callee := .builtin .append, args := #[s, x], argTypes := #[t, u] }) (v y : Value) (hs : a.eval s = v) (hx : a.eval x = y)
    (v' : Value) (w' : World) (hr : (Builtin.append_ #[t, u] o.type #[v, y]).run P w = .ok v' w')
    (h : wpList P ops Q rest (a.put o.dst v') w') : wpList P ops Q (o :: rest) a w := by
  refine wpList_plain hgd fun K hK => ?_
  unfold Oper.wp execOp
  simp only [ho, resolve, invoke, builtin, Sem.run_bind, Sem.run_pure, Result.andThen_ok, List.map_toArray, List.map_cons, List.map_nil, hs, hx, hr]
  exact hK _ _ h
theorem zeroCells_size (z : Array Value) (n : Nat) : (Builtin.zeroCells z n).size = n * z.size := by unfold Builtin.zeroCells; simp
def GrowOk (e : TypeId) (size _n : Nat) (w : World) (r : Ending) (w' : World) : Prop := ∃ v, r = .returned v ∧ w'.ownsRow 0 e size v 0 [] ∧ (∃ g, v.ownBlock = some g ∧ w.heap.size ≤ g) ∧ Ext w w'
set_option maxHeartbeats 2000000 in
set_option maxRecDepth 100000 in
theorem GrowP_any (n : Nat) (w : World) (h0 : 0 < n) (hn : n ≤ 200) :
    Calls Tryd.prog 64 #[.slice none 0 0, .int .i64 (n : Int)] w (GrowOk 65 2 n w) := by
  obtain ⟨cp, cs, hap, hcp⟩ : ∃ (cp : World → Nat) (cs : World → Array Value), (∀ w' : World, (Builtin.append_ #[22, 3] 22 #[.slice none 0 0, .int .i64 (n : Int)]).run Tryd.prog w' = .ok (.slice (some ⟨w'.heap.size, 0, none⟩) n (cp w')) (w'.drew.alloc (.cells (cs w') 65))) ∧ ∀ w', n ≤ cp w' ∧ cp w' ≤ maxLen ∧ (cs w').size = cp w' * 2 := by
    obtain ⟨i0, hi, hi0, hi1, hi2⟩ := info_parts infoStp
    refine ⟨fun w' => grownCap w' n 0 65, _, fun w' => Lib.run_append_nil_zeros (P := Tryd.prog) w' 22 3 22 65 i0 (.agg #[.slice none 0 0, .int .i64 0]) .i64 .i64 Tryd.underlying22 Tryd.underlying3 hi hi0 n h0 (by rw [hi1]; omega) (by omega) (by rw [hi2]; omega), fun w' => ?_⟩
    have h1 := grownCap_ge w' n 0 65
    refine ⟨h1, grownCap_le_maxLen w' n 0 65 (by unfold maxLen; omega), ?_⟩
    rw [Array.size_append, zeroCells_size, zeroCells_size]
    show n * 2 + (grownCap w' n 0 65 - n) * 2 = grownCap w' n 0 65 * 2
    omega
  have HCP := Lib.hid (hcp w)
  have HAP := Lib.hid (hap w)
  clear hcp hap
  go_enter Tryd.func64, Tryd.ntmps64
  go_wp2_with (at_builtin; refine wpList_append_run _ rfl _ _ 22 3 rfl (.slice none 0 0) (.int .i64 (n : Int)) rfl rfl _ _ HAP.out ?_)
  have hcap := HCP.out
  generalize cp w = c at hcap ⊢
  generalize cs w = cells at hcap ⊢
  have E1 : Ext w (w.drew.alloc (.cells cells 65)) := extA
  have HO : Hid ((w.drew.alloc (.cells cells 65)).ownsRow 0 65 2 (.slice (some ⟨w.heap.size, 0, none⟩) 0 c) 0 []) := by
    have := World.ownsRow_made (w := w.drew) (base := 0) (e := 65) (size := 2) cells c (Nat.zero_le _) hcap.2.1 hcap.2.2
    exact this
  obtain ⟨hc1, hc2, hc3⟩ := hcap
  have HC3 := Lib.hid hc3
  clear hc3
  unfold maxLen at hc2
  go_wp2
  go_ret
  exact ⟨_, rfl, HO.out, ⟨_, rfl, Nat.le_refl _⟩, E1⟩
theorem run_append_empty {P : Program} (w : World) (t ty e : TypeId) (i : TypeInfo) (ht : P.underlying t = some (.slice e)) (hi : P.info? e = some i) (g : Addr) (n cap : Nat) (hn : n ≤ cap) (a : Option Addr) (c : Nat) :
    (Builtin.append_ #[t, t] ty #[.slice (some g) n cap, .slice a 0 c]).run P w = .ok (.slice (some g) n cap) w := by
  cases a <;> simp [Builtin.append_, run_underlying ht, sizeOf, typeInfo, hi, hn, Builtin.lenOf, Builtin.firstCells, loadCells, storeCells, loadCellsFrom]
theorem flat2_len_pairP (ps : List (Value × Stp)) : (flat2 (pairP ps)).length = ps.length * 2 := by rw [flat2_length]; simp [pairP]
theorem CellsP.pairs {w : World} {b off : Nat} {l : List Stp} (h : CellsP w (some ⟨b, off, none⟩) l) :
    ∃ ps : List (Value × Stp), ps.map (·.2) = l ∧ (∀ j u, (flat2 (pairP ps))[j]? = some u → w.cell? ((⟨b, off, none⟩ : Addr).add j) = some u) ∧ (∀ p ∈ ps, SliceK w p.1 p.2.1) ∧ ∀ u ∈ flat2 (pairP ps), u.oneCell' = true := by
  have hp : ∀ i, i < l.length → ∃ v, w.cell? ⟨b, off + i * 2, none⟩ = some v ∧ SliceK w v (l.getD i stp0).1 ∧ w.cell? ⟨b, off + i * 2 + 1, none⟩ = some (.int .i64 (l.getD i stp0).2) := fun i hi => by
    obtain ⟨b', off', v, h1, h2, h3, h4⟩ := h i hi
    cases h1
    exact ⟨v, h2, h3, h4⟩
  refine ⟨(List.range l.length).map fun i => ((w.cell? ⟨b, off + i * 2, none⟩).getD undef, l.getD i stp0), ?_, ?_, ?_, ?_⟩
  · apply list_ext_getD stp0 (by simp)
    intro j hj
    have : j < l.length := by simpa using hj
    simp [List.getD, this]
  · intro j u hu
    obtain ⟨i, hi, hh⟩ := flat2_two hu
    have hi' : i < l.length := by simpa [pairP] using hi
    obtain ⟨v, h1, h2, h3⟩ := hp i hi'
    rw [Addr.add_lit]
    rcases hh with ⟨rfl, rfl⟩ | ⟨rfl, rfl⟩
    · rw [h1]; simp [pairP, h1]
    · rw [← Nat.add_assoc, h3]; simp [pairP, List.getD, hi']
  · intro p hp'
    obtain ⟨i, hi, rfl⟩ := List.mem_map.1 hp'
    obtain ⟨v, h1, h2, h3⟩ := hp i (List.mem_range.1 hi)
    rw [h1]
    exact h2
  · intro u hu
    obtain ⟨j, hj, e⟩ := List.mem_iff_getElem.1 hu
    have hju := List.getElem?_eq_getElem hj
    rw [e] at hju
    obtain ⟨i, hi, hh⟩ := flat2_two hju
    have hi' : i < l.length := by simpa [pairP] using hi
    obtain ⟨v, h1, ⟨_, _, h2, _⟩, h3⟩ := hp i hi'
    rcases hh with ⟨_, h⟩ | ⟨_, h⟩
    · rw [h]; simp [pairP, h1, h2]; rfl
    · rw [h]; simp [pairP]; rfl
theorem rowP_reads {w : World} {v : Value} {ps : List (Value × Stp)} (h : w.ownsRow 0 65 2 v ps.length (flat2 (pairP ps))) (hs : ∀ p ∈ ps, SliceK w p.1 p.2.1) : SliceP w v (ps.map (·.2)) := by
  obtain ⟨a, cap, hv, hm, hr⟩ := rowReads h
  refine ⟨a, cap, by rw [hv]; simp, fun i hi => ?_, by simpa using rowRoom h hv⟩
  have hip : i < ps.length := by simpa using hi
  have hg := flat2_get (pairP ps) i (by simpa [pairP] using hip)
  have e1 : (pairP ps)[i]'(by simpa [pairP] using hip) = (ps[i].1, .int .i64 ps[i].2.2) := by simp [pairP]
  rw [e1] at hg
  have ey : (ps.map (·.2)).getD i stp0 = ps[i].2 := by simp [List.getD, hip]
  obtain ⟨b, hb, _, g1, _⟩ := hr _ _ hg.1
  obtain ⟨b', hb', _, g2, _⟩ := hr _ _ hg.2
  rw [hb] at hb'
  cases hb'
  exact ⟨b, 0, ps[i].1, hb, by rw [Nat.zero_add]; exact g1, by rw [ey]; exact hs _ (List.getElem_mem hip), by rw [ey, Nat.zero_add]; exact g2⟩
def PairsAt (w : World) (a : Option Addr) (ps : List (Value × Stp)) : Prop :=
  (ps = [] ∨ ∃ b off, a = some ⟨b, off, none⟩ ∧ ∀ j u, (flat2 (pairP ps))[j]? = some u → w.cell? ((⟨b, off, none⟩ : Addr).add j) = some u) ∧ (∀ p ∈ ps, SliceK w p.1 p.2.1) ∧ ∀ u ∈ flat2 (pairP ps), u.oneCell' = true
theorem CellsP.pairsAt {w : World} {a : Option Addr} {l : List Stp} (h : CellsP w a l) : ∃ ps : List (Value × Stp), ps.map (·.2) = l ∧ PairsAt w a ps := by
  cases l with
  | nil => exact ⟨[], rfl, .inl rfl, (fun p hp => by cases hp), (fun u hu => by simp [pairP, flat2] at hu)⟩
  | cons x l =>
    obtain ⟨b, off, _, ha, _⟩ := h 0 (by simp)
    subst ha
    obtain ⟨ps, h1, h2, h3, h4⟩ := h.pairs
    exact ⟨ps, h1, .inr ⟨b, off, rfl, h2⟩, h3, h4⟩
theorem PairsAt.ext {w w' : World} {a : Option Addr} {ps : List (Value × Stp)} (h : PairsAt w a ps) (k : Ext w w') : PairsAt w' a ps := by
  obtain ⟨h1, h2, h3⟩ := h
  refine ⟨?_, fun p hp => (h2 p hp).ext k, h3⟩
  rcases h1 with h1 | ⟨b, off, ha, hc⟩
  · exact .inl h1
  · exact .inr ⟨b, off, ha, fun j u hu => k.cell (hc j u hu)⟩
end Go.Proofs.YtdolibeceijnnaaDoor
namespace Go.Proofs.YtdolibeceijnnaaDoor
open Go.RowKit
def ConcatPost (l : List Stp) (w : World) (e : Ending) (w' : World) : Prop := ∃ a cap, e = .returned (.slice a l.length cap) ∧ CellsP w' a l ∧ l.length ≤ maxLen ∧ Ext w w'
def firstPs (p1 p2 : List (Value × Stp)) (k : Nat) : List (Value × Stp) := if k = 0 then [] else if k = 1 then p1 else p1 ++ p2
theorem pairP_append (ps q : List (Value × Stp)) : flat2 (pairP (ps ++ q)) = flat2 (pairP ps) ++ flat2 (pairP q) := by unfold pairP; rw [List.map_append, flat2_append]
def OwnsB (B : Nat) (w : World) (v : Value) (ps : List (Value × Stp)) : Prop := w.ownsRow 0 65 2 v ps.length (flat2 (pairP ps)) ∧ ∃ g, v.ownBlock = some g ∧ B ≤ g
theorem run_appP {B : Nat} {w : World} {v : Value} {ps q : List (Value × Stp)} {a : Option Addr} (c n : Nat) (h : OwnsB B w v ps) (hq : PairsAt w a q) (hn : n = q.length) (hl : ps.length + q.length ≤ 200) (hB : B ≤ w.heap.size) :
    ∃ v' w', (Builtin.append_ #[22, 22] 22 #[v, .slice a n c]).run Tryd.prog w = .ok v' w' ∧ OwnsB B w' v' (ps ++ q) ∧ Below B w w' := by
  obtain ⟨i0, hi, hi0, hi1, hi2⟩ := info_parts infoStp
  obtain ⟨hown, g, hg, hgB⟩ := h
  subst hn
  by_cases h0 : q.length = 0
  · have hqe : q = [] := List.eq_nil_of_length_eq_zero h0
    subst hqe
    rcases hown.2 with ⟨hv, _⟩ | ⟨g', cap, cur, hv, _, _, hcap, _⟩
    · rw [hv] at hg; cases hg
    · refine ⟨v, w, ?_, ?_, Below.refl _ _⟩
      · rw [hv]; exact run_append_empty w _ _ _ i0 Tryd.underlying22 hi _ _ _ hcap _ _
      · rw [List.append_nil]; exact ⟨hown, g, hg, hgB⟩
  · rcases hq.1 with hq1 | ⟨b, off, rfl, hc⟩
    · rw [hq1] at h0; exact absurd rfl h0
    · obtain ⟨v', w', hr, h2, h3⟩ := run_append1 (P := Tryd.prog) w 22 22 65 i0 (.agg #[.slice none 0 0, .int .i64 0]) 2 32 Tryd.underlying22 hi hi0 hi1 hi2 rfl (by decide) v ps.length _ hown ⟨b, off, none⟩ q.length c (by omega) (flat2 (pairP q)) (flat2_len_pairP q) hc hq.2.2 (by unfold maxLen; omega) (by omega)
      refine ⟨v', w', hr, ⟨?_, ?_⟩, h3.below hB (fun b hb => by rw [hg] at hb; cases hb; exact hgB)⟩
      · rw [List.length_append, pairP_append]; exact h2
      · rcases h3 with ⟨e1, _, _⟩ | ⟨e1, _⟩
        · exact ⟨g, by rw [e1]; exact hg, hgB⟩
        · exact ⟨_, e1, hB⟩
set_option maxHeartbeats 4000000 in
set_option maxRecDepth 100000 in
theorem ConcatP_any (p1 p2 : List (Value × Stp)) (l : List Stp) (hpl : (p1 ++ p2).map (·.2) = l) (a1 a2 : Option Addr) (c1 c2 cb : Nat) (w : World) (h1 : PairsAt w a1 p1) (h2 : PairsAt w a2 p2) (h0 : 0 < p1.length + p2.length) (hl1 : p1.length ≤ 100) (hl2 : p2.length ≤ 100)
    (e1 : w.cell? ⟨cb, 0, none⟩ = some (.slice a1 p1.length c1)) (e2 : w.cell? ⟨cb, 1, none⟩ = some (.slice a2 p2.length c2)) :
    Calls Tryd.prog 35 #[.slice (some ⟨cb, 0, none⟩) 2 2] w (ConcatPost l w) := by
  have HPL := Lib.hid hpl
  clear hpl
  have H1 := Lib.hid h1
  have H2 := Lib.hid h2
  clear h1 h2
  obtain ⟨i0, hi, hi0, hi1, hi2⟩ := info_parts infoStp
  obtain ⟨n1, hn1⟩ : ∃ n, n = p1.length := ⟨_, rfl⟩
  obtain ⟨n2, hn2⟩ : ∃ n, n = p2.length := ⟨_, rfl⟩
  rw [← hn1] at h0 hl1 e1
  rw [← hn2] at h0 hl2 e2
  have HN1 := Lib.hid hn1
  have HN2 := Lib.hid hn2
  clear hn1 hn2
  go_enter Tryd.func35, Tryd.ntmps35
  go_wp2
  go_loop [11, 3] (fun i z => ∃ k : Nat, k ≤ 2 ∧ i = .int .i64 k ∧ ∃ q : Nat, z = .int .i64 q ∧ (k = 0 → q = 0) ∧ (k = 1 → q = n1) ∧ (k = 2 → q = n1 + n2)) (fun i _ => 2 - (intOf i).toNat)
  case atStart => exact ⟨0, by omega, rfl, 0, rfl, by omega, by omega, by omega⟩
  case round =>
    obtain ⟨k, hk, rfl, q, rfl, q0, q1, q2⟩ := hrel
    have : k = 0 ∨ k = 1 ∨ k = 2 := by omega
    rcases this with rfl | rfl | rfl
    · have hq := q0 rfl
      subst hq
      clear q0 q1 q2
      go_wp2
      refine ⟨⟨1, by omega, by go_num, n1, by go_num, by omega, by omega, by omega⟩, by simp [intOf]⟩
    · have hq := q1 rfl
      subst hq
      clear q0 q1 q2
      go_wp2
      refine ⟨⟨2, by omega, by go_num, q + n2, by go_num, by omega, by omega, by omega⟩, by simp [intOf]⟩
    · have hq := q2 rfl
      subst hq
      clear q0 q1 q2
      have hgr := GrowP_any (n1 + n2) w h0 (by omega)
      rw [Int.natCast_add] at hgr
      have HGR := Lib.hid hgr
      clear hgr
      go_wp2_with fail
      refine HGR.out.mono ?_
      rintro e w1 ⟨v0, rfl, hown0, hv0, hE⟩
      have HO0 : Hid (OwnsB w.heap.size w1 v0 (firstPs p1 p2 0)) := ⟨hown0, hv0⟩
      have HE1 := Lib.hid e1
      have HE2 := Lib.hid e2
      have e1 := hE.cell e1
      have e2 := hE.cell e2
      clear hown0 hv0 HGR
      have hsz := hE.size
      go_wp2
      go_loopw [27, 6] (fun i v wr => ∃ k : Nat, k ≤ 2 ∧ i = .int .i64 k ∧ (∃ vv, v = vv ∧ Hid (OwnsB w.heap.size wr vv (firstPs p1 p2 k))) ∧ Ext w wr) (fun i _ _ => 2 - (intOf i).toNat)
      case atStart => exact ⟨0, by omega, rfl, ⟨_, rfl, HO0⟩, hE⟩
      case round =>
        obtain ⟨k, hk, rfl, ⟨vv, hvv, HO⟩, he⟩ := hrel
        obtain rfl := hvv.symm
        have e1 := he.cell HE1.out
        have e2 := he.cell HE2.out
        have hsz := he.size
        have : k = 0 ∨ k = 1 ∨ k = 2 := by omega
        rcases this with rfl | rfl | rfl
        · obtain ⟨v', w5, hrun, hO5, hB5⟩ := run_appP c1 n1 HO.out (H1.out.ext he) HN1.out (by have := HN1.out; simp [firstPs]; omega) hsz
          have HRUN := Lib.hid hrun
          have HO5 : Hid (OwnsB w.heap.size w5 v' (firstPs p1 p2 1)) := by show OwnsB _ _ _ _; simpa [firstPs] using hO5
          have hE5 : Ext w w5 := he.trans' hB5 (Nat.le_refl _)
          clear hrun hO5 hB5
          go_wp2_with (at_builtin; refine wpList_append_run _ rfl _ _ 22 22 rfl vv (.slice a1 n1 c1) rfl rfl _ _ HRUN.out ?_)
          go_wp2
          refine ⟨⟨1, by omega, by go_num, ⟨v', rfl, HO5⟩, hE5⟩, by simp [intOf]⟩
        · obtain ⟨v', w5, hrun, hO5, hB5⟩ := run_appP c2 n2 HO.out (H2.out.ext he) HN2.out (by have := HN1.out; have := HN2.out; simp [firstPs]; omega) hsz
          have HRUN := Lib.hid hrun
          have HO5 : Hid (OwnsB w.heap.size w5 v' (firstPs p1 p2 2)) := by show OwnsB _ _ _ _; simpa [firstPs] using hO5
          have hE5 : Ext w w5 := he.trans' hB5 (Nat.le_refl _)
          clear hrun hO5 hB5
          go_wp2_with (at_builtin; refine wpList_append_run _ rfl _ _ 22 22 rfl vv (.slice a2 n2 c2) rfl rfl _ _ HRUN.out ?_)
          go_wp2
          refine ⟨⟨2, by omega, by go_num, ⟨v', rfl, HO5⟩, hE5⟩, by simp [intOf]⟩
        · go_wp2
          go_ret
          have hs : ∀ p ∈ p1 ++ p2, SliceK wr p.1 p.2.1 := fun p hp => by
            rcases List.mem_append.1 hp with hp | hp
            · exact (H1.out.2.1 p hp).ext he
            · exact (H2.out.2.1 p hp).ext he
          have hO2 : OwnsB w.heap.size wr vv (p1 ++ p2) := by simpa [firstPs] using HO.out
          have hrd := rowP_reads hO2.1 hs
          rw [HPL.out] at hrd
          obtain ⟨ra, rc, hrv, hrc, hrl⟩ := hrd
          exact ⟨ra, rc, by rw [hrv]; rfl, hrc, hrl, he⟩
end Go.Proofs.YtdolibeceijnnaaDoor
namespace Go.Proofs.YtdolibeceijnnaaDoor
open Go.RowKit
theorem results_cell_tmp1 {fn : Func} {p u : Tmp} {ty : TypeId} (h : fn.results = #[.cell p ty, .tmp u]) (tmps : Array Value) (P : Program) (w : World) :
    (results fn tmps).run P w = ((asAddr (tmps.getD p undef)).run P w).andThen fun a w₁ => ((loadVar ty a).run P w₁).andThen fun x w₂ => .ok (.tuple #[x, tmps.getD u undef]) w₂ := by
  simp only [results, h]
  simp [Sem.run_bind, Result.andThen]
def mem1 (l : List Int) (x : Int) : Bool := l.contains x
set_option maxHeartbeats 1000000 in
theorem IndexI_any (l : List Int) (x : Int) (a : Option Addr) (cap : Nat) (w : World) (hl : l.length ≤ maxLen) (hc : CellsI w a l) :
    Calls Tryd.prog 62 #[.slice a l.length cap, .int .i64 x] w (AnyPost (mem1 l x) w) := by
  unfold maxLen at hl
  have HC := Lib.hid hc
  clear hc
  go_enter Tryd.func62, Tryd.ntmps62
  go_wp2
  go_loop [8] (fun i => ∃ k : Nat, k ≤ l.length ∧ i = .int .i64 k ∧ Hid (∀ j : Nat, j < k → l.getD j 0 ≠ x)) (fun i => l.length - (intOf i).toNat)
  case atStart => exact ⟨0, Nat.zero_le _, rfl, fun j hj => by omega⟩
  case round =>
    obtain ⟨k, hk, rfl, hnn⟩ := hrel
    by_cases hlt : k < l.length
    · obtain ⟨b, off, rfl, c1⟩ := HC.out k hlt
      by_cases hx : l.getD k 0 = x
      · have HB : Hid (mem1 l x = true) := by
          show _ = _
          unfold mem1
          rw [List.contains_iff_mem, ← hx, List.getD_eq_getElem?_getD, List.getElem?_eq_getElem hlt]
          simp
        rw [hx] at c1
        have hxx : (x == x) = true := by simp
        clear hx
        go_wp2
        go_ret
        exact ⟨(k : Int), rfl, by rw [HB.out]; simp, Ext.refl _⟩
      · have HX := Lib.hid hx
        have hx' : (x == l.getD k 0) = false := by simp; exact fun h => hx h.symm
        clear hx
        generalize hy : l.getD k 0 = y at c1 HX hx'
        have HY := Lib.hid hy
        clear hy
        go_wp2
        refine ⟨⟨k + 1, by omega, by go_num, fun j hj => ?_⟩, by simp [intOf]; omega⟩
        rcases Nat.lt_or_eq_of_le (Nat.le_of_lt_succ hj) with h | rfl
        · exact hnn.out j h
        · rw [HY.out]; exact HX.out
    · have HB : Hid (mem1 l x = false) := by
        show _ = _
        unfold mem1
        rw [← Bool.not_eq_true, List.contains_iff_mem]
        intro hm
        obtain ⟨j, hj, e⟩ := List.mem_iff_getElem.1 hm
        refine hnn.out j (by omega) ?_
        rw [List.getD_eq_getElem?_getD, List.getElem?_eq_getElem hj, e]; rfl
      go_wp2
      go_ret
      exact ⟨-1, rfl, by rw [HB.out]; simp, Ext.refl _⟩
theorem ContainsI_any (l : List Int) (x : Int) (a : Option Addr) (cap : Nat) (w : World) (hl : l.length ≤ maxLen) (hc : CellsI w a l) :
    Calls Tryd.prog 33 #[.slice a l.length cap, .int .i64 x] w fun e w' => e = .returned (.bool (mem1 l x)) ∧ Ext w w' := by
  have HC := Lib.hid hc
  have HL := Lib.hid hl
  clear hc hl
  go_enter Tryd.func33, Tryd.ntmps33
  go_wp2_with fail
  refine (IndexI_any l x a cap _ HL.out HC.out).mono ?_
  rintro e w1 ⟨r, rfl, hr, hE⟩
  have HR := Lib.hid hr
  clear hr
  go_wp2
  all_goals go_ret
  all_goals exact ⟨ret_bool HR.out, hE⟩
def SeqErr (s : Sq) (err : Int) (w : World) (e : Ending) (w' : World) : Prop := ∃ v, e = .returned (.tuple #[v, .int .i64 err]) ∧ SeqV w' v s ∧ Ext w w'
theorem pauses_mem (n : Int) (l : List Stp) (k : Int) (h0 : 0 ≤ k) (h1 : k < l.length) : mem1 (pauses (n, l)) k = restsAt (n, l) k.toNat := by
  unfold mem1 pauses
  cases h : restsAt (n, l) k.toNat
  · rw [← Bool.not_eq_true, List.contains_iff_mem, List.mem_filter, h]; simp
  · rw [List.contains_iff_mem, List.mem_filter, h]
    refine ⟨?_, rfl⟩
    unfold ints
    rw [List.mem_map]
    exact ⟨k.toNat, List.mem_range.2 (by show k.toNat < (((l.length : Nat) : Int)).toNat; omega), by show ((k.toNat : Nat) : Int) = k; omega⟩
theorem CellsP.drop {w : World} {b off : Nat} {l : List Stp} (h : CellsP w (some ⟨b, off, none⟩) l) (k : Nat) : CellsP w (some ⟨b, off + k * 2, none⟩) (l.drop k) := fun i hi => by
  rw [List.length_drop] at hi
  obtain ⟨b', off', v, h1, h2, h3, h4⟩ := h (k + i) (by omega)
  cases h1
  have e : (l.drop k).getD i stp0 = l.getD (k + i) stp0 := by rw [List.getD_eq_getElem?_getD, List.getD_eq_getElem?_getD, List.getElem?_drop]
  rw [e]
  exact ⟨b, off + k * 2, v, rfl, by rw [show off + k * 2 + i * 2 = off + (k + i) * 2 from by omega]; exact h2, h3, by rw [show off + k * 2 + i * 2 + 1 = off + (k + i) * 2 + 1 from by omega]; exact h4⟩
theorem CellsP.take {w : World} {a : Option Addr} {l : List Stp} (h : CellsP w a l) (k : Nat) : CellsP w a (l.take k) := fun i hi => by
  rw [List.length_take] at hi
  have e : (l.take k).getD i stp0 = l.getD i stp0 := by
    rw [List.getD_eq_getElem?_getD, List.getD_eq_getElem?_getD, List.getElem?_take_of_lt (by omega)]
  rw [e]
  exact h i (by omega)
theorem ckSeq_full {n : Int} {l : List Stp} (h : ckSeq (n, l) = 0) : Full l := fun k hk => by
  have := (ckWalk_fine (ckSeq_zero h).2.2.2.2.1) k hk
  have h2 := ckStep_strokes this.1
  omega
theorem Full.turn {l : List Stp} (h : Full l) (k : Nat) : Full (l.drop k ++ l.take k) := fun i hi => by
  have hm : (l.drop k ++ l.take k).getD i stp0 ∈ l := by
    have h1 : (l.drop k ++ l.take k).getD i stp0 ∈ l.drop k ++ l.take k := by
      rw [List.getD_eq_getElem?_getD, List.getElem?_eq_getElem hi]; simp
    rcases List.mem_append.1 h1 with h1 | h1
    · exact List.mem_of_mem_drop h1
    · exact List.mem_of_mem_take h1
  obtain ⟨j, hj, e⟩ := List.mem_iff_getElem.1 hm
  have := h j hj
  rw [List.getD_eq_getElem?_getD, List.getElem?_eq_getElem hj] at this
  rw [← e]
  exact this
set_option maxHeartbeats 4000000 in
set_option maxRecDepth 100000 in
theorem From_ok (n : Int) (l : List Stp) (k : Nat) (b off : Nat) (cap : Nat) (w : World) (hl : l.length ≤ maxLen) (hc : CellsP w (some ⟨b, off, none⟩) l) (hcap : l.length ≤ cap) (_hcm : cap ≤ maxLen) (hk : fromE (n, l) k = 0) :
    Calls Tryd.prog 11 #[.agg #[.int .i64 n, .slice (some ⟨b, off, none⟩) l.length cap], .int .i64 (k : Int)] w (SeqErr (turned (n, l) k) 0 w) := by
  have HC := Lib.hid hc
  have HL := Lib.hid hl
  obtain ⟨hck, hk1, hk2⟩ : ckSeq (n, l) = 0 ∧ k < l.length ∧ restsAt (n, l) k = true := by
    unfold fromE at hk
    by_cases h1 : ckSeq (n, l) = 0
    · rw [if_neg (by simp [h1])] at hk
      by_cases h2 : (k : Int) < 0 ∨ (((n, l) : Sq).2.length : Int) ≤ k
      · rw [if_pos h2] at hk; cases hk
      · rw [if_neg h2] at hk
        cases h3 : restsAt (n, l) (k : Int).toNat
        · rw [h3] at hk; cases hk
        · refine ⟨h1, ?_, by simpa using h3⟩
          have : ¬ ((l.length : Int) ≤ k) := fun h => h2 (.inr h)
          omega
    · rw [if_pos h1] at hk; exact absurd hk h1
  have hmem : Hid (mem1 (pauses (n, l)) (k : Int) = true) := by show _ = _; rw [pauses_mem n l k (by omega) (by omega)]; simpa using hk2
  have hl64 := (ckSeq_zero hck).2.2.2.1
  obtain ⟨L, hLL⟩ : ∃ L, L = l.drop k ++ l.take k := ⟨_, rfl⟩
  have hL64 : L.length ≤ 64 := by rw [hLL]; simp; omega
  have hfl := (ckSeq_full hck).turn k
  rw [← hLL] at hfl
  have HFU := Lib.hid hfl
  have HLL := Lib.hid hLL
  clear hLL hfl
  have HCK := Lib.hid hck
  unfold maxLen at _hcm
  clear hc hl hk hk2 hck
  go_enter Tryd.func11, Tryd.ntmps11
  go_wp2_with fail
  have E1 : Ext w ((w.alloc (.cells #[.int .i64 n, .slice (some ⟨b, off, none⟩) l.length cap] 24)).alloc (.cells #[.int .i64 0, .slice none 0 0] 24)) := extA
  have c0 : ((w.alloc (.cells #[.int .i64 n, .slice (some ⟨b, off, none⟩) l.length cap] 24)).alloc (.cells #[.int .i64 0, .slice none 0 0] 24)).cell? ⟨w.heap.size, 0, none⟩ = some (.int .i64 n) := by go_simp
  have c1 : ((w.alloc (.cells #[.int .i64 n, .slice (some ⟨b, off, none⟩) l.length cap] 24)).alloc (.cells #[.int .i64 0, .slice none 0 0] 24)).cell? ⟨w.heap.size, 1, none⟩ = some (.slice (some ⟨b, off, none⟩) l.length cap) := by go_simp
  have c2 : ((w.alloc (.cells #[.int .i64 n, .slice (some ⟨b, off, none⟩) l.length cap] 24)).alloc (.cells #[.int .i64 0, .slice none 0 0] 24)).cell? ⟨w.heap.size + 1, 0, none⟩ = some (.int .i64 0) := by go_simp
  have c3 : ((w.alloc (.cells #[.int .i64 n, .slice (some ⟨b, off, none⟩) l.length cap] 24)).alloc (.cells #[.int .i64 0, .slice none 0 0] 24)).cell? ⟨w.heap.size + 1, 1, none⟩ = some (.slice none 0 0) := by go_simp
  have d2 : ((w.alloc (.cells #[.int .i64 n, .slice (some ⟨b, off, none⟩) l.length cap] 24)).alloc (.cells #[.int .i64 0, .slice none 0 0] 24)).frozen? ⟨w.heap.size + 1, 0, none⟩ = false := by go_simp
  have d3 : ((w.alloc (.cells #[.int .i64 n, .slice (some ⟨b, off, none⟩) l.length cap] 24)).alloc (.cells #[.int .i64 0, .slice none 0 0] 24)).frozen? ⟨w.heap.size + 1, 1, none⟩ = false := by go_simp
  generalize ((w.alloc (.cells #[.int .i64 n, .slice (some ⟨b, off, none⟩) l.length cap] 24)).alloc (.cells #[.int .i64 0, .slice none 0 0] 24)) = W at E1 c0 c1 c2 c3 d2 d3 ⊢
  refine (Pauses_any n l _ cap _ HL.out (HC.out.ext E1)).mono ?_
  rintro e w1 ⟨pa, pc, rfl, hp1, hp2, hE⟩
  rw [if_pos HCK.out] at hp1 hp2 ⊢
  rw [HCK.out]
  have E2 := E1.trans hE
  have d2 := (Below.frozen (p := ⟨w.heap.size + 1, 0, none⟩) hE (cell_lt c2)).trans d2
  have d3 := (Below.frozen (p := ⟨w.heap.size + 1, 1, none⟩) hE (cell_lt c3)).trans d3
  have c0 := hE.cell c0
  have c1 := hE.cell c1
  have c2 := hE.cell c2
  have c3 := hE.cell c3
  have HP1 := Lib.hid hp1
  have HP2 := Lib.hid hp2
  have hp3 := hp2
  unfold maxLen at hp3
  clear hp1 hp2 hE
  go_wp2_with fail
  refine (ContainsI_any (pauses (n, l)) (k : Int) pa pc _ HP2.out HP1.out).mono ?_
  rintro e w2 ⟨rfl, hE⟩
  rw [hmem.out]
  have E3 := E2.trans hE
  have d2 := (Below.frozen (p := ⟨w.heap.size + 1, 0, none⟩) hE (cell_lt c2)).trans d2
  have d3 := (Below.frozen (p := ⟨w.heap.size + 1, 1, none⟩) hE (cell_lt c3)).trans d3
  have c0 := hE.cell c0
  have c1 := hE.cell c1
  have c2 := hE.cell c2
  have c3 := hE.cell c3
  clear hE
  go_wp2
  refine wp_region_heldE 99 (fun w' => w'.cell? ⟨w.heap.size, 0, none⟩ = some (.int .i64 n) ∧ w'.cell? ⟨w.heap.size, 1, none⟩ = some (.slice (some ⟨b, off, none⟩) l.length cap)) (by kernel_rfl) ?_
  have ED : Ext w2 w2.drew := extA
  have E4 := E3.trans ED
  have d2 := (Below.frozen (p := ⟨w.heap.size + 1, 0, none⟩) ED (cell_lt c2)).trans d2
  have d3 := (Below.frozen (p := ⟨w.heap.size + 1, 1, none⟩) ED (cell_lt c3)).trans d3
  have c2 := ED.cell c2
  have c3 := ED.cell c3
  have hS : w2.drew.cell? ⟨w.heap.size, 0, none⟩ = some (.int .i64 n) ∧ w2.drew.cell? ⟨w.heap.size, 1, none⟩ = some (.slice (some ⟨b, off, none⟩) l.length cap) := ⟨ED.cell c0, ED.cell c1⟩
  have zb := cell_lt hS.1
  dsimp only at zb
  clear c0 c1
  generalize w2.drew = W3 at E4 d2 d3 c2 c3 hS zb ⊢
  clear ED
  have hkle : k ≤ l.length := by omega
  have hkc : k ≤ cap := by omega
  have hcapk : ¬ cap = k := by omega
  ((refine eTk 0 ?_); (refine eTk 1 ?_); (refine eTk 2 ?_); (refine eTk 3 ?_); (refine eTk 4 ?_); (refine eTk 5 ?_); (refine eTk 6 ?_); (refine eTk 7 ?_); (refine eTk 8 ?_); (refine eTk 9 ?_))
  clear hkle hkc hcapk
  have hlen1 : (l.drop k).length = l.length - k := List.length_drop
  have hlen2 : (l.take k).length = k := by rw [List.length_take]; omega
  obtain ⟨p1, hp1, hq1⟩ := ((HC.out.ext E4).drop k).pairsAt
  obtain ⟨p2, hp2, hq2⟩ := ((HC.out.ext E4).take k).pairsAt
  have hl1 : p1.length = l.length - k := by rw [← hlen1, ← hp1]; simp
  have hl2 : p2.length = k := by rw [← hlen2, ← hp2]; simp
  have hpl : Hid ((p1 ++ p2).map (·.2) = L) := by show _ = _; rw [List.map_append, hp1, hp2, HLL.out]
  have HQ1 := Lib.hid hq1
  have HQ2 := Lib.hid hq2
  have HL1 := Lib.hid hl1
  have HL2 := Lib.hid hl2
  clear hp1 hp2 hq1 hq2 hlen1 hlen2 hl1 hl2
  have E5 : Ext W3 (W3.alloc (.cells #[.slice (some ⟨b, off + k * 2, none⟩) (l.length - k) (cap - k), .slice (some ⟨b, off, none⟩) k cap] 22)) := extA
  have q1 : (W3.alloc (.cells #[.slice (some ⟨b, off + k * 2, none⟩) (l.length - k) (cap - k), .slice (some ⟨b, off, none⟩) k cap] 22)).cell? ⟨W3.heap.size, 0, none⟩ = some (.slice (some ⟨b, off + k * 2, none⟩) (l.length - k) (cap - k)) := by go_simp
  have q2 : (W3.alloc (.cells #[.slice (some ⟨b, off + k * 2, none⟩) (l.length - k) (cap - k), .slice (some ⟨b, off, none⟩) k cap] 22)).cell? ⟨W3.heap.size, 1, none⟩ = some (.slice (some ⟨b, off, none⟩) k cap) := by go_simp
  (refine wpAnyE_one (i := 10) (o := ?_) ?_ (by kernel_rfl) (fun K hK => ?_); rotate_left; (focus ((simp only [List.getElem?_toArray, List.getElem?_cons_succ, List.getElem?_cons_zero]; exact rfl))); go_simp; refine hK.out _ _ ?_ (fun hHeld => ?_); rotate_left; clear hK K; (try simp only [Act.put, List.setIfInBounds_toArray, List.set_cons_zero, List.set_cons_succ]))
  rotate_left
  · exact ⟨E5.cell hS.1, E5.cell hS.2⟩
  obtain ⟨cb, hcb⟩ : ∃ cb, cb = W3.heap.size := ⟨_, rfl⟩
  rw [← hcb] at q1 q2 ⊢
  have d2 := (Below.frozen (p := ⟨w.heap.size + 1, 0, none⟩) E5 (cell_lt c2)).trans d2
  have d3 := (Below.frozen (p := ⟨w.heap.size + 1, 1, none⟩) E5 (cell_lt c3)).trans d3
  have c2 := E5.cell c2
  have c3 := E5.cell c3
  clear hcb hS
  generalize (W3.alloc (.cells #[.slice (some ⟨b, off + k * 2, none⟩) (l.length - k) (cap - k), .slice (some ⟨b, off, none⟩) k cap] 22)) = W4 at E5 q1 q2 hHeld d2 d3 c2 c3 ⊢
  have hcat := ConcatP_any p1 p2 _ hpl.out (some ⟨b, off + k * 2, none⟩) (some ⟨b, off, none⟩) (cap - k) cap cb W4 (HQ1.out.ext E5) (HQ2.out.ext E5) (by have := HL1.out; have := HL2.out; omega) (by have := HL1.out; omega) (by have := HL2.out; omega) (by rw [HL1.out]; exact q1) (by rw [HL2.out]; exact q2)
  have HCAT := Lib.hid hcat
  clear hcat q1 q2
  (refine wpAnyE_one (i := 11) (o := ?_) ?_ (by kernel_rfl) (fun K hK => ?_); rotate_left; (focus ((simp only [List.getElem?_toArray, List.getElem?_cons_succ, List.getElem?_cons_zero]; exact rfl))); go_simp; refine HCAT.out.mono ?_; rintro e w5 ⟨ra, rc, rfl, hrc, hrl, hE5⟩; have HRC := Lib.hid hrc; have HRL := Lib.hid hrl; clear hrc hrl; go_wp2_with fail; refine hK.out _ _ ?_ (fun hHeld => ?_); rotate_left; clear hK K; (try simp only [Act.put, List.setIfInBounds_toArray, List.set_cons_zero, List.set_cons_succ]))
  rotate_left
  · exact ⟨hE5.cell hHeld.1, hE5.cell hHeld.2⟩
  have d2 := (Below.frozen (p := ⟨w.heap.size + 1, 0, none⟩) hE5 (cell_lt c2)).trans d2
  have d3 := (Below.frozen (p := ⟨w.heap.size + 1, 1, none⟩) hE5 (cell_lt c3)).trans d3
  have c2 := hE5.cell c2
  have c3 := hE5.cell c3
  have E6 := (E4.trans E5).trans hE5
  clear HCAT
  (refine eTk 12 ?_)
  have HCOP := Lib.hid (copied_any n L ra rc w5 (by omega) HFU.out HRC.out)
  (refine wpAnyE_one (i := 13) (o := ?_) ?_ (by kernel_rfl) (fun K hK => ?_); rotate_left; (focus ((simp only [List.getElem?_toArray, List.getElem?_cons_succ, List.getElem?_cons_zero]; exact rfl))); go_simp; refine HCOP.out.mono ?_; rintro e w6 ⟨rv, rfl, hrv, hE6⟩; have HRV := Lib.hid hrv; obtain ⟨ru, rfl, va, vc, rfl, _, _⟩ := hrv w6 (Chg.refl _ _); clear hrv; go_wp2_with fail; refine hK.out _ _ ?_ (fun hHeld => ?_); rotate_left; clear hK K; (try simp only [Act.put, List.setIfInBounds_toArray, List.set_cons_zero, List.set_cons_succ]))
  rotate_left
  · exact ⟨hE6.cell hHeld.1, hE6.cell hHeld.2⟩
  have d2 := (Below.frozen (p := ⟨w.heap.size + 1, 0, none⟩) hE6 (cell_lt c2)).trans d2
  have d3 := (Below.frozen (p := ⟨w.heap.size + 1, 1, none⟩) hE6 (cell_lt c3)).trans d3
  have hz := cell_lt c2
  dsimp only at hz
  have c2 := hE6.cell c2
  have c3 := hE6.cell c3
  clear HCOP
  have EF : Ext w ((w6.setCell ⟨w.heap.size + 1, 0, none⟩ (.int .i64 n)).setCell ⟨w.heap.size + 1, 1, none⟩ (.slice va L.length vc)) := by
    have E7 := E6.trans hE6
    exact (E7.set (by omega) _).set (by omega) _
  have HSV : Hid (SeqV ((w6.setCell ⟨w.heap.size + 1, 0, none⟩ (.int .i64 n)).setCell ⟨w.heap.size + 1, 1, none⟩ (.slice va L.length vc)) (.agg #[.int .i64 n, .slice va L.length vc]) (turned (n, l) k)) := by
    show SeqV _ _ _
    have := HRV.out ((w6.setCell ⟨w.heap.size + 1, 0, none⟩ (.int .i64 n)).setCell ⟨w.heap.size + 1, 1, none⟩ (.slice va L.length vc)) ((Chg.setCell (B := fun b => b < w5.heap.size) ⟨w.heap.size + 1, 0, none⟩ _ hz).trans (Chg.setCell (B := fun b => b < w5.heap.size) ⟨w.heap.size + 1, 1, none⟩ _ hz))
    rw [HLL.out] at this ⊢
    exact this
  (refine wpAnyE_one (i := 14) (o := ?_) ?_ (by kernel_rfl) (fun K hK => ?_); rotate_left; (focus ((simp only [List.getElem?_toArray, List.getElem?_cons_succ, List.getElem?_cons_zero]; exact rfl))); go_simp; refine hK.out _ _ ?_ (fun hHeld => ?_); rotate_left; clear hK K; (try simp only [Act.put, List.setIfInBounds_toArray, List.set_cons_zero, List.set_cons_succ]))
  rotate_left
  · exact ⟨by rw [World.cell?_setCell_other _ _ _ _ (fun h => by simp only [Addr.mk.injEq] at h; omega), World.cell?_setCell_other _ _ _ _ (fun h => by simp only [Addr.mk.injEq] at h; omega)]; exact hHeld.1, by rw [World.cell?_setCell_other _ _ _ _ (fun h => by simp only [Addr.mk.injEq] at h; omega), World.cell?_setCell_other _ _ _ _ (fun h => by simp only [Addr.mk.injEq] at h; omega)]; exact hHeld.2⟩
  (refine eTk 15 ?_)
  refine wpAnyE_done (by kernel_rfl) ?_ _
  go_wp2
  exact bodyPost_ret (v := .tuple #[.agg #[.int .i64 n, .slice va L.length vc], .int .i64 0]) (by rw [results_cell_tmp1 rfl]; go_simp) rfl ⟨_, rfl, HSV.out, EF⟩
theorem seqV_zero (w : World) : SeqV w (.agg #[.int .i64 0, .slice none 0 0]) sq0 := ⟨_, rfl, none, 0, rfl, fun i hi => by simp [sq0] at hi, by simp [sq0], by simp, fun h => by simp [sq0] at h⟩
set_option maxHeartbeats 4000000 in
set_option maxRecDepth 100000 in
theorem From_any (n : Int) (l : List Stp) (k : Int) (a : Option Addr) (cap : Nat) (w : World) (hl : l.length ≤ maxLen) (hc : CellsP w a l) (hr : Room a l.length cap) :
    Calls Tryd.prog 11 #[.agg #[.int .i64 n, .slice a l.length cap], .int .i64 k] w (SeqErr (if fromE (n, l) k = 0 then turned (n, l) k.toNat else sq0) (fromE (n, l) k) w) := by
  by_cases hk : fromE (n, l) k = 0
  · have hp : 0 ≤ k ∧ 0 < l.length := by
      unfold fromE at hk
      by_cases h1 : ckSeq (n, l) = 0
      · rw [if_neg (by simp [h1])] at hk
        by_cases h2 : k < 0 ∨ (((n, l) : Sq).2.length : Int) ≤ k
        · rw [if_pos h2] at hk; cases hk
        · dsimp only at h2; omega
      · rw [if_pos h1] at hk; exact absurd hk h1
    obtain ⟨b, off, ha⟩ := hr.2.2 hp.2
    subst ha
    obtain ⟨K, rfl⟩ := Int.eq_ofNat_of_zero_le hp.1
    rw [if_pos hk, hk, Int.toNat_natCast]
    exact From_ok n l K b off cap w hl hc hr.1 hr.2.1 hk
  · rw [if_neg hk]
    have HC := Lib.hid hc
    have HL := Lib.hid hl
    have hl' := hl
    unfold maxLen at hl'
    clear hc hl hr
    have hzs : ∀ w, (zeroValue 24).run Tryd.prog w = .ok (.agg #[.int .i64 0, .slice none 0 0]) w := fun _ => by kernel_rfl
    go_enter Tryd.func11, Tryd.ntmps11
    go_wp2_with fail
    have E1 : Ext w ((w.alloc (.cells #[.int .i64 n, .slice a l.length cap] 24)).alloc (.cells #[.int .i64 0, .slice none 0 0] 24)) := extA
    have c1 : ((w.alloc (.cells #[.int .i64 n, .slice a l.length cap] 24)).alloc (.cells #[.int .i64 0, .slice none 0 0] 24)).cell? ⟨w.heap.size, 1, none⟩ = some (.slice a l.length cap) := by go_simp
    have c2 : ((w.alloc (.cells #[.int .i64 n, .slice a l.length cap] 24)).alloc (.cells #[.int .i64 0, .slice none 0 0] 24)).cell? ⟨w.heap.size + 1, 0, none⟩ = some (.int .i64 0) := by go_simp
    have c3 : ((w.alloc (.cells #[.int .i64 n, .slice a l.length cap] 24)).alloc (.cells #[.int .i64 0, .slice none 0 0] 24)).cell? ⟨w.heap.size + 1, 1, none⟩ = some (.slice none 0 0) := by go_simp
    have d2 : ((w.alloc (.cells #[.int .i64 n, .slice a l.length cap] 24)).alloc (.cells #[.int .i64 0, .slice none 0 0] 24)).frozen? ⟨w.heap.size + 1, 0, none⟩ = false := by go_simp
    have d3 : ((w.alloc (.cells #[.int .i64 n, .slice a l.length cap] 24)).alloc (.cells #[.int .i64 0, .slice none 0 0] 24)).frozen? ⟨w.heap.size + 1, 1, none⟩ = false := by go_simp
    generalize ((w.alloc (.cells #[.int .i64 n, .slice a l.length cap] 24)).alloc (.cells #[.int .i64 0, .slice none 0 0] 24)) = W at E1 c1 c2 c3 d2 d3 ⊢
    refine (Pauses_any n l a cap _ HL.out (HC.out.ext E1)).mono ?_
    rintro e w1 ⟨pa, pc, rfl, hp1, hp2, hE⟩
    have E2 := E1.trans hE
    have d2 := (Below.frozen (p := ⟨w.heap.size + 1, 0, none⟩) hE (cell_lt c2)).trans d2
    have d3 := (Below.frozen (p := ⟨w.heap.size + 1, 1, none⟩) hE (cell_lt c3)).trans d3
    have c1 := hE.cell c1
    have c2 := hE.cell c2
    have c3 := hE.cell c3
    have EF : Ext w ((w1.setCell ⟨w.heap.size + 1, 0, none⟩ (.int .i64 0)).setCell ⟨w.heap.size + 1, 1, none⟩ (.slice none 0 0)) := (E2.set (by omega) _).set (by omega) _
    clear hE
    by_cases h1 : ckSeq (n, l) = 0
    · rw [if_pos h1] at hp1 hp2 ⊢
      rw [h1]
      have HP1 := Lib.hid hp1
      have HP2 := Lib.hid hp2
      have hp3 := hp2
      unfold maxLen at hp3
      clear hp1 hp2
      by_cases h2 : k < 0 ∨ (l.length : Int) ≤ k
      · have HF : Hid (fromE (n, l) k = 2) := by show _ = _; unfold fromE; rw [if_neg (by simp [h1]), if_pos h2]
        clear hk h1
        by_cases h3 : k < 0
        · clear h2
          go_wp2
          rw [HF.out]
          exact bodyPost_ret (v := .tuple #[.agg #[.int .i64 0, .slice none 0 0], .int .i64 2]) (by rw [results_cell_tmp1 rfl]; go_simp) rfl ⟨_, rfl, seqV_zero _, EF⟩
        · have h4 : (l.length : Int) ≤ k := by omega
          clear h2
          go_wp2
          rw [HF.out]
          exact bodyPost_ret (v := .tuple #[.agg #[.int .i64 0, .slice none 0 0], .int .i64 2]) (by rw [results_cell_tmp1 rfl]; go_simp) rfl ⟨_, rfl, seqV_zero _, EF⟩
      · have hx : fromE (n, l) k = if restsAt (n, l) k.toNat then 0 else 14 := by unfold fromE; rw [if_neg (by simp [h1]), if_neg h2]
        cases h3 : restsAt (n, l) k.toNat
        · have HF : Hid (fromE (n, l) k = 14) := by show _ = _; rw [hx, h3]; rfl
          have hmem : Hid (mem1 (pauses (n, l)) k = false) := by show _ = _; rw [pauses_mem n l k (by omega) (by omega), h3]
          have h4 : ¬ (k < 0) := by omega
          have h5 : ¬ ((l.length : Int) ≤ k) := by omega
          clear hk h1 h2 hx h3
          go_wp2_with fail
          refine (ContainsI_any (pauses (n, l)) k pa pc _ HP2.out HP1.out).mono ?_
          rintro e w2 ⟨rfl, hE⟩
          rw [hmem.out]
          have d2 := (Below.frozen (p := ⟨w.heap.size + 1, 0, none⟩) hE (cell_lt c2)).trans d2
          have d3 := (Below.frozen (p := ⟨w.heap.size + 1, 1, none⟩) hE (cell_lt c3)).trans d3
          have c2 := hE.cell c2
          have c3 := hE.cell c3
          have EF2 : Ext w ((w2.setCell ⟨w.heap.size + 1, 0, none⟩ (.int .i64 0)).setCell ⟨w.heap.size + 1, 1, none⟩ (.slice none 0 0)) := ((E2.trans hE).set (by omega) _).set (by omega) _
          go_wp2
          rw [HF.out]
          exact bodyPost_ret (v := .tuple #[.agg #[.int .i64 0, .slice none 0 0], .int .i64 14]) (by rw [results_cell_tmp1 rfl]; go_simp) rfl ⟨_, rfl, seqV_zero _, EF2⟩
        · rw [h3] at hx; exact absurd hx hk
    · have hn : (ckSeq (n, l) != 0) = true := by simp [h1]
      have HF : Hid (fromE (n, l) k = ckSeq (n, l)) := by show _ = _; unfold fromE; rw [if_pos h1]
      rw [if_neg h1] at hp1 hp2 ⊢
      clear hk h1
      generalize ckSeq (n, l) = x at hn HF ⊢
      go_wp2
      rw [HF.out]
      exact bodyPost_ret (v := .tuple #[.agg #[.int .i64 0, .slice none 0 0], .int .i64 x]) (by rw [results_cell_tmp1 rfl]; go_simp) rfl ⟨_, rfl, seqV_zero _, EF⟩
end Go.Proofs.YtdolibeceijnnaaDoor
namespace Go.Proofs.YtdolibeceijnnaaDoor
open Go.RowKit
end Go.Proofs.YtdolibeceijnnaaDoor
namespace Go.Proofs.YtdolibeceijnnaaDoor
open Go.RowKit
structure TrSt (X : Nat → Prop) (o : Nat) (W0 wr : World) (n : Int) (ys : List Stp) : Prop where
  be : Below o W0 wr
  c0 : wr.cell? ⟨o, 0, none⟩ = some (.int .i64 n)
  f1 : wr.frozen? ⟨o, 1, none⟩ = false
  v : ∃ v, wr.cell? ⟨o, 1, none⟩ = some v ∧ OwnsP X wr v ys ∧ ∀ b, v.ownBlock = some b → o < b
end Go.Proofs.YtdolibeceijnnaaDoor
namespace Go.Proofs.YtdolibeceijnnaaDoor
open Go.RowKit
end Go.Proofs.YtdolibeceijnnaaDoor
namespace Go.Proofs.YtdolibeceijnnaaDoor
open Go.RowKit
def StksAt (w : World) (b : Nat) (d : List Stk) : Prop := ∀ i, i < d.length → (w.cell? ⟨b, i * 2, none⟩ = some (.int .i64 (d.getD i stk0).1) ∧ w.cell? ⟨b, i * 2 + 1, none⟩ = some (.bool (d.getD i stk0).2)) ∧ w.frozen? ⟨b, i * 2, none⟩ = false ∧ w.frozen? ⟨b, i * 2 + 1, none⟩ = false
theorem StksAt.ext {A B : World} {b : Nat} {d : List Stk} (h : StksAt A b d) (k : Ext A B) : StksAt B b d := fun i hi => by
  obtain ⟨⟨h1, h2⟩, h3, h4⟩ := h i hi
  exact ⟨⟨k.cell h1, k.cell h2⟩, (Below.frozen (p := ⟨b, _, none⟩) k (cell_lt h1)).trans h3, (Below.frozen (p := ⟨b, _, none⟩) k (cell_lt h2)).trans h4⟩
theorem getD_set (d : List Stk) (i j : Nat) (x : Stk) (hi : i < d.length) : (d.set i x).getD j stk0 = if i = j then x else d.getD j stk0 := by
  rw [List.getD_eq_getElem?_getD, List.getD_eq_getElem?_getD, List.getElem?_set]
  by_cases h : i = j
  · subst h; rw [if_pos rfl, if_pos rfl, if_pos hi]; rfl
  · rw [if_neg h, if_neg h]
theorem StksAt.set {w : World} {b : Nat} {d : List Stk} (h : StksAt w b d) {i : Nat} (hi : i < d.length) (x : Stk) : StksAt ((w.setCell ⟨b, i * 2, none⟩ (.int .i64 x.1)).setCell ⟨b, i * 2 + 1, none⟩ (.bool x.2)) b (d.set i x) := fun j hj => by
  rw [List.length_set] at hj
  obtain ⟨⟨h1, h2⟩, h3, h4⟩ := h j hj
  obtain ⟨⟨k1, k2⟩, _, _⟩ := h i hi
  refine ⟨?_, by rw [World.frozen?_setCell, World.frozen?_setCell]; exact h3, by rw [World.frozen?_setCell, World.frozen?_setCell]; exact h4⟩
  rw [getD_set d i j x hi]
  by_cases e : i = j
  · subst e
    rw [if_pos rfl]
    refine ⟨?_, ?_⟩
    · rw [World.cell?_setCell_other _ _ _ _ (fun h => by simp only [Addr.mk.injEq] at h; omega), World.cell?_setCell_same _ _ _ k1]
    · rw [World.cell?_setCell_same _ _ (.bool x.2) (by rw [World.cell?_setCell_other _ _ _ _ (fun h => by simp only [Addr.mk.injEq] at h; omega)]; exact k2)]
  · rw [if_neg e]
    refine ⟨?_, ?_⟩
    · rw [World.cell?_setCell_other _ _ _ _ (fun h => by simp only [Addr.mk.injEq] at h; omega), World.cell?_setCell_other _ _ _ _ (fun h => by simp only [Addr.mk.injEq] at h; omega)]; exact h1
    · rw [World.cell?_setCell_other _ _ _ _ (fun h => by simp only [Addr.mk.injEq] at h; omega), World.cell?_setCell_other _ _ _ _ (fun h => by simp only [Addr.mk.injEq] at h; omega)]; exact h2
def insR (x : Stk) : List Stk → List Stk
  | [] => [x]
  | y :: r => if x.1 < y.1 then y :: insR x r else x :: y :: r
def Diff (l : List Stk) : Prop := l.Pairwise fun a b => a.1 ≠ b.1
def Asc (l : List Stk) : Prop := l.Pairwise fun a b => a.1 < b.1
end Go.Proofs.YtdolibeceijnnaaDoor
namespace Go.Proofs.YtdolibeceijnnaaDoor
open Go.RowKit
structure InSt (x : Stk) (S R d : List Stk) (j : Nat) : Prop where
  ex : ∃ P M, d = P ++ x :: M ++ S ∧ P.length = j ∧ (insR x P.reverse).reverse ++ M = R
theorem InSt.at {x : Stk} {S R d : List Stk} {j : Nat} (h : InSt x S R d j) : d.getD j stk0 = x := by
  obtain ⟨P, M, rfl, rfl, _⟩ := h.ex
  rw [List.append_assoc, List.getD_eq_getElem?_getD, List.getElem?_append_right (Nat.le_refl _), Nat.sub_self]; rfl
theorem InSt.zero {x : Stk} {S R d : List Stk} (h : InSt x S R d 0) : d = R ++ S := by
  obtain ⟨P, M, rfl, hp, hr⟩ := h.ex
  have : P = [] := List.eq_nil_of_length_eq_zero hp
  subst this
  rw [← hr]; rfl
theorem InSt.stop {x : Stk} {S R d : List Stk} {j : Nat} (h : InSt x S R d (j + 1)) (hn : ¬ x.1 < (d.getD j stk0).1) : d = R ++ S := by
  obtain ⟨P, M, rfl, hp, hr⟩ := h.ex
  obtain ⟨P', y, rfl⟩ : ∃ P' y, P = P' ++ [y] := by
    rcases List.eq_nil_or_concat P with rfl | ⟨P', y, rfl⟩
    · simp at hp
    · exact ⟨P', y, by simp⟩
  have hj : P'.length = j := by simp at hp; exact hp
  have hy : ((P' ++ [y]) ++ x :: M ++ S).getD j stk0 = y := by
    rw [List.getD_eq_getElem?_getD, List.append_assoc, List.append_assoc, List.getElem?_append_right (by omega), hj, Nat.sub_self]; rfl
  rw [hy] at hn
  rw [List.reverse_append] at hr
  have e : insR x ([y].reverse ++ P'.reverse) = x :: y :: P'.reverse := by show insR x (y :: P'.reverse) = _; unfold insR; rw [if_neg hn]
  rw [e] at hr
  rw [← hr]
  simp
theorem InSt.len {x : Stk} {S R d : List Stk} {j : Nat} (h : InSt x S R d j) : j < d.length := by
  obtain ⟨P, M, rfl, rfl, _⟩ := h.ex
  simp
structure SoSt (b : Nat) (w wr : World) (d : List Stk) : Prop where
  at_ : StksAt wr b d
  own : Own1 b w wr
theorem Own1.trans {n : Nat} {A B C : World} (h : Own1 n A B) (k : Own1 n B C) : Own1 n A C := ⟨h.1.trans k.1, fun i hi hn => (k.2 i (Nat.lt_of_lt_of_le hi h.1.size) hn).trans (h.2 i hi hn)⟩
theorem Own1.setCell {n : Nat} {A : World} (j : Nat) (v : Value) : Own1 n A (A.setCell ⟨n, j, none⟩ v) := ⟨(Below.refl _ _).setCell (p := ⟨n, j, none⟩) (Nat.le_refl _) _, fun k _ hne => Below.heap_setCell _ _ _ _ (fun e => hne (by first | exact e | exact e.symm))⟩
theorem SoSt.ext {b : Nat} {w A B : World} {d : List Stk} (h : SoSt b w A d) (k : Ext A B) (hb : b < A.heap.size) : SoSt b w B d := ⟨h.at_.ext k, h.own.trans (Own1.ext k (Nat.le_of_lt hb))⟩
end Go.Proofs.YtdolibeceijnnaaDoor
namespace Go.Proofs.YtdolibeceijnnaaDoor
open Go.RowKit
end Go.Proofs.YtdolibeceijnnaaDoor
namespace Go.Proofs.YtdolibeceijnnaaDoor
open Go.RowKit
end Go.Proofs.YtdolibeceijnnaaDoor
namespace Go.Proofs.YtdolibeceijnnaaDoor
open Go.RowKit
end Go.Proofs.YtdolibeceijnnaaDoor
namespace Go.Proofs.YtdolibeceijnnaaDoor
open Go.RowKit
end Go.Proofs.YtdolibeceijnnaaDoor
namespace Go.Proofs.YtdolibeceijnnaaDoor
open Go.RowKit
theorem flat2_set (l : List (Value × Value)) : ∀ (k : Nat), k < l.length → ∀ p : Value × Value, ((flat2 l).set (k * 2) p.1).set (k * 2 + 1) p.2 = flat2 (l.set k p) := by
  induction l with
  | nil => intro k hk; simp at hk
  | cons x l ih =>
    intro k hk p
    cases k with
    | zero => simp [flat2]
    | succ k =>
      have := ih k (by simpa using hk) p
      rw [show (k + 1) * 2 = k * 2 + 1 + 1 by omega]
      simp only [flat2, List.flatMap_cons, List.set_cons_succ, List.cons_append, List.nil_append] at this ⊢
      rw [this]
theorem flat2_take (l : List (Value × Value)) : ∀ k, (flat2 l).take (k * 2) = flat2 (l.take k) := by
  induction l with
  | nil => intro k; simp [flat2]
  | cons x l ih =>
    intro k
    cases k with
    | zero => simp [flat2]
    | succ k =>
      have := ih k
      rw [show (k + 1) * 2 = k * 2 + 1 + 1 by omega]
      simp only [flat2, List.flatMap_cons, List.take_succ_cons, List.cons_append, List.nil_append] at this ⊢
      rw [this]
theorem flat2_drop (l : List (Value × Value)) : ∀ k, (flat2 l).drop (k * 2) = flat2 (l.drop k) := by
  induction l with
  | nil => intro k; simp [flat2]
  | cons x l ih =>
    intro k
    cases k with
    | zero => simp [flat2]
    | succ k =>
      have := ih k
      rw [show (k + 1) * 2 = k * 2 + 1 + 1 by omega]
      simp only [flat2, List.flatMap_cons, List.drop_succ_cons, List.cons_append, List.nil_append] at this ⊢
      rw [this]
theorem Chg.cell {B : Nat → Prop} {A C : World} (h : Chg B A C) {p : Addr} {v : Value} (hp : ¬ B p.block) (hc : A.cell? p = some v) : C.cell? p = some v := (World.cell?_of_block (h.2 p.block (cell_lt hc) hp)).trans hc
theorem Chg.frozen {B : Nat → Prop} {A C : World} (h : Chg B A C) {p : Addr} {v : Value} (hp : ¬ B p.block) (hc : A.cell? p = some v) : C.frozen? p = A.frozen? p := World.frozen?_of_block (h.2 p.block (cell_lt hc) hp)
theorem pairP_set (ps : List (Value × Stp)) (k : Nat) (p : Value × Stp) : pairP (ps.set k p) = (pairP ps).set k (p.1, .int .i64 p.2.2) := by unfold pairP; rw [List.map_set]
theorem OwnsP.put {X : Nat → Prop} {A : World} {l : List Stp} {g vc : Nat} (h : OwnsP X A (.slice (some ⟨g, 0, none⟩) l.length vc) l) (k : Nat) (hk : k < l.length) (sv : Value) (y : Stp) :
    ∃ ps : List (Value × Stp), ps.map (·.2) = l ∧ (∀ p ∈ ps, SliceKX (fun b => X b ∨ b = g) A p.1 p.2.1) ∧
      ((A.setCell ⟨g, k * 2, none⟩ sv).setCell ⟨g, k * 2 + 1, none⟩ (.int .i64 y.2)).ownsRow 0 65 2 (.slice (some ⟨g, 0, none⟩) l.length vc) l.length (flat2 (pairP (ps.set k (sv, y)))) ∧
      (∃ u1, A.cell? ⟨g, k * 2, none⟩ = some u1) ∧ (∃ u2, A.cell? ⟨g, k * 2 + 1, none⟩ = some u2) ∧ A.frozen? ⟨g, k * 2, none⟩ = false ∧ A.frozen? ⟨g, k * 2 + 1, none⟩ = false := by
  obtain ⟨ps, h1, h2, h3⟩ := h
  have hl : ps.length = l.length := by rw [← h1]; simp
  have hg := flat2_get (pairP ps) k (by simp [pairP, hl]; exact hk)
  refine ⟨ps, h1, fun p hp => (h3 p hp).monoX (fun b hb => hb.imp id (fun e => by rw [e]; rfl)), ?_, ⟨_, (h2.cellAt _ (by omega)).trans hg.1⟩, ⟨_, (h2.cellAt _ (by omega)).trans hg.2⟩, h2.frozenAt _, h2.frozenAt _⟩
  have s1 := (h2.stored (k * 2) sv).1
  have s2 := (s1.stored (k * 2 + 1) (.int .i64 y.2)).1
  rw [flat2_set (pairP ps) k (by simp [pairP, hl]; exact hk) (sv, .int .i64 y.2)] at s2
  rw [pairP_set]
  exact s2
theorem Asc.diff {l : List Stk} (h : Asc l) : Diff l := h.imp fun hab e => by omega
theorem ckStrokes_asc {l : List Stk} {z : Int} (h : ckStrokes z l = 0) : Asc l ∧ ∀ y ∈ l, z < y.1 := by
  induction l generalizing z with
  | nil => exact ⟨List.Pairwise.nil, fun y hy => by cases hy⟩
  | cons x l ih =>
    unfold ckStrokes at h
    by_cases h1 : x.1 < 0 ∨ 6 ≤ x.1
    · rw [if_pos h1] at h; cases h
    · rw [if_neg h1] at h
      by_cases h2 : x.1 = z
      · rw [if_pos h2] at h; cases h
      · rw [if_neg h2] at h
        by_cases h3 : x.1 < z
        · rw [if_pos h3] at h; cases h
        · rw [if_neg h3] at h
          obtain ⟨i1, i2⟩ := ih h
          refine ⟨List.Pairwise.cons (fun y hy => i2 y hy) i1, fun y hy => ?_⟩
          rcases List.mem_cons.1 hy with rfl | hy
          · omega
          · have := i2 y hy; omega
theorem OwnsP.up {X : Nat → Prop} {A : World} {v : Value} {ys : List Stp} (h : OwnsP X A v ys) : OwnsP (fun b => X b ∨ A.heap.size ≤ b) A v ys := by
  obtain ⟨ps, h1, h2, h3⟩ := h
  refine ⟨ps, h1, h2, fun p hp => (h3 p hp).chgX (Chg.refl _ A) (fun b hb hh => ?_)⟩
  rcases hh with (hh | hh) | hh
  · exact .inl hh
  · omega
  · exact .inr hh
theorem StksAt.slice {A : World} {b cap : Nat} {l : List Stk} (h : StksAt A b l) (hm : l.length ≤ maxLen) : SliceK A (.slice (some ⟨b, 0, none⟩) l.length cap) l :=
  ⟨_, cap, rfl, fun i hi => ⟨b, 0, rfl, by rw [Nat.zero_add]; exact (h i hi).1.1, by rw [Nat.zero_add]; exact (h i hi).1.2⟩, hm⟩
end Go.Proofs.YtdolibeceijnnaaDoor
namespace Go.Proofs.YtdolibeceijnnaaDoor
open Go.RowKit
end Go.Proofs.YtdolibeceijnnaaDoor
namespace Go.Proofs.YtdolibeceijnnaaDoor
open Go.RowKit
theorem ownsK_succ {w : World} {v : Value} {l : List Stk} {x : Stk} (h : w.ownsRow 0 67 2 v (l.length + 1) (flatK l ++ [.int .i64 x.1, .bool x.2])) : OwnsK w v (l ++ [x]) := by
  unfold OwnsK
  rw [List.length_append, flatK_append]
  exact h
end Go.Proofs.YtdolibeceijnnaaDoor
namespace Go.Proofs.YtdolibeceijnnaaDoor
open Go.RowKit
end Go.Proofs.YtdolibeceijnnaaDoor
namespace Go.Proofs.YtdolibeceijnnaaDoor
open Go.RowKit
end Go.Proofs.YtdolibeceijnnaaDoor
namespace Go.Proofs.YtdolibeceijnnaaDoor
open Go.RowKit
theorem CellsI.take {w : World} {a : Option Addr} {l : List Int} (h : CellsI w a l) (k : Nat) : CellsI w a (l.take k) := fun i hi => by
  rw [List.length_take] at hi
  have e : (l.take k).getD i 0 = l.getD i 0 := by
    rw [List.getD_eq_getElem?_getD, List.getD_eq_getElem?_getD, List.getElem?_take_of_lt (by omega)]
  rw [e]
  exact h i (by omega)
end Go.Proofs.YtdolibeceijnnaaDoor
namespace Go.Proofs.YtdolibeceijnnaaDoor
open Go.RowKit
end Go.Proofs.YtdolibeceijnnaaDoor
namespace Go.Proofs.YtdolibeceijnnaaDoor
open Go.RowKit
end Go.Proofs.YtdolibeceijnnaaDoor
namespace Go.Proofs.YtdolibeceijnnaaDoor
open Go.RowKit
end Go.Proofs.YtdolibeceijnnaaDoor
namespace Go.Proofs.YtdolibeceijnnaaDoor
open Go.RowKit
end Go.Proofs.YtdolibeceijnnaaDoor
namespace Go.Proofs.YtdolibeceijnnaaDoor
open Go.RowKit
def insI (c : Int → Int → Int) (x : Int) : List Int → List Int
  | [] => [x]
  | y :: r => if c x y < 0 then y :: insI c x r else x :: y :: r
structure InI (c : Int → Int → Int) (x : Int) (S R d : List Int) (j : Nat) : Prop where
  ex : ∃ P M, d = P ++ x :: M ++ S ∧ P.length = j ∧ (insI c x P.reverse).reverse ++ M = R
theorem InI.at {c : Int → Int → Int} {x : Int} {S R d : List Int} {j : Nat} (h : InI c x S R d j) : d.getD j 0 = x := by
  obtain ⟨P, M, rfl, rfl, _⟩ := h.ex
  rw [List.append_assoc, List.getD_eq_getElem?_getD, List.getElem?_append_right (Nat.le_refl _), Nat.sub_self]; rfl
theorem InI.zero {c : Int → Int → Int} {x : Int} {S R d : List Int} (h : InI c x S R d 0) : d = R ++ S := by
  obtain ⟨P, M, rfl, hp, hr⟩ := h.ex
  have : P = [] := List.eq_nil_of_length_eq_zero hp
  subst this
  rw [← hr]; rfl
theorem InI.stop {c : Int → Int → Int} {x : Int} {S R d : List Int} {j : Nat} (h : InI c x S R d (j + 1)) (hn : ¬ c x (d.getD j 0) < 0) : d = R ++ S := by
  obtain ⟨P, M, rfl, hp, hr⟩ := h.ex
  obtain ⟨P', y, rfl⟩ : ∃ P' y, P = P' ++ [y] := by
    rcases List.eq_nil_or_concat P with rfl | ⟨P', y, rfl⟩
    · simp at hp
    · exact ⟨P', y, by simp⟩
  have hj : P'.length = j := by simp at hp; exact hp
  have hy : ((P' ++ [y]) ++ x :: M ++ S).getD j 0 = y := by
    rw [List.getD_eq_getElem?_getD, List.append_assoc, List.append_assoc, List.getElem?_append_right (by omega), hj, Nat.sub_self]; rfl
  rw [hy] at hn
  rw [List.reverse_append] at hr
  have e : insI c x ([y].reverse ++ P'.reverse) = x :: y :: P'.reverse := by show insI c x (y :: P'.reverse) = _; unfold insI; rw [if_neg hn]
  rw [e] at hr
  rw [← hr]
  simp
theorem InI.len {c : Int → Int → Int} {x : Int} {S R d : List Int} {j : Nat} (h : InI c x S R d j) : j < d.length := by
  obtain ⟨P, M, rfl, rfl, _⟩ := h.ex
  simp
def IntsAt (w : World) (b : Nat) (d : List Int) : Prop := ∀ i, i < d.length → w.cell? ⟨b, i, none⟩ = some (.int .i64 (d.getD i 0)) ∧ w.frozen? ⟨b, i, none⟩ = false
theorem IntsAt.ext {A B : World} {b : Nat} {d : List Int} (h : IntsAt A b d) (k : Ext A B) : IntsAt B b d := fun i hi => by
  obtain ⟨h1, h3⟩ := h i hi
  exact ⟨k.cell h1, (Below.frozen (p := ⟨b, _, none⟩) k (cell_lt h1)).trans h3⟩
theorem IntsAt.set {w : World} {b : Nat} {d : List Int} (h : IntsAt w b d) {i : Nat} (hi : i < d.length) (x : Int) : IntsAt (w.setCell ⟨b, i, none⟩ (.int .i64 x)) b (d.set i x) := fun j hj => by
  rw [List.length_set] at hj
  obtain ⟨h1, h3⟩ := h j hj
  obtain ⟨k1, _⟩ := h i hi
  refine ⟨?_, by rw [World.frozen?_setCell]; exact h3⟩
  by_cases e : i = j
  · subst e
    rw [World.cell?_setCell_same _ _ _ k1]
    simp [List.getD_eq_getElem?_getD, hi]
  · rw [World.cell?_setCell_other _ _ _ _ (fun h => by simp only [Addr.mk.injEq] at h; omega), h1]
    simp [List.getD_eq_getElem?_getD, e]
structure SiSt (b : Nat) (w wr : World) (d : List Int) : Prop where
  at_ : IntsAt wr b d
  own : Own1 b w wr
theorem SiSt.ext {b : Nat} {w A B : World} {d : List Int} (h : SiSt b w A d) (k : Ext A B) (hb : b < A.heap.size) : SiSt b w B d := ⟨h.at_.ext k, h.own.trans (Own1.ext k (Nat.le_of_lt hb))⟩
end Go.Proofs.YtdolibeceijnnaaDoor
namespace Go.Proofs.YtdolibeceijnnaaDoor
open Go.RowKit
end Go.Proofs.YtdolibeceijnnaaDoor
namespace Go.Proofs.YtdolibeceijnnaaDoor
open Go.RowKit
def bf (l : List Stp) (b a : Int) : Bool := lexLt (movesOf l b) (movesOf l a) || (decide (b < a) && (movesOf l b == movesOf l a))
theorem ints_length (n : Int) : (ints n).length = n.toNat := by unfold ints; simp
theorem ints_mem {n a : Int} : a ∈ ints n ↔ 0 ≤ a ∧ a < n := by
  unfold ints
  rw [List.mem_map]
  constructor
  · rintro ⟨k, hk, rfl⟩
    rw [List.mem_range] at hk
    show (0 : Int) ≤ (k : Int) ∧ (k : Int) < n
    omega
  · intro h
    exact ⟨a.toNat, by rw [List.mem_range]; omega, by show ((a.toNat : Nat) : Int) = a; omega⟩
end Go.Proofs.YtdolibeceijnnaaDoor
namespace Go.Proofs.YtdolibeceijnnaaDoor
open Go.RowKit
theorem step_append_run {P : Program} {ops : Array Oper} {o : Oper} {a : Act} {w : World} {K : Act → World → Prop} {Q : Exit → Act → World → Prop} {E : Prop} (hgd : o.guard = none) (s x : Operand) (t u : TypeId)
    (ho : o.op = .call { callee := .builtin .append, args := #[s, x], argTypes := #[t, u] }) (v y : Value) (hs : a.eval s = v) (hx : a.eval x = y)
    (v' : Value) (w' : World) (hr : (Builtin.append_ #[t, u] o.type #[v, y]).run P w = .ok v' w')
    (h : K (a.put o.dst v') w') :
    if Region.wanted o (yielded ops a.tmps) = true then Oper.wp P o a w K Q else E := by
  have hw : Region.wanted o (yielded ops a.tmps) = true := by simp [Region.wanted, hgd]
  rw [if_pos hw]
  unfold Oper.wp execOp
  simp only [ho, resolve, invoke, builtin, Sem.run_bind, Sem.run_pure, Result.andThen_ok, List.map_toArray, List.map_cons, List.map_nil, hs, hx, hr]
  exact h
theorem PairsAt.take {w : World} {b off : Nat} {ps : List (Value × Stp)} (h : PairsAt w (some ⟨b, off, none⟩) ps) (k : Nat) : PairsAt w (some ⟨b, off, none⟩) (ps.take k) := by
  refine ⟨?_, fun p hp => h.2.1 p (List.mem_of_mem_take hp), fun u hu => ?_⟩
  · right
    refine ⟨b, off, rfl, fun j u hu => ?_⟩
    rcases h.1 with e | ⟨b', off', e, hc⟩
    · rw [e, List.take_nil] at hu; simp [pairP, flat2] at hu
    · cases e
      refine hc j u ?_
      have e2 : flat2 (pairP (ps.take k)) = (flat2 (pairP ps)).take (k * 2) := by rw [flat2_take]; unfold pairP; rw [List.map_take]
      rw [e2] at hu
      exact List.getElem?_eq_some_iff.2 (by
        obtain ⟨h1, h2⟩ := List.getElem?_eq_some_iff.1 hu
        rw [List.length_take] at h1
        exact ⟨by omega, by rw [← h2, List.getElem_take]⟩)
  · have e2 : flat2 (pairP (ps.take k)) = (flat2 (pairP ps)).take (k * 2) := by rw [flat2_take]; unfold pairP; rw [List.map_take]
    rw [e2] at hu
    exact h.2.2 u (List.mem_of_mem_take hu)
theorem PairsAt.drop {w : World} {b off : Nat} {ps : List (Value × Stp)} (h : PairsAt w (some ⟨b, off, none⟩) ps) (k : Nat) : PairsAt w (some ⟨b, off + k * 2, none⟩) (ps.drop k) := by
  have e2 : flat2 (pairP (ps.drop k)) = (flat2 (pairP ps)).drop (k * 2) := by rw [flat2_drop]; unfold pairP; rw [List.map_drop]
  refine ⟨.inr ⟨b, off + k * 2, rfl, fun j u hu => ?_⟩, fun p hp => h.2.1 p (List.mem_of_mem_drop hp), fun u hu => ?_⟩
  · rw [e2, List.getElem?_drop] at hu
    rcases h.1 with e | ⟨b', off', e, hc⟩
    · rw [e] at hu; simp [pairP, flat2] at hu
    · cases e
      have := hc _ u hu
      rw [Addr.add_lit] at this ⊢
      rw [Nat.add_assoc]
      exact this
  · rw [e2] at hu
    exact h.2.2 u (List.mem_of_mem_drop hu)
theorem PairsAt.nil (w : World) (a : Option Addr) : PairsAt w a [] := ⟨.inl rfl, (fun p hp => by cases hp), (fun u hu => by simp [pairP, flat2] at hu)⟩
end Go.Proofs.YtdolibeceijnnaaDoor
namespace Go.Proofs.YtdolibeceijnnaaDoor
open Go.RowKit
end Go.Proofs.YtdolibeceijnnaaDoor
namespace Go.Proofs.YtdolibeceijnnaaDoor
open Go.RowKit
end Go.Proofs.YtdolibeceijnnaaDoor
namespace Go.Proofs.YtdolibeceijnnaaDoor
open Go.RowKit
theorem Full.append {l q : List Stp} (h : Full l) (k : Full q) : Full (l ++ q) := fun i hi => by
  rw [List.getD_eq_getElem?_getD]
  by_cases c : i < l.length
  · rw [List.getElem?_append_left c]
    have := h i c
    rw [List.getD_eq_getElem?_getD] at this
    exact this
  · rw [List.getElem?_append_right (by omega)]
    have := k (i - l.length) (by rw [List.length_append] at hi; omega)
    rw [List.getD_eq_getElem?_getD] at this
    exact this
end Go.Proofs.YtdolibeceijnnaaDoor
namespace Go.Proofs.YtdolibeceijnnaaDoor
open Go.RowKit
theorem flipAll_succ (l : List Stk) {k : Nat} (h : k < l.length) : flipAll (l.take (k + 1)) = flipAll (l.take k) ++ [((l.getD k stk0).1, !(l.getD k stk0).2)] := by
  unfold flipAll
  rw [List.take_succ_eq_append_getElem h, List.map_append, List.getD_eq_getElem?_getD, List.getElem?_eq_getElem h]
  rfl
theorem flipAll_len (l : List Stk) : (flipAll l).length = l.length := by simp [flipAll]
structure BkSt (o : Nat) (wa : Int) (W0 wr : World) (ys : List Stk) : Prop where
  be : Below o W0 wr
  c1 : wr.cell? ⟨o, 1, none⟩ = some (.int .i64 wa)
  f0 : wr.frozen? ⟨o, 0, none⟩ = false
  v : ∃ v, wr.cell? ⟨o, 0, none⟩ = some v ∧ OwnsK wr v ys ∧ ∀ b, v.ownBlock = some b → o < b
set_option maxHeartbeats 8000000 in
set_option maxRecDepth 100000 in
theorem back1_any (n : Int) (l : List Stp) (k : Nat) (v : Value) (wait : Int) (a : Option Addr) (cap sb nb : Nat) (w : World) (hl : l.length ≤ 64) (hk : k < l.length) (hf : Full l) (hc : CellsP w a l)
    (e1 : w.cell? ⟨sb, 1, none⟩ = some (.slice a l.length cap)) (e2 : w.cell? ⟨nb, 0, none⟩ = some (.int .i64 (l.length : Int))) :
    Calls Tryd.prog 32 #[.int .i64 (k : Int), .agg #[v, .int .i64 wait], .pointer (some ⟨sb, 0, none⟩), .pointer (some ⟨nb, 0, none⟩)] w (ChPost (backStep (n, l) k) v w) := by
  obtain ⟨y, hy⟩ : ∃ y, y = backStep (n, l) k := ⟨_, rfl⟩
  rw [← hy]
  have HY := Lib.hid hy
  have HC := Lib.hid hc
  have HF := Lib.hid hf
  clear hy hc hf
  obtain ⟨j, hj⟩ : ∃ j, j = l.length - 1 - k := ⟨_, rfl⟩
  obtain ⟨i, hi⟩ : ∃ i, i = (2 * l.length - 2 - k) % l.length := ⟨_, rfl⟩
  have hjl : j < l.length := by omega
  have hil : i < l.length := by rw [hi]; exact Nat.mod_lt _ (by omega)
  obtain ⟨b, off, vj, rfl, p1, p2, p3⟩ := HC.out j hjl
  obtain ⟨_, _, vi, e0, q1, q2, q3⟩ := HC.out i hil
  cases e0
  have hmodi : ((2 : Int) * (l.length : Int) - 2 - (k : Int)).tmod (l.length : Int) = (i : Int) := by
    rw [Int.tmod_eq_emod_of_nonneg (by omega)]
    rw [hi, show (2 : Int) * (l.length : Int) - 2 - (k : Int) = ((2 * l.length - 2 - k : Nat) : Int) from by omega]
    rfl
  have HJ := Lib.hid hj
  have HI := Lib.hid hi
  have m1 : IntKind.i64.wrap ((l.length : Int) - 1) = (l.length : Int) - 1 := IntWalk.i64_in _ (by omega)
  have m2 : IntKind.i64.wrap ((l.length : Int) - 1 - (k : Int)) = (j : Int) := by rw [IntWalk.i64_in _ (by omega)]; omega
  have m3 : (0 : Int) ≤ (j : Int) := by omega
  have m4 : (j : Int) < (l.length : Int) := by omega
  clear hj hi
  obtain ⟨st, hst⟩ : ∃ st, st = (l.getD j stp0).1 := ⟨_, rfl⟩
  obtain ⟨wa, hwa⟩ : ∃ wa, wa = (l.getD i stp0).2 := ⟨_, rfl⟩
  rw [← hst] at p2
  rw [← hwa] at q3
  obtain ⟨sa, sc, rfl, pc, pl⟩ := p2
  have PC := Lib.hid pc
  have PL := Lib.hid pl
  have HST := Lib.hid hst
  have HWA := Lib.hid hwa
  generalize (l.getD j stp0).2 = wj at p3
  clear pc pl hst hwa q1 q2
  have zb := cell_lt p1
  have ze := cell_lt e1
  have zn := cell_lt e2
  dsimp only at zb ze zn
  go_enter Tryd.func32, Tryd.ntmps32
  go_wp2
  have E1 : Ext w (((w.alloc (.cells #[v, .int .i64 wait] 65)).alloc (.cells #[.slice none 0 0, .int .i64 0] 65)).alloc (.cells #[.slice sa st.length sc, .int .i64 wj] 65)).drew := extA
  have r0 : (((w.alloc (.cells #[v, .int .i64 wait] 65)).alloc (.cells #[.slice none 0 0, .int .i64 0] 65)).alloc (.cells #[.slice sa st.length sc, .int .i64 wj] 65)).drew.cell? ⟨w.heap.size + 1, 0, none⟩ = some (.slice none 0 0) := by go_simp
  have r1 : (((w.alloc (.cells #[v, .int .i64 wait] 65)).alloc (.cells #[.slice none 0 0, .int .i64 0] 65)).alloc (.cells #[.slice sa st.length sc, .int .i64 wj] 65)).drew.cell? ⟨w.heap.size + 1, 1, none⟩ = some (.int .i64 0) := by go_simp
  have rf0 : (((w.alloc (.cells #[v, .int .i64 wait] 65)).alloc (.cells #[.slice none 0 0, .int .i64 0] 65)).alloc (.cells #[.slice sa st.length sc, .int .i64 wj] 65)).drew.frozen? ⟨w.heap.size + 1, 0, none⟩ = false := by go_simp
  have rf1 : (((w.alloc (.cells #[v, .int .i64 wait] 65)).alloc (.cells #[.slice none 0 0, .int .i64 0] 65)).alloc (.cells #[.slice sa st.length sc, .int .i64 wj] 65)).drew.frozen? ⟨w.heap.size + 1, 1, none⟩ = false := by go_simp
  have t0 : (((w.alloc (.cells #[v, .int .i64 wait] 65)).alloc (.cells #[.slice none 0 0, .int .i64 0] 65)).alloc (.cells #[.slice sa st.length sc, .int .i64 wj] 65)).drew.cell? ⟨w.heap.size + 1 + 1, 0, none⟩ = some (.slice sa st.length sc) := by go_simp
  refine wp_region_heldE 99 (fun w' => w'.cell? ⟨sb, 1, none⟩ = some (.slice (some ⟨b, off, none⟩) l.length cap) ∧ w'.cell? ⟨nb, 0, none⟩ = some (.int .i64 (l.length : Int)) ∧ w'.cell? ⟨b, off + i * 2 + 1, none⟩ = some (.int .i64 wa)) (by kernel_rfl) ?_
  generalize (((w.alloc (.cells #[v, .int .i64 wait] 65)).alloc (.cells #[.slice none 0 0, .int .i64 0] 65)).alloc (.cells #[.slice sa st.length sc, .int .i64 wj] 65)).drew = W at E1 r0 r1 rf0 rf1 t0 ⊢
  have hS : W.cell? ⟨sb, 1, none⟩ = some (.slice (some ⟨b, off, none⟩) l.length cap) ∧ W.cell? ⟨nb, 0, none⟩ = some (.int .i64 (l.length : Int)) ∧ W.cell? ⟨b, off + i * 2 + 1, none⟩ = some (.int .i64 wa) := ⟨E1.cell e1, E1.cell e2, E1.cell q3⟩
  have u1 : IntKind.i64.wrap (2 * (l.length : Int)) = 2 * (l.length : Int) := IntWalk.i64_in _ (by omega)
  have u2 : IntKind.i64.wrap (2 * (l.length : Int) - 2) = 2 * (l.length : Int) - 2 := IntWalk.i64_in _ (by omega)
  have u3 : IntKind.i64.wrap (2 * (l.length : Int) - 2 - (k : Int)) = 2 * (l.length : Int) - 2 - (k : Int) := IntWalk.i64_in _ (by omega)
  have u4 : IntKind.i64.wrap (i : Int) = (i : Int) := IntWalk.i64_in _ (by omega)
  have u5 : (0 : Int) ≤ (i : Int) := by omega
  have u6 : (i : Int) < (l.length : Int) := by omega
  have hne : ¬ l = [] := by rintro rfl; simp at hk
  ((refine eTk 0 ?_); (refine eTk 1 ?_); (refine eTk 2 ?_); (refine eTk 3 ?_); (refine eTk 4 ?_); (refine eTk 5 ?_); (refine eTk 6 ?_); (refine eTk 7 ?_); (refine eTk 8 ?_); (refine eTk 9 ?_); (refine eTk 10 ?_); (refine eTk 11 ?_))
  clear u1 u2 u3 u4 u5 u6 hne hmodi m1 m2 m3 m4
  (refine eTk 12 ?_)
  have F1 : Ext W (W.alloc (.cells #[.slice none 0 0, .int .i64 0] 65)) := extA
  (refine wpAnyE_one (i := 13) (o := ?_) ?_ (by kernel_rfl) (fun K hK => ?_); rotate_left; (focus ((simp only [List.getElem?_toArray, List.getElem?_cons_succ, List.getElem?_cons_zero]; exact rfl))); go_simp; refine hK.out _ _ ?_ (fun hHeld => ?_); rotate_left; clear hK K; (try simp only [Act.put, List.setIfInBounds_toArray, List.set_cons_zero, List.set_cons_succ]))
  rotate_left
  · exact ⟨F1.cell hS.1, F1.cell hS.2.1, F1.cell hS.2.2⟩
  clear hHeld
  have x0 : (W.alloc (.cells #[.slice none 0 0, .int .i64 0] 65)).cell? ⟨W.heap.size, 0, none⟩ = some (.slice none 0 0) := by go_simp
  have x1 : (W.alloc (.cells #[.slice none 0 0, .int .i64 0] 65)).cell? ⟨W.heap.size, 1, none⟩ = some (.int .i64 0) := by go_simp
  have xf0 : (W.alloc (.cells #[.slice none 0 0, .int .i64 0] 65)).frozen? ⟨W.heap.size, 0, none⟩ = false := by go_simp
  have xf1 : (W.alloc (.cells #[.slice none 0 0, .int .i64 0] 65)).frozen? ⟨W.heap.size, 1, none⟩ = false := by go_simp
  generalize W.alloc (.cells #[.slice none 0 0, .int .i64 0] 65) = W1 at F1 x0 x1 xf0 xf1 ⊢
  obtain ⟨o, ho⟩ : ∃ o, o = W.heap.size := ⟨_, rfl⟩
  rw [← ho] at x0 x1 xf0 xf1 ⊢
  have hoW : W.heap.size ≤ o := Nat.le_of_eq ho.symm
  have zt : w.heap.size + 1 + 1 < o := by rw [ho]; exact cell_lt t0
  have HO := Lib.hid ho
  clear ho
  have F2 : Ext W ((W1.setCell ⟨o, 0, none⟩ (.slice none 0 0)).setCell ⟨o, 1, none⟩ (.int .i64 wa)) := (F1.set hoW _).set hoW _
  (refine wpAnyE_one (i := 14) (o := ?_) ?_ (by kernel_rfl) (fun K hK => ?_); rotate_left; (focus ((simp only [List.getElem?_toArray, List.getElem?_cons_succ, List.getElem?_cons_zero]; exact rfl))); go_simp; refine hK.out _ _ ?_ (fun hHeld => ?_); rotate_left; clear hK K; (try simp only [Act.put, List.setIfInBounds_toArray, List.set_cons_zero, List.set_cons_succ]))
  rotate_left
  · exact ⟨F2.cell hS.1, F2.cell hS.2.1, F2.cell hS.2.2⟩
  refine wpAnyE_done (by kernel_rfl) ?_ _
  have y0 : ((W1.setCell ⟨o, 0, none⟩ (.slice none 0 0)).setCell ⟨o, 1, none⟩ (.int .i64 wa)).cell? ⟨o, 0, none⟩ = some (.slice none 0 0) := by go_simp
  have y1 : ((W1.setCell ⟨o, 0, none⟩ (.slice none 0 0)).setCell ⟨o, 1, none⟩ (.int .i64 wa)).cell? ⟨o, 1, none⟩ = some (.int .i64 wa) := by go_simp
  have yf : ((W1.setCell ⟨o, 0, none⟩ (.slice none 0 0)).setCell ⟨o, 1, none⟩ (.int .i64 wa)).frozen? ⟨o, 0, none⟩ = false := by rw [World.frozen?_setCell, World.frozen?_setCell]; exact xf0
  generalize (W1.setCell ⟨o, 0, none⟩ (.slice none 0 0)).setCell ⟨o, 1, none⟩ (.int .i64 wa) = V at F2 y0 y1 yf ⊢
  have t0 := F2.cell t0
  have rf0 := (Below.frozen (p := ⟨w.heap.size + 1, 0, none⟩) F2 (cell_lt r0)).trans rf0
  have rf1 := (Below.frozen (p := ⟨w.heap.size + 1, 1, none⟩) F2 (cell_lt r1)).trans rf1
  have r0 := F2.cell r0
  have r1 := F2.cell r1
  have EV := E1.trans F2
  clear x0 x1 xf0 xf1 F1 F2 hS hHeld e1 e2 p1 p3 q3
  go_wp2
  obtain ⟨i0, hi0, hiz, his, hib⟩ := info_parts infoStk
  have zV : o < V.heap.size := cell_lt y0
  have M0 : Hid (BkSt o wa V V (flipAll (st.take 0))) := ⟨Below.refl _ _, y1, yf, _, y0, OwnsK.nil _, fun b hb => by cases hb⟩
  have hst40 : st.length ≤ 40 := by have := (HF.out j hjl).2; rw [← HST.out] at this; exact this
  go_loopw [35] (fun ix wr => ∃ t : Nat, t ≤ st.length ∧ ix = .int .i64 t ∧ Hid (BkSt o wa V wr (flipAll (st.take t)))) (fun ix _ => st.length - (intOf ix).toNat)
  case atStart => exact ⟨0, Nat.zero_le _, rfl, M0⟩
  case round =>
    obtain ⟨t, ht, rfl, M⟩ := hrel
    clear M0
    have hbe := M.out.be
    have E2 : Ext w wr := EV.trans' hbe (by omega)
    have hsz := hbe.size
    by_cases hlt : t < st.length
    · obtain ⟨kb, ko, ha, s1, s2⟩ := PC.out.ext E2 t hlt
      subst ha
      have HFL := Lib.hid (flipAll_succ st hlt)
      have hfl : (flipAll (st.take t)).length = t := by rw [flipAll_len, List.length_take]; omega
      generalize st.getD t stk0 = z at s1 s2 HFL
      obtain ⟨za, zo⟩ := z
      dsimp only at s1 s2 HFL
      obtain ⟨vv, mv, mO, mB⟩ := M.out.v
      have mf := M.out.f0
      have mc := M.out.c1
      have HMO := Lib.hid mO
      have HMB := Lib.hid mB
      obtain ⟨P, hP⟩ : ∃ P, P = flipAll (st.take t) := ⟨_, rfl⟩
      rw [← hP] at HMO HFL hfl
      have zs := cell_lt s1
      have zo2 : o < wr.heap.size := by omega
      dsimp only at zs
      clear mO mB M hP
      have EB : Ext wr ((wr.alloc (.cells #[.int .i64 za, .bool (!zo)] 67)).alloc (.cells #[.int .i64 za, .bool (!zo)] 67)) := extA
      have mv2 := EB.cell mv
      have mc2 := EB.cell mc
      have mf2 := (Below.frozen (p := ⟨o, 0, none⟩) EB (cell_lt mv)).trans mf
      go_wp2_with (at_builtin; refine wpList_append1 _ rfl _ _ 45 rfl 67 i0 (.agg #[.int .i64 0, .bool false]) 2 16 Tryd.underlying45 hi0 hiz his hib rfl (by decide) vv P.length (flatK P) rfl ?ho ⟨wr.heap.size + 1, 0, none⟩ 1 1 (by decide) [.int .i64 za, .bool (!zo)] rfl rfl ?hn ?c1 ?c2 ?c3 ?c4)
      case ho => exact HMO.out.ext EB
      case hn =>
        have h := cells_one (wr.alloc (.cells #[.int .i64 za, .bool (!zo)] 67)) [.int .i64 za, .bool (!zo)] 67
        rw [show (wr.alloc (.cells #[.int .i64 za, .bool (!zo)] 67)).heap.size = wr.heap.size + 1 from by show (wr.heap.push _).size = _; exact Array.size_push _] at h
        exact h
      case c1 => intro u hu; simp at hu; rcases hu with rfl | rfl <;> rfl
      case c2 => unfold maxLen; omega
      case c3 => omega
      case c4 =>
        intro v' w5 hown5 hend5
        rw [← hfl] at hown5
        have O5 : Hid (OwnsK w5 v' (flipAll (st.take (t + 1)))) := by show OwnsK _ _ _; rw [HFL.out]; exact ownsK_succ (x := (za, !zo)) hown5
        have hgr := hend5.chg
        have hB5 := hend5.below (n := o) (by have := EB.size; omega) (fun b' hb' => Nat.le_of_lt (HMB.out b' hb'))
        have OB5 : Hid (∀ b', v'.ownBlock = some b' → o < b') := hend5.ge (n := o + 1) (by have := EB.size; omega) HMB.out
        have h1 := hgr.1 o (by have := EB.size; omega) (fun e => by have := HMB.out _ e; omega)
        have mv5 := (World.cell?_of_block (a := ⟨o, 0, none⟩) h1).trans mv2
        have mc5 := (World.cell?_of_block (a := ⟨o, 1, none⟩) h1).trans mc2
        have mf5 := (World.frozen?_of_block (a := ⟨o, 0, none⟩) h1).trans mf2
        have hbe5 : Below o V w5 := (hbe.trans (EB.mono (by omega))).trans hB5
        clear hown5 hend5 hgr hB5 h1 HMO mv2 mf2
        have hlen : (flipAll (st.take (t + 1))).length = t + 1 := by rw [flipAll_len, List.length_take]; omega
        obtain ⟨u5, c5, hv5, _, _⟩ := O5.out.reads
        rw [hlen] at hv5
        subst hv5
        clear hlen
        go_wp2
        have hne5 : ∀ b', (Value.slice u5 (t + 1) c5).ownBlock = some b' → (w5.setCell ⟨o, 0, none⟩ (.slice u5 (t + 1) c5)).heap[b']? = w5.heap[b']? := fun b' hb' => by
          have h9 := OB5.out b' hb'
          refine Below.heap_setCell _ _ _ _ (fun e => ?_)
          dsimp only at e
          omega
        have MN : Hid (BkSt o wa V (w5.setCell ⟨o, 0, none⟩ (.slice u5 (t + 1) c5)) (flipAll (st.take (t + 1)))) :=
          ⟨hbe5.setCell (p := ⟨o, 0, none⟩) (Nat.le_refl _) _, by rw [World.cell?_setCell_other _ _ _ _ (fun h => by simp only [Addr.mk.injEq] at h; omega)]; exact mc5, by rw [World.frozen?_setCell]; exact mf5, _, World.cell?_setCell_same _ _ _ mv5, rowSame O5.out hne5, OB5.out⟩
        exact ⟨⟨t + 1, by omega, by go_num, MN⟩, by simp [intOf]; omega⟩
    · have hte : t = st.length := by omega
      subst hte
      obtain ⟨vv, mv, mO, mB⟩ := M.out.v
      have mc := M.out.c1
      have hlen : (flipAll (st.take st.length)).length = st.length := by rw [flipAll_len, List.take_length]
      obtain ⟨u5, c5, hv5, _, _, hoff⟩ := mO.reads
      rw [hlen] at hv5
      subst hv5
      have HMO := Lib.hid mO
      have HMB := Lib.hid mB
      have HOFF := Lib.hid hoff
      have r0 := cellB hbe (p := ⟨w.heap.size + 1, 0, none⟩) (by show w.heap.size + 1 < _; omega) r0
      have r1 := cellB hbe (p := ⟨w.heap.size + 1, 1, none⟩) (by show w.heap.size + 1 < _; omega) r1
      have rf0 := (Below.frozen (p := ⟨w.heap.size + 1, 0, none⟩) hbe (by show w.heap.size + 1 < _; omega)).trans rf0
      have rf1 := (Below.frozen (p := ⟨w.heap.size + 1, 1, none⟩) hbe (by show w.heap.size + 1 < _; omega)).trans rf1
      clear mO mB hoff M hlen
      have EF : Ext w ((wr.setCell ⟨w.heap.size + 1, 0, none⟩ (.slice u5 st.length c5)).setCell ⟨w.heap.size + 1, 1, none⟩ (.int .i64 wa)) := (E2.set (by omega) _).set (by omega) _
      go_wp2
      refine bodyPost_ret (v := .agg #[.slice u5 st.length c5, .int .i64 wa]) (by rw [results_cell1 rfl]; go_simp) rfl ?_
      have hye : y = (flipAll st, wa) := by
        rw [HY.out, HST.out, HWA.out, HJ.out, HI.out]
        rfl
      rw [hye]
      have hO2 : OwnsK ((wr.setCell ⟨w.heap.size + 1, 0, none⟩ (.slice u5 st.length c5)).setCell ⟨w.heap.size + 1, 1, none⟩ (.int .i64 wa)) (.slice u5 st.length c5) (flipAll st) := by
        have h0 := HMO.out
        rw [List.take_length] at h0
        refine rowSame h0 (fun b' hb' => ?_)
        have h9 := HMB.out b' hb'
        rw [Below.heap_setCell _ _ _ _ (fun e => by dsimp only at e; omega), Below.heap_setCell _ _ _ _ (fun e => by dsimp only at e; omega)]
      have hfl2 := flipAll_len st
      have hst0 : 0 < st.length := by have := (HF.out j hjl).1; rw [← HST.out] at this; exact this
      refine ⟨_, rfl, hO2.slice, fun b' hb' => .inr (by have := HMB.out b' hb'; omega), ⟨u5, c5, by rw [hfl2], fun b' off' hb' => ?_⟩, fun n' hn' _ => EF.mono hn'⟩
      have h0 := HOFF.out b' off' hb' (by rw [List.take_length]; intro h; rw [h] at hfl2; simp at hfl2; omega)
      exact h0.1
end Go.Proofs.YtdolibeceijnnaaDoor
