/- Steps of the proof: LawC, DelP, IsSort, RightL, PartsR, Shelf, SortI. No conditions. -/
import Derived.Lib.SliceRun
import Derived.Deep.RegionLaw
import Derived.Lib.SlicesDelete
import Derived.Shelf.Small.Bits
import Derived.Shelf.Small.Wraps
import Derived.Shelf.Strconv.Itoa0
import Derived.Shelf.Slices.Equal
import Derived.Ground.Names2Prog
import Derived.Shelf.Slices.SearchI
import Derived.Shelf.Slices.Empties2
import Derived.Ground.SlsfProg
import Derived.Shelf.SlSortCmp.Insertion
import Derived.Shelf.SlSortCmp.SiftDown1
import Derived.Shelf.SlSortCmp.HeapSort1
import Derived.Shelf.SlSortCmp.Insertion1
import Derived.Shelf.SlSortCmp.Median1
import Derived.Shelf.SlSortCmp.Pivot1
import Derived.Shelf.SlSortCmp.ReverseRange1
import Derived.Shelf.SlSortCmp.PartialInsertion1
import Derived.Shelf.SlSortCmp.PartitionEqual1
import Derived.Shelf.SlSortCmp.Partition1
import Derived.Shelf.SlSortCmp.Pdq1
import Derived.Shelf.SlSortCmp.Whole1
import Derived.Shelf.SlSortCmp.NoneTotal
import Derived.Test.YtfigooilhnahfaaProg
import Derived.Lib.SortBridge
import Derived.Test.YtfigooilhnahfaaZOpens1
import Derived.Test.YtfigooilhnahfaaZOpens2
import Derived.Test.YtfigooilhnahfaaZOpens3
import Derived.Test.YtfigooilhnahfaaZOpens4
/- The law's distance; slices.Clone, Index and Contains of places. -/
namespace Go.Proofs.Ytfigooilhnahfaa
open Go.RowKit

theorem distance_any (p q : Pt) (w : World) (hp : InG p) (hq : InG q) :
    Calls Try.prog 42 #[.agg #[.int .i64 p.1, .int .i64 p.2], .agg #[.int .i64 q.1, .int .i64 q.2]] w fun e w' => e = .returned (.int .i64 (awayI p q)) ∧ Ext w w' := by
  obtain ⟨p1, p2, p3, p4⟩ := hp
  obtain ⟨q1, q2, q3, q4⟩ := hq
  have w1 : IntKind.i64.wrap (p.1 - q.1) = p.1 - q.1 := IntWalk.i64_in _ (by omega)
  have w2 : IntKind.i64.wrap (q.1 - p.1) = q.1 - p.1 := IntWalk.i64_in _ (by omega)
  have w3 : IntKind.i64.wrap (p.2 - q.2) = p.2 - q.2 := IntWalk.i64_in _ (by omega)
  have w4 : IntKind.i64.wrap (q.2 - p.2) = q.2 - p.2 := IntWalk.i64_in _ (by omega)
  have E0 : Ext w ((( (( w).alloc (.cells #[.int .i64 p.1, .int .i64 p.2] 26))).alloc (.cells #[.int .i64 q.1, .int .i64 q.2] 26))) := ((Ext.refl _).alloc _).alloc _
  go_enter Try.func42, Try.ntmps42
  go_wp2
  all_goals go_ret
  all_goals exact ⟨ret_int (by unfold awayI; omega), E0⟩

theorem two_news {w : World} {nb : Nat} {a b : Value} (h0 : w.cell? ⟨nb, 0, none⟩ = some a) (h1 : w.cell? ⟨nb, 1, none⟩ = some b) : ∀ j u, ([a, b] : List Value)[j]? = some u → w.cell? ((⟨nb, 0, none⟩ : Addr).add j) = some u := by
  intro j u hj
  rw [Addr.add_lit, Nat.zero_add]
  match j, hj with
  | 0, hj => simp at hj; subst hj; exact h0
  | 1, hj => simp at hj; subst hj; exact h1
  | j + 2, hj => simp at hj
/-- an append within a region that draws its order -/
theorem step_append1 {P : Program} {ops : Array Oper} {o : Oper} {a : Act} {w : World} {K : Act → World → Prop} {Q : Exit → Act → World → Prop} {E : Prop} (hgd : o.guard = none) (s x : Operand) (t : TypeId)
    (ho : o.op = .call { callee := .builtin .append, args := #[s, x], argTypes := #[t, t] })
    (e : TypeId) (i : TypeInfo) (z : Value) (size bytes : Nat) (ht : P.underlying t = some (.slice e)) (hi : P.info? e = some i) (hz : i.zero = some z)
    (hsize : i.size = size) (hby : i.bytes = bytes) (hzs : z.cells.size = size) (hsz : 0 < size)
    (v : Value) (n : Nat) (xs : List Value) (hs : a.eval s = v) (hown : w.ownsRow 0 e size v n xs)
    (ad : Addr) (m c : Nat) (hm : 0 < m) (news : List Value) (hx : a.eval x = .slice (some ad) m c) (hl : news.length = m * size) (hnews : ∀ j u, news[j]? = some u → w.cell? (ad.add j) = some u) (h1 : ∀ u ∈ news, u.oneCell' = true)
    (h63 : n + m ≤ maxLen) (hbytes : (n + m) * bytes ≤ 140737488355328)
    (h : ∀ v' w', w'.ownsRow 0 e size v' (n + m) (xs ++ news) → AppEnd w w' v v' → K (a.put o.dst v') w') :
    if Region.wanted o (yielded ops a.tmps) = true then Oper.wp P o a w K Q else E := by
  have hw : Region.wanted o (yielded ops a.tmps) = true := by simp [Region.wanted, hgd]
  rw [if_pos hw]
  obtain ⟨v', w', hr, h2, h3⟩ := run_append1 (P := P) w t o.type e i z size bytes ht hi hz hsize hby hzs hsz v n xs hown ad m c hm news hl hnews h1 h63 hbytes
  unfold Oper.wp execOp
  simp only [ho, resolve, invoke, builtin, Sem.run_bind, Sem.run_pure, Result.andThen_ok, List.map_toArray, List.map_cons, List.map_nil, hs, hx, hr]
  exact h v' w' h2 h3
theorem flat_two (l : List Pt) (j : Nat) (hj : j < l.length * 2) : ∃ i, i < l.length ∧ (j = i * 2 ∧ (flat l)[j]? = some (.int .i64 (pt l i).1) ∨ j = i * 2 + 1 ∧ (flat l)[j]? = some (.int .i64 (pt l i).2)) := by
  refine ⟨j / 2, by omega, ?_⟩
  have h := flat_get l (j / 2) (by omega)
  rcases Nat.mod_two_eq_zero_or_one j with h0 | h0
  · have e : j = j / 2 * 2 := by omega
    refine .inl ⟨e, ?_⟩
    have := h.1
    rwa [← e] at this
  · have e : j = j / 2 * 2 + 1 := by omega
    refine .inr ⟨e, ?_⟩
    have := h.2
    rwa [← e] at this
theorem flat_lt {l : List Pt} {j : Nat} {u : Value} (h : (flat l)[j]? = some u) : j < l.length * 2 := by
  have := (List.getElem?_eq_some_iff.1 h).1
  rwa [flat_length] at this
theorem flat_one (l : List Pt) : ∀ u ∈ flat l, u.oneCell' = true := by
  intro u hu
  obtain ⟨j, hj, e⟩ := List.mem_iff_getElem.1 hu
  obtain ⟨i, _, h⟩ := flat_two l j (by rwa [flat_length] at hj)
  rw [List.getElem?_eq_getElem hj, e] at h
  rcases h with ⟨_, h⟩ | ⟨_, h⟩ <;> (injection h with h; subst h; rfl)
theorem Cells2.flat {w : World} {b off : Nat} {l : List Pt} (h : Cells2 w (some ⟨b, off, none⟩) l) (j : Nat) (u : Value) (hu : (Go.Proofs.Ytfigooilhnahfaa.flat l)[j]? = some u) : w.cell? ((⟨b, off, none⟩ : Addr).add j) = some u := by
  obtain ⟨i, hi, e⟩ := flat_two l j (flat_lt hu)
  obtain ⟨b', off', h1, h2, h3⟩ := h i hi
  cases h1
  rw [Addr.add_lit]
  rcases e with ⟨rfl, e⟩ | ⟨rfl, e⟩
  · rw [hu] at e; rw [h2, e]
  · rw [hu] at e; rw [← Nat.add_assoc, h3, e]

set_option maxHeartbeats 1000000 in
/-- a copy of a slice of places that is not nil -/
theorem CloneP_any (l : List Pt) (a : Option Addr) (cap : Nat) (w : World) (hne : l ≠ []) (hl : l.length ≤ 100000) (hc : Cells2 w a l) :
    Calls Try.prog 39 #[.slice a l.length cap] w fun e w' => ∃ v, e = .returned v ∧ Owns w' v l ∧ (∀ b, v.ownBlock = some b → w.heap.size ≤ b) ∧ Ext w w' := by
  have HC : Hid (Cells2 w a l) := hc
  obtain ⟨b, off, rfl, _, _⟩ := hc 0 (List.length_pos_iff.2 hne)
  clear hc
  obtain ⟨i0, hi, hi0, hi1, hi2⟩ := info_parts infoPl
  have q22 : ∀ (w : World) (a : Option Addr) (n c n' c' : Nat), (binOp .eql 22 (.slice a n c) (.slice none n' c')).run Try.prog w = .ok (.bool a.isNone) w := fun w a n c n' c' => Lib.run_eql_slice_nil w _ _ a n c n' c' Try.underlying22
  go_enter Try.func39, Try.ntmps39
  go_wp2_with (at_builtin; refine wpList_append1 _ rfl _ _ 22 rfl 26 i0 (.agg #[.int .i64 0, .int .i64 0]) 2 16 Try.underlying22 hi hi0 hi1 hi2 rfl (by decide) _ 0 [] rfl (World.ownsRow_made w #[] 0 (Nat.zero_le _) (Nat.zero_le _) rfl) ⟨b, off, none⟩ l.length cap ?c0 (flat l) rfl ?c1 ?c2 ?c3 ?c4 ?c5 ?_)
  case c0 => exact List.length_pos_iff.2 hne
  case c1 => exact flat_length l
  case c2 =>
    intro j u hj
    exact Lib.cell?_alloc_some _ (Cells2.flat HC.out j u hj)
  case c3 => exact flat_one l
  case c4 => unfold maxLen; omega
  case c5 => omega
  intro v' w1 hown hend
  have HO : Hid (Owns w1 v' l) := by show w1.ownsRow _ _ _ _ _ _; simpa using hown
  have HE : Hid (Ext w w1) := Below.trans ((Ext.refl w).alloc (.cells #[] 26)) (hend.below (n := w.heap.size) (by simp) (fun b hb => by simp [Value.ownBlock] at hb; omega))
  have HB : Hid (∀ b, v'.ownBlock = some b → w.heap.size ≤ b) := fun b hb => by
    rcases hend with ⟨h1, _, _⟩ | ⟨h1, _⟩
    · rw [h1] at hb; simp [Value.ownBlock] at hb; omega
    · rw [h1] at hb; simp at hb; omega
  clear hown hend
  go_wp2
  go_ret
  exact ⟨v', rfl, HO.out, HB.out, HE.out⟩

set_option maxHeartbeats 1000000 in
theorem IndexP_any (l : List Pt) (p : Pt) (a : Option Addr) (cap : Nat) (w : World) (hl : l.length ≤ maxLen) (hc : Cells2 w a l) :
    Calls Try.prog 71 #[.slice a l.length cap, .agg #[.int .i64 p.1, .int .i64 p.2]] w fun e w' => ∃ r : Int, e = .returned (.int .i64 r) ∧ decide (0 ≤ r) = decide (p ∈ l) ∧ Ext w w' := by
  unfold maxLen at hl
  go_enter Try.func71, Try.ntmps71
  go_wp2
  have H : Ext w ((( w).alloc (.cells #[.int .i64 p.1, .int .i64 p.2] 26))) := (Ext.refl _).alloc _
  have c1 : ((( w).alloc (.cells #[.int .i64 p.1, .int .i64 p.2] 26))).cell? ⟨w.heap.size, 0, none⟩ = some (.int .i64 p.1) := by go_simp
  have c2 : ((( w).alloc (.cells #[.int .i64 p.1, .int .i64 p.2] 26))).cell? ⟨w.heap.size, 1, none⟩ = some (.int .i64 p.2) := by go_simp
  generalize (( w).alloc (.cells #[.int .i64 p.1, .int .i64 p.2] 26)) = W at H c1 c2 ⊢
  have hc := hc.ext H
  go_loopw [8] (fun i wr => ∃ k : Nat, k ≤ l.length ∧ i = .int .i64 k ∧ Hid (∀ j, j < k → pt l j ≠ p) ∧ Ext W wr) (fun i _ => l.length - (intOf i).toNat)
  case atStart => exact ⟨0, Nat.zero_le _, rfl, fun j hj => by omega, Ext.refl _⟩
  case round =>
    obtain ⟨k, hk, rfl, hn, he⟩ := hrel
    have d1 := he.cell c1
    have d2 := he.cell c2
    by_cases hlt : k < l.length
    · obtain ⟨b, off, ha, e1, e2⟩ := hc.ext he k hlt
      subst ha
      clear hc c1 c2
      by_cases heq : pt l k = p
      · have hm : Hid (decide (p ∈ l) = true) := by
          have : pt l k ∈ l := by unfold pt; rw [List.getD_eq_getElem?_getD, List.getElem?_eq_getElem hlt]; simp
          rw [heq] at this; simpa [Hid] using this
        rw [heq] at e1 e2
        clear heq
        go_wp2
        go_quiet (fail)
        go_wp2
        all_goals go_ret
        exact ⟨(k : Int), rfl, by rw [hm.out]; simp, (H.trans he).drewN _⟩
      · have HN : Hid (pt l k ≠ p) := heq
        by_cases h1 : (pt l k).1 = p.1
        · have h2 : (p.2 == (pt l k).2) = false := by
            cases hb : (p.2 == (pt l k).2)
            · rfl
            · exact absurd (Prod.ext h1 (by simpa using (by simpa using hb : p.2 = (pt l k).2).symm)) heq
          rw [h1] at e1
          clear heq h1
          go_wp2
          go_quiet (fail)
          go_wp2
          refine ⟨⟨k + 1, by omega, by go_num, fun j hj => ?_, he.drewN _⟩, by simp [intOf]; omega⟩
          rcases Nat.lt_or_eq_of_le (Nat.le_of_lt_succ hj) with h | rfl
          · exact hn.out j h
          · exact HN.out
        · have h1' : (p.1 == (pt l k).1) = false := by simpa using fun h => h1 (Eq.symm h)
          have h1'' : ¬ p.1 = (pt l k).1 := fun h => h1 h.symm
          clear heq
          go_wp2
          go_quiet (fail)
          go_wp2
          refine ⟨⟨k + 1, by omega, by go_num, fun j hj => ?_, he.drewN _⟩, by simp [intOf]; omega⟩
          rcases Nat.lt_or_eq_of_le (Nat.le_of_lt_succ hj) with h | rfl
          · exact hn.out j h
          · exact HN.out
    · have hke : k = l.length := by omega
      have hm : Hid (decide (p ∈ l) = false) := by
        show _ = _
        simp only [decide_eq_false_iff_not]
        intro hmem
        obtain ⟨i, hi, e⟩ := List.mem_iff_getElem.1 hmem
        refine hn.out i (by omega) ?_
        unfold pt; rw [List.getD_eq_getElem?_getD, List.getElem?_eq_getElem hi]; simpa using e
      go_wp2
      go_ret
      exact ⟨-1, rfl, by rw [hm.out]; simp, H.trans he⟩

theorem ContainsP_any (l : List Pt) (p : Pt) (a : Option Addr) (cap : Nat) (w : World) (hl : l.length ≤ maxLen) (hc : Cells2 w a l) :
    Calls Try.prog 43 #[.slice a l.length cap, .agg #[.int .i64 p.1, .int .i64 p.2]] w fun e w' => e = .returned (.bool (decide (p ∈ l))) ∧ Ext w w' := by
  have HC : Hid (Cells2 w a l) := hc
  have E0 : Ext w ((( w).alloc (.cells #[.int .i64 p.1, .int .i64 p.2] 26))) := (Ext.refl _).alloc _
  clear hc
  go_enter Try.func43, Try.ntmps43
  go_wp2_with fail
  refine (IndexP_any l p a cap _ hl (HC.out.ext E0)).mono ?_
  rintro e w1 ⟨r, rfl, hr, hE⟩
  have HR := Lib.hid hr
  clear hr
  go_wp2
  all_goals go_ret
  exact ⟨ret_bool HR.out, E0.trans hE⟩
end Go.Proofs.Ytfigooilhnahfaa
/- slices.Delete of one place. -/
namespace Go.Proofs.Ytfigooilhnahfaa
open Go.RowKit

theorem run_clear1 (w : World) (ty : TypeId) (b o c : Nat) (hc : ∀ j, j < 2 → (w.cell? ⟨b, o + j, none⟩).isSome = true) (hf : ∀ j, j < 2 → w.frozen? ⟨b, o + j, none⟩ = false) :
    (Builtin.clear_ #[22] ty #[.slice (some ⟨b, o, none⟩) 1 c]).run Try.prog w = .ok (.tuple #[]) (w.setCells b o [.int .i64 0, .int .i64 0]) := by
  have hst := run_storeCells_cells (P := Try.prog) b o [.int .i64 0, .int .i64 0] 0 w (by simpa using hc) (by simpa using hf) (by intro v hv; simp at hv; rcases hv with rfl | rfl <;> rfl)
  simp only [Nat.add_zero] at hst
  have hz : ∀ w, (zeroValue 26).run Try.prog w = .ok (.agg #[.int .i64 0, .int .i64 0]) w := fun _ => by kernel_rfl
  have hzc : (Builtin.zeroCells (Value.agg #[.int .i64 0, .int .i64 0]).cells 1).toList = [.int .i64 0, .int .i64 0] := by kernel_rfl
  simp [Builtin.clear_, run_underlying Try.underlying22, hz, hzc, hst]
theorem setCells_chg (b : Nat) : ∀ (vs : List Value) (o : Nat) (w : World), Chg (fun k => k = b) w (w.setCells b o vs) ∧ Below b w (w.setCells b o vs) := by
  intro vs
  induction vs with
  | nil => intro o w; exact ⟨Chg.refl _ _, Below.refl _ _⟩
  | cons v r ih =>
    intro o w
    obtain ⟨h1, h2⟩ := ih (o + 1) (w.setCell ⟨b, o, none⟩ v)
    exact ⟨(Chg.setCell (B := fun k => k = b) ⟨b, o, none⟩ v rfl).trans h1, Below.trans ((Below.refl _ _).setCell (p := ⟨b, o, none⟩) (Nat.le_refl _) _) h2⟩
theorem pt_erase {l : List Pt} {i k : Nat} : pt (l.eraseIdx i) k = if k < i then pt l k else pt l (k + 1) := by
  unfold pt
  rw [List.getD_eq_getElem?_getD, List.getElem?_eraseIdx]
  split <;> rw [List.getD_eq_getElem?_getD]
theorem pt_drop {l : List Pt} {i k : Nat} : pt (l.drop i) k = pt l (i + k) := by
  unfold pt
  rw [List.getD_eq_getElem?_getD, List.getElem?_drop, List.getD_eq_getElem?_getD]

set_option maxHeartbeats 4000000 in
set_option maxRecDepth 1000000 in
theorem DeleteP_any (l : List Pt) (b c i r : Nat) (w : World) (hr : l.length = i + 1 + r) (hl : l.length ≤ 100000) (ho : Owns w (.slice (some ⟨b, 0, none⟩) l.length c) l) :
    Calls Try.prog 38 #[.slice (some ⟨b, 0, none⟩) (i + 1 + r) c, .int .i64 i, .int .i64 ((i : Int) + 1)] w fun e w' => e = .returned (.slice (some ⟨b, 0, none⟩) (i + r) c) ∧ Cells2 w' (some ⟨b, 0, none⟩) (l.eraseIdx i) ∧ Chg (fun k => k = b) w w' ∧ Below b w w' := by
  have hcl2 : Cells2 w (some ⟨b, 0, none⟩) l := by
    obtain ⟨a', c', hv, hc, _⟩ := Owns.reads ho
    injection hv with hv _ _
    subst hv
    exact hc
  have hcells : ∀ j u, (flat l)[j]? = some u → w.cell? ⟨b, j, none⟩ = some u := fun j u hu => by
    have := Cells2.flat hcl2 j u hu
    rwa [Addr.add_lit, Nat.zero_add] at this
  have hfroz : ∀ j, w.frozen? ⟨b, j, none⟩ = false := fun j => by
    have ho' : w.ownsRow 0 26 2 (.slice (some ⟨b, 0, none⟩) l.length c) l.length (flat l) := ho
    exact ho'.frozenAt j
  have hsome : ∀ j, j < l.length * 2 → (w.cell? ⟨b, j, none⟩).isSome = true := fun j hj => by
    obtain ⟨u, hu⟩ : ∃ u, (flat l)[j]? = some u := ⟨_, List.getElem?_eq_getElem (by rw [flat_length]; exact hj)⟩
    rw [hcells j u hu]; rfl
  have hcap : l.length ≤ c ∧ c ≤ maxLen := by
    rcases ho.2 with ⟨hv, _⟩ | ⟨g, c', cur, hv, _, _, h1, h2, _⟩
    · cases hv
    · injection hv with _ _ hv3
      subst hv3
      exact ⟨h1, h2⟩
  obtain ⟨i0, hi0, hz0, hz1, hz2⟩ := info_parts infoPl
  obtain ⟨news, hnews⟩ : ∃ news, news = flat (l.drop (i + 1)) := ⟨_, rfl⟩
  have hlen : news.length = r * 2 := by rw [hnews, flat_length, List.length_drop, hr]; omega
  have hget : ∀ t, t < r → news[t * 2]? = some (.int .i64 (pt l (i + 1 + t)).1) ∧ news[t * 2 + 1]? = some (.int .i64 (pt l (i + 1 + t)).2) := fun t ht => by
    have := flat_get (l.drop (i + 1)) t (by rw [List.length_drop, hr]; omega)
    rw [pt_drop] at this
    rw [hnews]
    exact this
  obtain ⟨A, hA, hsrc⟩ : ∃ A : Addr, (if c = i + 1 then some (⟨b, 0, none⟩ : Addr) else some ⟨b, (i + 1) * 2, none⟩) = some A ∧ Hid (∀ t u, news[t]? = some u → w.drew.cell? (A.add t) = some u) := by
    by_cases h : c = i + 1
    · refine ⟨⟨b, 0, none⟩, by simp [h], fun t u hu => ?_⟩
      have h0 : news.length = 0 := by rw [hlen]; omega
      rw [List.length_eq_zero_iff.1 h0] at hu
      simp at hu
    · refine ⟨⟨b, (i + 1) * 2, none⟩, by simp [h], fun t u hu => ?_⟩
      rw [Addr.add_lit]
      refine hcells _ u ?_
      have ht : t < r * 2 := by rw [← hlen]; exact (List.getElem?_eq_some_iff.1 hu).1
      have he : flat l = flat (l.take (i + 1)) ++ flat (l.drop (i + 1)) := by rw [← flat_append, List.take_append_drop]
      have hl1 : (flat (l.take (i + 1))).length = (i + 1) * 2 := by rw [flat_length, List.length_take, hr]; congr 1; omega
      rw [he, List.getElem?_append_right (by omega), hl1, Nat.add_sub_cancel_left, ← hnews]
      exact hu
  have s1 : Hid (news.length = r * 2) := hlen
  have s2 : Hid (∀ u ∈ news, u.oneCell' = true) := by rw [hnews]; exact flat_one _
  have s3 : Hid (∀ t, t < news.length → (w.drew.cell? ⟨b, 0 + i * 2 + t, none⟩).isSome = true ∧ w.drew.frozen? ⟨b, 0 + i * 2 + t, none⟩ = false) := by
    intro t ht
    rw [hlen] at ht
    exact ⟨hsome _ (by rw [hr]; omega), hfroz _⟩
  obtain ⟨W1, hW1⟩ : ∃ W1, W1 = w.drew.setCells b (0 + i * 2) news := ⟨_, rfl⟩
  have hW1c : ∀ j, j < l.length * 2 → (W1.cell? ⟨b, j, none⟩).isSome = true := fun j hj => by
    by_cases h : 0 + i * 2 ≤ j ∧ j < 0 + i * 2 + news.length
    · have := World.cell?_setCells_in b news (0 + i * 2) w.drew (fun t ht => (s3.out t ht).1) (j - i * 2) (by omega)
      rw [hW1, show j = 0 + i * 2 + (j - i * 2) by omega, this]
      rfl
    · rw [hW1, World.cell?_setCells_out b news (0 + i * 2) w.drew ⟨b, j, none⟩ (fun _ _ => by show j < _ ∨ _ ≤ j; omega)]
      exact hsome j hj
  have hW1f : ∀ j, W1.frozen? ⟨b, j, none⟩ = false := fun j => by rw [hW1, World.frozen?_setCells]; exact hfroz j
  have hcl : ∀ ty cc, (Builtin.clear_ #[22] ty #[.slice (some ⟨b, (i + r) * 2, none⟩) (i + 1 + r - (i + r)) cc]).run Try.prog W1 = .ok (.tuple #[]) (W1.setCells b ((i + r) * 2) [.int .i64 0, .int .i64 0]) :=
    fun ty cc => by rw [show i + 1 + r - (i + r) = 1 by omega]; exact run_clear1 W1 ty b ((i + r) * 2) cc (fun j hj => hW1c _ (by rw [hr]; omega)) (fun j hj => hW1f _)
  have hRES : Hid (Cells2 (W1.setCells b ((i + r) * 2) [.int .i64 0, .int .i64 0]) (some ⟨b, 0, none⟩) (l.eraseIdx i)) := by
    intro k hk
    rw [List.length_eraseIdx, if_pos (by omega), hr] at hk
    refine ⟨b, 0, rfl, ?_, ?_⟩
    all_goals
      rw [World.cell?_setCells_out b _ _ W1 _ (fun _ _ => Or.inl (by dsimp only; omega)), pt_erase, hW1]
      by_cases h : k < i
      · rw [if_pos h, World.cell?_setCells_out b news (0 + i * 2) w.drew _ (fun _ _ => Or.inl (by dsimp only; omega))]
        have := flat_get l k (by omega)
        first | exact hcells _ _ (by rw [Nat.zero_add]; exact this.1) | exact hcells _ _ (by rw [Nat.zero_add]; exact this.2)
      · rw [if_neg h]
        obtain ⟨t, rfl⟩ : ∃ t, k = i + t := ⟨k - i, by omega⟩
        have hg := hget t (by omega)
        have ht0 : t * 2 < news.length := by rw [hlen]; omega
        have ht1 : t * 2 + 1 < news.length := by rw [hlen]; omega
        first
          | (have := World.cell?_setCells_in b news (0 + i * 2) w.drew (fun t ht => (s3.out t ht).1) (t * 2) ht0
             rw [show 0 + (i + t) * 2 = 0 + i * 2 + t * 2 by omega, this, ← List.getElem?_eq_getElem ht0, hg.1, show i + 1 + t = i + t + 1 by omega]; done)
          | (have := World.cell?_setCells_in b news (0 + i * 2) w.drew (fun t ht => (s3.out t ht).1) (t * 2 + 1) ht1
             rw [show 0 + (i + t) * 2 + 1 = 0 + i * 2 + (t * 2 + 1) by omega, this, ← List.getElem?_eq_getElem ht1, hg.2, show i + 1 + t = i + t + 1 by omega]; done)
  have hCH : Hid (Chg (fun k => k = b) w (W1.setCells b ((i + r) * 2) [.int .i64 0, .int .i64 0]) ∧ Below b w (W1.setCells b ((i + r) * 2) [.int .i64 0, .int .i64 0])) := by
    rw [hW1]
    obtain ⟨h1, h2⟩ := setCells_chg b news (0 + i * 2) w.drew
    obtain ⟨h3, h4⟩ := setCells_chg b [.int .i64 0, .int .i64 0] ((i + r) * 2) (w.drew.setCells b (0 + i * 2) news)
    exact ⟨((Chg.ext (Ext.refl w).drew).trans h1).trans h3, Below.trans (Below.trans ((Below.refl b w).drew) h2) h4⟩
  have hW : Hid (W1 = w.drew.setCells b (0 + i * 2) news) := hW1
  have hic : i ≤ c := by omega
  have hjc : i + 1 ≤ c := by omega
  have hnc : i + 1 + r ≤ c := by omega
  have hmc : c ≤ 9223372036854775807 := hcap.2
  have q1 : IntKind.i64.wrap ((i : Int) + 1) = (i : Int) + 1 := IntWalk.i64_in _ (by omega)
  have q2 : (0 : Int) ≤ (i : Int) + 1 := by omega
  have q3 : (i : Int) + 1 ≤ (i : Int) + 1 + (r : Int) := by omega
  clear hW1 hW1c hW1f hget hnews hlen hcells hfroz hsome hcl2 ho
  go_enter Try.func38, Try.ntmps38
  go_wp2_with fail
  go_region_law (refine step_append_room rfl (.tmp 22) (.tmp 25) 22 rfl 26 i0 2 Try.underlying22 hi0 hz1 b 0 i c (by simp [Act.eval, Act.put]) A r (c - (i + 1)) news (by simp [Act.eval, Act.put]) s1.out hsrc.out s2.out (by omega) s3.out ?_; rw [← hW.out])
  go_wp2
  go_ret
  exact ⟨rfl, hRES.out, hCH.out⟩
end Go.Proofs.Ytfigooilhnahfaa
/- slices.IsSortedFunc over the sizes of the parts. -/
namespace Go.Proofs.Ytfigooilhnahfaa
open Go.RowKit

theorem Opens1_any (x y : Int) (w : World) (hx : 0 ≤ x ∧ x ≤ 4096) (hy : 0 ≤ y ∧ y ≤ 4096) : Calls Try.prog 41 #[.int .i64 x, .int .i64 y] w fun e w' => e = .returned (.int .i64 (y - x)) ∧ Ext w w' := by
  have q0 : IntKind.i64.wrap (y - x) = y - x := IntWalk.i64_in _ (by omega)
  go_enter Try.func41, Try.ntmps41
  go_wp2
  go_ret
  exact ⟨rfl, Ext.refl _⟩

set_option maxHeartbeats 2000000 in
theorem IsSorted_any (l : List Int) (a : Option Addr) (cap n : Nat) (w : World) (hn : n = l.length) (hl : n ≤ 4096) (hd : Desc l) (hb : ∀ x ∈ l, 0 ≤ x ∧ x ≤ 4096) (hc : CellsI w a l) :
    Calls Try.prog 40 #[.slice a n cap, .func (.func 41) #[] #[]] w fun e w' => e = .returned (.bool true) ∧ Ext w w' := by
  have HC : Hid (CellsI w a l) := hc
  have HN := Lib.hid hn
  have HD := Lib.hid hd
  have HB := Lib.hid hb
  have q0 : IntKind.i64.wrap ((n : Int) - 1) = (n : Int) - 1 := IntWalk.i64_in _ (by omega)
  clear hc hn hd hb
  go_enter Try.func40, Try.ntmps40
  go_wp2
  go_loopw [5] (fun i wr => ∃ t : Nat, t ≤ n ∧ i = .int .i64 ((t : Int) - 1) ∧ Ext w wr) (fun i _ => (intOf i + 1).toNat)
  case atStart => exact ⟨n, Nat.le_refl _, rfl, Ext.refl _⟩
  case round =>
    obtain ⟨t, ht, rfl, he⟩ := hrel
    by_cases h2 : 2 ≤ t
    · obtain ⟨s, rfl⟩ : ∃ s, t = s + 2 := ⟨t - 2, by omega⟩
      have e1 : ((s + 2 : Nat) : Int) - 1 = (s : Int) + 1 := by omega
      rw [e1]
      obtain ⟨b, off, rfl, c1⟩ := HC.out.ext he (s + 1) (by rw [← HN.out]; omega)
      obtain ⟨b', off', hb', c2⟩ := HC.out.ext he s (by rw [← HN.out]; omega)
      cases hb'
      have hx : 0 ≤ l.getD (s + 1) 0 ∧ l.getD (s + 1) 0 ≤ 4096 := HB.out _ (by have h := HN.out; rw [List.getD_eq_getElem?_getD, List.getElem?_eq_getElem (show s + 1 < l.length by omega)]; simp)
      have hy : 0 ≤ l.getD s 0 ∧ l.getD s 0 ≤ 4096 := HB.out _ (by have h := HN.out; rw [List.getD_eq_getElem?_getD, List.getElem?_eq_getElem (show s < l.length by omega)]; simp)
      have hle : l.getD (s + 1) 0 ≤ l.getD s 0 := HD.out.get (by omega) (by rw [← HN.out]; omega)
      generalize l.getD (s + 1) 0 = x at c1 hx hle
      generalize l.getD s 0 = y at c2 hy hle
      have HX := Lib.hid hx
      have HY := Lib.hid hy
      have z1 := cell_lt c1
      dsimp only at z1
      have v1 : ¬ y - x < 0 := by omega
      have i0 : (0 : Int) < (s : Int) + 1 := by omega
      have i1 : (0 : Int) ≤ (s : Int) := Int.natCast_nonneg s
      have i2 : (0 : Int) ≤ (s : Int) + 1 := by omega
      have i3 : (s : Int) + 1 < (n : Int) := by omega
      have i4 : (s : Int) < (n : Int) := by omega
      have i5 : IntKind.i64.wrap ((s : Int) + 1 - 1) = (s : Int) := by rw [Int.add_sub_cancel]; exact IntWalk.i64_in _ (by omega)
      have i6 : IntKind.i64.wrap (s : Int) = (s : Int) := IntWalk.i64_in _ (by omega)
      clear hx hy hle
      go_wp2_with fail
      go_region_held3 (fun w' => Sees wr w') ((repeat (first | exact Sees.refl _ | assumption | apply Sees.drew | apply Sees.alloc | (refine Sees.ext ?_ (by assumption))))) (first | (go_at_call 41; refine (Opens1_any x y _ HX.out HY.out).mono ?_; rintro e w' ⟨rfl, hE2⟩))
      have hS := (show Sees wr _ by assumption).2.2
      go_wp2
      refine ⟨⟨s + 1, by omega, by go_num, he.trans hS⟩, by simp [intOf]; omega⟩
    · have h3 : ¬ (0 : Int) < (t : Int) - 1 := by omega
      go_wp2
      go_ret
      exact ⟨rfl, he⟩
end Go.Proofs.Ytfigooilhnahfaa
/- The law's right: whether a grid is right and small. -/
namespace Go.Proofs.Ytfigooilhnahfaa
open Go.RowKit

set_option maxHeartbeats 1000000 in
theorem right_any (g : Gr) (ga : Option Addr) (gc : Nat) (w : World) (hg : g.bl.length ≤ maxLen) (hc : Cells2 w ga g.bl) :
    Calls Try.prog 36 #[.agg #[.int .i64 g.rows, .int .i64 g.cols, .slice ga g.bl.length gc]] w fun e w' => e = .returned (.bool (rightB g)) ∧ Ext w w' := by
  have HC : Hid (Cells2 w ga g.bl) := hc
  have HG := Lib.hid hg
  clear hc hg
  have E0 : Ext w (((w).alloc (.cells #[.int .i64 g.rows, .int .i64 g.cols, .slice ga g.bl.length gc] 24))) := (Ext.refl _).alloc _
  by_cases h1 : g.rows ≤ 9
  · by_cases h2 : g.cols ≤ 9
    · have hb : Hid (rightB g = decide (chk g = 0)) := by show _ = _; unfold rightB; simp [h1, h2]
      go_enter Try.func36, Try.ntmps36
      go_wp2_with fail
      refine (CheckR_any g ga gc _ HG.out (HC.out.ext E0)).mono ?_
      rintro e w1 ⟨rfl, hE⟩
      go_wp2
      go_ret
      exact ⟨ret_bool (by rw [hb.out]; cases h5 : decide (chk g = 0) <;> simp_all), E0.trans hE⟩
    · have hb : Hid (rightB g = false) := by show _ = _; unfold rightB; simp [h2]
      go_enter Try.func36, Try.ntmps36
      go_wp2
      go_ret
      exact ⟨ret_bool hb.out.symm, E0⟩
  · have hb : Hid (rightB g = false) := by show _ = _; unfold rightB; simp [h1]
    go_enter Try.func36, Try.ntmps36
    go_wp2
    go_ret
    exact ⟨ret_bool hb.out.symm, E0⟩
end Go.Proofs.Ytfigooilhnahfaa
/- The parts: the loop over the wave. -/
namespace Go.Proofs.Ytfigooilhnahfaa
open Go.RowKit Go.Maps
attribute [local go_sem] Oper.semAt_some

/-- a set of places in memory -/
def SeenM (w : World) (mb : Nat) (n : Nat) (S : List Pt) : Prop := ∃ k, k ≤ n ∧ SetAt Try.prog 26 4 evPl w mb k S
theorem SeenM.same {w w' : World} {mb n : Nat} {S : List Pt} (h : SeenM w mb n S) (hb : w'.heap[mb]? = w.heap[mb]?) : SeenM w' mb n S := by
  obtain ⟨k, h1, h2⟩ := h
  exact ⟨k, h1, h2.same hb⟩
theorem SeenM.lt {w : World} {mb n : Nat} {S : List Pt} (h : SeenM w mb n S) : mb < w.heap.size := by
  obtain ⟨k, _, h2⟩ := h
  exact h2.lt

/-- what holds while the wave runs -/
structure PtR (mb sb nb lo n0 : Nat) (S0 : List Pt) (w3 : World) (pre : List (Pt × Nat)) (W : World) : Prop where
  cn : W.cell? ⟨nb, 0, none⟩ = some (.int .i64 pre.length)
  fn : W.frozen? ⟨nb, 0, none⟩ = false
  cm : W.cell? ⟨sb, 0, none⟩ = some (.map (some mb))
  se : SeenM W mb (n0 + pre.length) (insAll S0 (pre.map (·.1)))
  ch : Chg (fun k => k = nb ∨ k = mb) w3 W
  be : Below lo w3 W
theorem PtR.below {mb sb nb lo n0 : Nat} {S0 : List Pt} {w3 : World} {pre : List (Pt × Nat)} {A B : World} (h : PtR mb sb nb lo n0 S0 w3 pre A) (k : Below w3.heap.size A B) (h1 : mb < w3.heap.size) (h2 : sb < w3.heap.size) (h3 : nb < w3.heap.size) (h4 : lo ≤ w3.heap.size) : PtR mb sb nb lo n0 S0 w3 pre B :=
  ⟨(k.cell (p := ⟨nb, 0, none⟩) h3).trans h.cn, (k.frozen (p := ⟨nb, 0, none⟩) h3).trans h.fn, (k.cell (p := ⟨sb, 0, none⟩) h2).trans h.cm, h.se.same (k.block mb h1), ⟨Nat.le_trans h.ch.1 k.size, fun i hi hb => (k.block i hi).trans (h.ch.2 i hi hb)⟩, h.be.trans (k.mono h4)⟩

set_option maxHeartbeats 4000000 in
set_option maxRecDepth 100000 in
theorem parts_range (cas cbd : Code) (hcode : rngOf (Try.f22.body.getD .skip) = [(cas, cbd)]) (g : Gr) (p : Pt) (ga : Option Addr) (gc : Nat) (w3 : World) (pb gb mb sb nb lo n0 : Nat) (S0 : List Pt)
    (hr : Right g) (hp : inside g p = true)
    (p1 : w3.cell? ⟨pb, 0, none⟩ = some (.int .i64 p.1)) (p2 : w3.cell? ⟨pb, 1, none⟩ = some (.int .i64 p.2))
    (g1 : w3.cell? ⟨gb, 0, none⟩ = some (.int .i64 g.rows)) (g2 : w3.cell? ⟨gb, 1, none⟩ = some (.int .i64 g.cols)) (g3 : w3.cell? ⟨gb, 2, none⟩ = some (.slice ga g.bl.length gc))
    (hc : Cells2 w3 ga g.bl) (m1 : ¬ (pb = nb ∨ pb = mb)) (m2 : ¬ (gb = nb ∨ gb = mb)) (m3 : g.bl ≠ [] → ∀ b off, ga = some ⟨b, off, none⟩ → ¬ (b = nb ∨ b = mb))
    (h0 : PtR mb sb nb lo n0 S0 w3 [] w3) (hs1 : sb ≠ nb) (hs2 : sb ≠ mb) (hmn : mb ≠ nb) (hlo : lo ≤ nb) (hlo2 : lo ≤ mb) (hn0 : n0 ≤ 16777216)
    (u0 u1 u2 u3 u4 u5 u7 u8 u9 u11 u12 u13 u14 u15 u16 u17 u18 u19 u20 u21 u22 u23 u24 u25 u26 u27 u28 u29 u30 u31 u32 u33 u34 u35 u36 u37 u38 u39 u40 u42 u43 u44 u45 u46 u47 u48 u49 u50 u51 u52 u53 u54 u55 u56 : Value) (ds : List Deferred) (Q : Exit → Act → World → Prop)
    (hdone : ∀ (D : Nat) (W : World), w3.heap.size ≤ D → D < W.heap.size → PtR mb sb nb lo n0 S0 w3 (wave g p) W → W.heap[D]? = some (.deferred (some [])) →
      Q .normal { tmps := #[u0, u1, u2, u3, u4, u5, .pointer (some ⟨sb, 0, none⟩), u7, u8, u9, .pointer (some ⟨nb, 0, none⟩), u11, u12, u13, u14, u15, u16, u17, u18, u19, u20, u21, u22, u23, u24, u25, u26, u27, u28, u29, u30, u31, u32, u33, u34, u35, u36, u37, u38, u39, u40, .func (.func 78) #[] #[.pointer (some ⟨pb, 0, none⟩), .pointer (some ⟨gb, 0, none⟩)], u42, u43, u44, u45, u46, u47, u48, u49, u50, u51, u52, u53, u54, u55, u56], defers := mark D :: ds } W) :
    (Code.rangeFunc (.tmp 41) #[42, 43] cas cbd).wp Try.prog Q { tmps := #[u0, u1, u2, u3, u4, u5, .pointer (some ⟨sb, 0, none⟩), u7, u8, u9, .pointer (some ⟨nb, 0, none⟩), u11, u12, u13, u14, u15, u16, u17, u18, u19, u20, u21, u22, u23, u24, u25, u26, u27, u28, u29, u30, u31, u32, u33, u34, u35, u36, u37, u38, u39, u40, .func (.func 78) #[] #[.pointer (some ⟨pb, 0, none⟩), .pointer (some ⟨gb, 0, none⟩)], u42, u43, u44, u45, u46, u47, u48, u49, u50, u51, u52, u53, u54, u55, u56], defers := ds } w3 := by
  have HC := Lib.hid hcode
  have HR := Lib.hid hr
  have HP := Lib.hid hp
  have hzm := h0.se.lt
  have hzs : sb < w3.heap.size := cell_lt h0.cm
  have hzn : nb < w3.heap.size := cell_lt h0.cn
  have hlo3 : lo ≤ w3.heap.size := by omega
  refine wp_range (n := 0) (gf := 78) (lb := #[.pointer (some ⟨pb, 0, none⟩), .pointer (some ⟨gb, 0, none⟩)]) rfl (enters_of Try.func78 (by kernel_rfl) rfl)
    (wave1_iter g p ga gc w3 pb gb (fun k => k = nb ∨ k = mb) hr hp p1 p2 g1 g2 g3 hc m1 m2 m3) (fun q => rfl)
    (fun A B h k o hk ho => by rw [Below.block h k hk]; exact ho)
    (PtR mb sb nb lo n0 S0 w3) (fun _ _ _ => False)
    (fun pre A B h k => h.below (k.mono (by omega)) hzm hzs hzn hlo3) (fun _ _ _ _ h _ => h.elim)
    (fun pre A B h k => h.below k.1 hzm hzs hzn hlo3) (fun _ _ _ _ h _ => h.elim)
    h0
    (fun (x : Pt × Nat) a' W => ∃ qb, w3.heap.size + 2 ≤ qb ∧ W.cell? ⟨qb, 0, none⟩ = some (.int .i64 x.1.1) ∧ W.cell? ⟨qb, 1, none⟩ = some (.int .i64 x.1.2) ∧ a' = { tmps := #[u0, u1, u2, u3, u4, u5, .pointer (some ⟨sb, 0, none⟩), u7, u8, u9, .pointer (some ⟨nb, 0, none⟩), .pointer (some ⟨qb, 0, none⟩), u12, u13, u14, u15, u16, u17, u18, u19, u20, u21, u22, u23, u24, u25, u26, u27, u28, u29, u30, u31, u32, u33, u34, u35, u36, u37, u38, u39, u40, .func (.func 78) #[] #[.pointer (some ⟨pb, 0, none⟩), .pointer (some ⟨gb, 0, none⟩)], .agg #[.int .i64 x.1.1, .int .i64 x.1.2], .int .i64 x.2, u44, u45, u46, u47, u48, u49, u50, u51, u52, u53, u54, u55, u56], defers := [] })
    ?hax ?assign ?body (fun pre A B h k => h.below (k.mono (Nat.le_trans (Nat.le_refl _) h.ch.1)) hzm hzs hzn hlo3) ?done (fun _ _ _ _ _ _ _ h _ => h.elim)
  case hax =>
    rintro q a' A B ⟨qb, h1, h2, h3, h4⟩ hk
    exact ⟨qb, h1, hk.cell h2, hk.cell h3, h4⟩
  case assign =>
    simp only [Try.f22, rngOf, Option.getD, List.nil_append, List.append_nil] at hcode
    cases hcode
    intro l pre x W K hm hI hK
    clear HC
    gi_wp2
    exact hK _ _ ((Ext.refl _).alloc _) ⟨W.heap.size, by omega, by go_simp, by go_simp, rfl⟩
  case body =>
    simp only [Try.f22, rngOf, Option.getD, List.nil_append, List.append_nil] at hcode
    cases hcode
    rintro l pre x a' W hpre hm hI ⟨qb, hqb, q1, q2, rfl⟩
    have hxi : inside g x.1 = true := wave_inside hp x (hpre.subset (by simp))
    have hlen : pre.length + 1 ≤ 4096 := by
      have h1 := hpre.length_le
      have h2 := wave_len hr hp
      simp at h1
      omega
    have c1 := hI.cn
    have c2 := hI.fn
    have c3 := hI.cm
    have HI := Lib.hid hI
    obtain ⟨kn, hkn, hS⟩ := hI.se
    obtain ⟨kl, hkl⟩ := keyPl (wf_inG (inG_of HR.out hxi)).1 (wf_inG (inG_of HR.out hxi)).2
    have hnl : kn < maxLen := by unfold maxLen; omega
    have hmx : maxLen = 9223372036854775807 := rfl
    obtain ⟨w6, hup, hS6, hg6⟩ := hS.update (t := 98) lawPl Try.underlying98 Try.underlying4 hnl evPl_inj hkl
    have HS6 := Lib.hid hS6
    have HG6 := Lib.hid hg6
    have HKN := Lib.hid hkn
    have C6 : Chg (fun k => k = nb ∨ k = mb) W w6 := ⟨hg6.size, fun k hk hn => hg6.block k hk (fun e => hn (.inr (by cases e; rfl)))⟩
    have CM : Chg (fun k => k = mb) W w6 := ⟨hg6.size, fun k hk hn => hg6.block k hk (fun e => hn (by cases e; rfl))⟩
    have KM : Kept (fun k => k ≠ mb) 0 W w6 := CM.kept (fun k hk _ => hk)
    have d1 : w6.cell? ⟨nb, 0, none⟩ = some (.int .i64 pre.length) := KM.cell (p := ⟨nb, 0, none⟩) (fun e => hmn e.symm) c1
    have d2 : w6.frozen? ⟨nb, 0, none⟩ = false := (KM.frozen (p := ⟨nb, 0, none⟩) (fun e => hmn e.symm) c1).trans c2
    have d3 : w6.cell? ⟨sb, 0, none⟩ = some (.map (some mb)) := KM.cell (p := ⟨sb, 0, none⟩) hs2 c3
    have q0 : IntKind.i64.wrap ((pre.length : Int) + 1) = (pre.length : Int) + 1 := IntWalk.i64_in _ (by omega)
    have HC6 := Lib.hid C6
    unfold evPl at hup
    clear HC hI hp hr hpre m3 hc h0 p1 p2 g1 g2 g3 hS hS6 hg6 hkn C6 CM KM hkl hnl hmx
    gi_wp2
    have C : Chg (fun k => k = nb ∨ k = mb) W (w6.setCell ⟨nb, 0, none⟩ (.int .i64 ((pre.length : Int) + 1))) := HC6.out.trans (Chg.setCell (B := fun k => k = nb ∨ k = mb) ⟨nb, _, none⟩ _ (.inl rfl))
    have zm : lo ≤ W.heap.size := by have := HI.out.ch.1; omega
    refine ⟨C.kept ?_, ⟨C.1, fun k o hB hk _ => (C.2 k (Array.getElem?_eq_some_iff.1 hk).1 (by omega)).trans hk⟩, ?_⟩
    · rintro k (⟨_, h1, h2⟩ | h) _ (e | e)
      · exact h1 e
      · exact h2 e
      · omega
      · omega
    · exact {
        cn := by
          rw [World.cell?_setCell_same _ _ _ d1, List.length_append, List.length_singleton]
          rfl
        fn := by rw [World.frozen?_setCell]; exact d2
        cm := by
          rw [World.cell?_setCell_other _ _ _ _ (fun h => by simp only [Addr.mk.injEq] at h; exact hs1 h.1.symm)]
          exact d3
        se := by
          have h1 : SeenM w6 mb (n0 + (pre ++ [x]).length) (insAll S0 ((pre ++ [x]).map (·.1))) := by
            refine ⟨kn + 1, ?_, ?_⟩
            · have := HKN.out; simp; omega
            · rw [List.map_append, List.map_singleton, insAll_snoc]
              have h9 := HS6.out
              unfold ins
              split at h9 <;> split <;> first | exact h9 | contradiction
          exact h1.same (Below.heap_setCell _ _ _ _ (fun e => hmn e))
        ch := HI.out.ch.trans C
        be := (HI.out.be.grown HG6.out zm (fun j hj => by cases hj; exact hlo2)).setCell (p := ⟨nb, _, none⟩) hlo _ }
  case done =>
    rintro D W h1 h2 h3 h6
    exact hdone D W h1 h2 h3 h6
end Go.Proofs.Ytfigooilhnahfaa
/-
  DERIVED: THE SHELF's CONTRACTS AT THIS DUMP, IN PLAIN WORDS (tools/lay-plain.mjs out of 'TryShelf.lean', which tools/lay-shelf.mjs wrote): THE SAME DECLARATIONS UNDER THE SAME NAMES: 'import', 'namespace', 'open', 'def', 'theorem' AND NOTHING ELSE: no command of the shelf's: FOR A HAND-IN. Each laying: the table of numbers ('.._ren') and one theorem, a field a fact of the dump's own or the kernel's comparison; each contract: ONE APPLICATION.
-/
namespace Go.Proofs
open Go.Shelf
def Try.lays128_ren : Go.Shelf.Ren := ⟨fun | 128 => 92 | n => n, fun | 51 => 134 | 3 => 3 | 4 => 4 | 46 => 124 | 5 => 5 | 9 => 9 | n => n, fun | n => n⟩
theorem Try.lays128 : Go.Proofs.Lays.n128 Try.prog Try.lays128_ren := {
  mixed := by kernel_rfl
  f128 := Try.func92.trans (congrArg some (by kernel_rfl))
  t3 := Try.underlying3
  a3 := Try.isAgg3
  z3 := Try.sizeOf3
  v3 := Try.zeroValue3
  t4 := Try.underlying4
  a4 := Try.isAgg4
  z4 := Try.sizeOf4
  v4 := Try.zeroValue4
  t5 := Try.underlying5
  a5 := Try.isAgg5
  z5 := Try.sizeOf5
  v5 := Try.zeroValue5
  t9 := Try.underlying9
  a9 := Try.isAgg9
  z9 := Try.sizeOf9
  v9 := Try.zeroValue9
  t46 := Try.underlying124
  a46 := Try.isAgg124
  z46 := Try.sizeOf124
  v46 := Try.zeroValue124
  t51 := Try.underlying134
  a51 := Try.isAgg134
  z51 := Try.sizeOf134
  v51 := Try.zeroValue134 }
/-- bits.Len32: "Len32 returns the minimum number of bits required to represent x; the result is 0 for x == 0.": IT RETURNS 'Lib.bitLen x'; the world is as it was. ('h0', 'h1': x is a uint32.) (LAID: no walk: one application.) -/
theorem Try.bits_Len32 (x : Int) (w : World) (h0 : 0 ≤ x) (h1 : x ≤ 4294967295) :
    Calls Try.prog 92 #[.int .u32 x] w fun e w' => e = .returned (.int .i64 (Lib.bitLen x.toNat)) ∧ w' = w := Any.bits_Len32 Try.lays128 x w h0 h1
def Try.lays125_ren : Go.Shelf.Ren := ⟨fun | 125 => 80 | 128 => 92 | 129 => 93 | n => n, fun | 46 => 124 | 3 => 3 | 51 => 134 | 53 => 136 | 4 => 4 | 5 => 5 | 9 => 9 | n => n, fun | n => n⟩
theorem Try.lays125 : Go.Proofs.Lays.n125 Try.prog Try.lays125_ren := {
  mixed := by kernel_rfl
  f125 := Try.func80.trans (congrArg some (by kernel_rfl))
  f128 := Try.func92.trans (congrArg some (by kernel_rfl))
  f129 := Try.func93.trans (congrArg some (by kernel_rfl))
  t3 := Try.underlying3
  a3 := Try.isAgg3
  z3 := Try.sizeOf3
  v3 := Try.zeroValue3
  t4 := Try.underlying4
  a4 := Try.isAgg4
  z4 := Try.sizeOf4
  v4 := Try.zeroValue4
  t5 := Try.underlying5
  a5 := Try.isAgg5
  z5 := Try.sizeOf5
  v5 := Try.zeroValue5
  t9 := Try.underlying9
  a9 := Try.isAgg9
  z9 := Try.sizeOf9
  v9 := Try.zeroValue9
  t46 := Try.underlying124
  a46 := Try.isAgg124
  z46 := Try.sizeOf124
  v46 := Try.zeroValue124
  t51 := Try.underlying134
  a51 := Try.isAgg134
  z51 := Try.sizeOf134
  v51 := Try.zeroValue134
  t53 := Try.underlying136
  a53 := Try.isAgg136
  z53 := Try.sizeOf136
  v53 := Try.zeroValue136 }
/-- bits.Len: "Len returns the minimum number of bits required to represent x; the result is 0 for x == 0.": IT RETURNS 'Lib.bitLen x'; the world is as it was. (A uint has 64 bits in the model.) ITS CALLEE bits.Len64 IS MET BY ITS OWN CONTRACT OFF THE SHELF (lay that first). (LAID: no walk: one application.) -/
theorem Try.bits_Len (x : Int) (w : World) (h0 : 0 ≤ x) (h1 : x ≤ 18446744073709551615) :
    Calls Try.prog 80 #[.int .u64 x] w fun e w' => e = .returned (.int .i64 (Lib.bitLen x.toNat)) ∧ w' = w := Any.bits_Len Try.lays125 x w h0 h1
def Try.lays215_ren : Go.Shelf.Ren := ⟨fun | 215 => 83 | n => n, fun | 3 => 3 | 4 => 4 | n => n, fun | n => n⟩
theorem Try.lays215 : Go.Proofs.Lays.n215 Try.prog Try.lays215_ren := {
  mixed := by kernel_rfl
  f215 := Try.func83.trans (congrArg some (by kernel_rfl))
  t3 := Try.underlying3
  a3 := Try.isAgg3
  z3 := Try.sizeOf3
  v3 := Try.zeroValue3
  t4 := Try.underlying4
  a4 := Try.isAgg4
  z4 := Try.sizeOf4
  v4 := Try.zeroValue4 }
open Go.RowKit in
/-- cmp.isNaN at int: 'x != x': false. (LAID: no walk: one application.) -/
theorem Try.cmp_isNaN_int (x : Int) (w : World) :
    Calls Try.prog 83 #[.int .i64 x] w fun e w' => e = .returned (.bool false) ∧ w' = w := Any.cmp_isNaN_int Try.lays215 x w
def Try.lays122_ren : Go.Shelf.Ren := ⟨fun | 122 => 76 | 215 => 83 | n => n, fun | 3 => 3 | 4 => 4 | n => n, fun | n => n⟩
theorem Try.lays122 : Go.Proofs.Lays.n122 Try.prog Try.lays122_ren := {
  mixed := by kernel_rfl
  f122 := Try.func76.trans (congrArg some (by kernel_rfl))
  f215 := Try.func83.trans (congrArg some (by kernel_rfl))
  t3 := Try.underlying3
  a3 := Try.isAgg3
  z3 := Try.sizeOf3
  v3 := Try.zeroValue3
  t4 := Try.underlying4
  a4 := Try.isAgg4
  z4 := Try.sizeOf4
  v4 := Try.zeroValue4 }
open Go.RowKit in
/-- cmp.Compare at int: "Compare returns -1 if x is less than y, 0 if x equals y, +1 if x is greater than y.": IT RETURNS 'Lib.compareInt x y'; the world is as it was. (LAID: no walk: one application.) -/
theorem Try.cmp_Compare_int (x y : Int) (w : World) :
    Calls Try.prog 76 #[.int .i64 x, .int .i64 y] w fun e w' => e = .returned (.int .i64 (Lib.compareInt x y)) ∧ w' = w := Any.cmp_Compare_int Try.lays122 x y w
def Try.lays129_ren : Go.Shelf.Ren := ⟨fun | 129 => 93 | n => n, fun | 53 => 136 | 3 => 3 | 4 => 4 | 46 => 124 | 5 => 5 | 9 => 9 | n => n, fun | n => n⟩
theorem Try.lays129 : Go.Proofs.Lays.n129 Try.prog Try.lays129_ren := {
  mixed := by kernel_rfl
  f129 := Try.func93.trans (congrArg some (by kernel_rfl))
  t3 := Try.underlying3
  a3 := Try.isAgg3
  z3 := Try.sizeOf3
  v3 := Try.zeroValue3
  t4 := Try.underlying4
  a4 := Try.isAgg4
  z4 := Try.sizeOf4
  v4 := Try.zeroValue4
  t5 := Try.underlying5
  a5 := Try.isAgg5
  z5 := Try.sizeOf5
  v5 := Try.zeroValue5
  t9 := Try.underlying9
  a9 := Try.isAgg9
  z9 := Try.sizeOf9
  v9 := Try.zeroValue9
  t46 := Try.underlying124
  a46 := Try.isAgg124
  z46 := Try.sizeOf124
  v46 := Try.zeroValue124
  t53 := Try.underlying136
  a53 := Try.isAgg136
  z53 := Try.sizeOf136
  v53 := Try.zeroValue136 }
/-- bits.Len64: "Len64 returns the minimum number of bits required to represent x; the result is 0 for x == 0.": IT RETURNS 'Lib.bitLen x'; the world is as it was. ('h0', 'h1': x is a uint64.) (LAID: no walk: one application.) -/
theorem Try.bits_Len64 (x : Int) (w : World) (h0 : 0 ≤ x) (h1 : x ≤ 18446744073709551615) :
    Calls Try.prog 93 #[.int .u64 x] w fun e w' => e = .returned (.int .i64 (Lib.bitLen x.toNat)) ∧ w' = w := Any.bits_Len64 Try.lays129 x w h0 h1
def Try.lays111_ren : Go.Shelf.Ren := ⟨fun | 111 => 47 | n => n, fun | 28 => 50 | 3 => 3 | 4 => 4 | 0 => 0 | n => n, fun | n => n⟩
theorem Try.lays111 : Go.Proofs.Lays.n111 Try.prog Try.lays111_ren := {
  mixed := by kernel_rfl
  f111 := Try.func47.trans (congrArg some (by kernel_rfl))
  t0 := Try.underlying0
  a0 := Try.isAgg0
  z0 := Try.sizeOf0
  v0 := Try.zeroValue0
  t3 := Try.underlying3
  a3 := Try.isAgg3
  z3 := Try.sizeOf3
  v3 := Try.zeroValue3
  t4 := Try.underlying4
  a4 := Try.isAgg4
  z4 := Try.sizeOf4
  v4 := Try.zeroValue4
  t28 := Try.underlying50
  a28 := Try.isAgg50
  z28 := Try.sizeOf50
  v28 := Try.zeroValue50 }
open Go.RowKit Go.Lib in
/-- slices.Equal at []int: "Equal reports whether two slices are equal: the same length and all elements equal. If the lengths are different, Equal returns false. Otherwise, the elements are compared in increasing index order, and the comparison stops at the first unequal pair. Empty and nil slices are considered equal.": IT RETURNS WHETHER THE TWO LISTS OF ELEMENTS ARE ONE; the world is as it was but for the count of draws (the test 's1[i] != s2[i]' has two reads, whose order the model draws, once a round). 'xs', 'ys': what the cells behind the two addresses hold (the spare capacity too, if you have it); 'xs.take n', 'ys.take m': the elements. THE TWO SLICES MAY OVERLAP. (LAID: no walk: one application.) -/
theorem Try.slices_Equal_int (b1 o1 n c b2 o2 m d : Nat) (xs ys : List Int) (w : World) (hx : n ≤ xs.length) (hy : m ≤ ys.length) (hbig : n ≤ 9223372036854775807) (hbig2 : m ≤ 9223372036854775807) (hc1 : ∀ j, j < xs.length → w.cell? ⟨b1, o1 + j, none⟩ = some (.int .i64 (xs.getD j 0))) (hc2 : ∀ j, j < ys.length → w.cell? ⟨b2, o2 + j, none⟩ = some (.int .i64 (ys.getD j 0))) :
    Calls Try.prog 47 #[.slice (some ⟨b1, o1, none⟩) n c, .slice (some ⟨b2, o2, none⟩) m d] w fun e w' => e = .returned (.bool (xs.take n == ys.take m)) ∧ ∃ q, w' = w.drewN q := Any.slices_Equal_int Try.lays111 b1 o1 n c b2 o2 m d xs ys w hx hy hbig hbig2 hc1 hc2
open Go.RowKit Go.Lib in
/-- The same where the first is of length 0 (a nil one too): no cell is asked for. (LAID: no walk: one application.) -/
theorem Try.slices_Equal_int_empty (a1 a2 : Option Addr) (c m d : Nat) (w : World) (hbig2 : m ≤ 9223372036854775807) :
    Calls Try.prog 47 #[.slice a1 0 c, .slice a2 m d] w fun e w' => e = .returned (.bool (decide (m = 0))) ∧ w' = w := Any.slices_Equal_int_empty Try.lays111 a1 a2 c m d w hbig2
def Try.laysNm237_ren : Go.Shelf.Ren := ⟨fun | 37 => 83 | n => n, fun | 3 => 3 | 4 => 4 | n => n, fun | n => n⟩
theorem Try.laysNm237 : Go.Proofs.Lays2.n37 Try.prog Try.laysNm237_ren := {
  mixed := by kernel_rfl
  f37 := Try.func83.trans (congrArg some (by kernel_rfl))
  t3 := Try.underlying3
  a3 := Try.isAgg3
  z3 := Try.sizeOf3
  v3 := Try.zeroValue3
  t4 := Try.underlying4
  a4 := Try.isAgg4
  z4 := Try.sizeOf4
  v4 := Try.zeroValue4 }
open Go.RowKit Go.Lib in
/-- cmp.isNaN[int]: 'x != x': false. (LAID: no walk: one application.) -/
theorem Try.cmp_isNaN_int2 (x : Int) (w : World) :
    Calls Try.prog 83 #[.int .i64 x] w fun e w' => e = .returned (.bool false) ∧ w' = w := Any.cmp_isNaN_int2 Try.laysNm237 x w
open Go.RowKit Go.Lib in
theorem Try.slices_Equal_int_lens (a1 a2 : Option Addr) (n c m d : Nat) (w : World) (hnm : n ≠ m) :
    Calls Try.prog 47 #[.slice a1 n c, .slice a2 m d] w fun e w' => e = .returned (.bool false) ∧ w' = w := Any.slices_Equal_int_lens Try.lays111 a1 a2 n c m d w hnm
def Try.laysSlF20_f84_ren : Go.Shelf.Ren := ⟨fun | 20 => 84 | n => n, fun | 24 => 3 | 22 => 50 | 3 => 3 | 25 => 79 | 4 => 4 | 0 => 0 | n => n, fun | n => n⟩
theorem Try.laysSlF20_f84 : Go.Proofs.SlLaysF.n20 Try.prog Try.laysSlF20_f84_ren := {
  mixed := by kernel_rfl
  f20 := ⟨Try.f84.name, by decide, Try.func84.trans (congrArg some (by kernel_rfl))⟩
  t0 := Try.underlying0
  a0 := Try.isAgg0
  z0 := Try.sizeOf0
  v0 := Try.zeroValue0
  t3 := Try.underlying3
  a3 := Try.isAgg3
  z3 := Try.sizeOf3
  v3 := Try.zeroValue3
  t4 := Try.underlying4
  a4 := Try.isAgg4
  z4 := Try.sizeOf4
  v4 := Try.zeroValue4
  t22 := Try.underlying50
  a22 := Try.isAgg50
  z22 := Try.sizeOf50
  v22 := Try.zeroValue50
  a24 := Try.isAgg3
  z24 := Try.sizeOf3
  t25 := Try.underlying79
  a25 := Try.isAgg79
  z25 := Try.sizeOf79
  v25 := Try.zeroValue79 }
open Go.RowKit Go.Lib Go.Sort in
theorem Try.insertionSortCmpFunc_one {α : Type} [Inhabited α] (enc : α → Value) (hO : OneCell enc) (cf : α → α → Int) (g : Nat) (cb : Array Value) (blk off cap a b : Nat) (d : Array α) (w : World) (eg : ∀ args w, (callFunc g args).run Try.prog w = .ok (.enter g args) w) (hcmp : CmpReads Try.prog g cb enc cf blk off d.size w) (hH : Holds enc w blk off d) (hab : a ≤ b) (hb : b ≤ d.size) (hsz : d.size < 4611686018427387904) :
    Calls Try.prog 84 #[.slice (some ⟨blk, off, none⟩) d.size cap, .int .i64 a, .int .i64 b, .func (.func g) #[] cb] w fun e w' =>
      e = .returned (.tuple #[]) ∧ ∃ n, w' = (putRow enc w blk off (Sort.insertionSort (ltOf cf) d a b)).drewN n := Any.insertionSortCmpFunc_one Try.laysSlF20_f84 enc hO cf g cb blk off cap a b d w eg hcmp hH hab hb hsz
def Try.laysSlF46_f94_ren : Go.Shelf.Ren := ⟨fun | 46 => 94 | n => n, fun | 24 => 3 | 22 => 50 | 3 => 3 | 25 => 79 | 4 => 4 | 0 => 0 | n => n, fun | n => n⟩
theorem Try.laysSlF46_f94 : Go.Proofs.SlLaysF.n46 Try.prog Try.laysSlF46_f94_ren := {
  mixed := by kernel_rfl
  f46 := ⟨Try.f94.name, by decide, Try.func94.trans (congrArg some (by kernel_rfl))⟩
  t0 := Try.underlying0
  a0 := Try.isAgg0
  z0 := Try.sizeOf0
  v0 := Try.zeroValue0
  t3 := Try.underlying3
  a3 := Try.isAgg3
  z3 := Try.sizeOf3
  v3 := Try.zeroValue3
  t4 := Try.underlying4
  a4 := Try.isAgg4
  z4 := Try.sizeOf4
  v4 := Try.zeroValue4
  t22 := Try.underlying50
  a22 := Try.isAgg50
  z22 := Try.sizeOf50
  v22 := Try.zeroValue50
  a24 := Try.isAgg3
  z24 := Try.sizeOf3
  t25 := Try.underlying79
  a25 := Try.isAgg79
  z25 := Try.sizeOf79
  v25 := Try.zeroValue79 }
open Go.RowKit Go.Lib Go.Sort in
/-- slices.siftDownCmpFunc at elements of one cell: from a world of the sort's to a world of the sort's. (LAID AT THE INSTANCE 'slices.siftDownCmpFunc[int]': no walk: one application.) -/
theorem Try.siftDownCmpFunc {α : Type} [Inhabited α] (enc : α → Value) (cf : α → α → Int) (g : Nat) (cb : Array Value) (blk off cap lo hi first : Nat) (d0 d : Array α) (w0 w : World) (eg : ∀ args w, (callFunc g args).run Try.prog w = .ok (.enter g args) w) (hcmp : CmpLays1 Try.prog g cb enc cf blk off d0.size w0) (R : Row1 enc w0 blk off d0) (hs : d0.size = d.size) (S : SW enc w0 blk off d w) (hlo : lo ≤ hi) (hb : first + hi ≤ d.size) (hsz : d.size < 4611686018427387904) :
    Calls Try.prog 94 #[.slice (some ⟨blk, off, none⟩) d.size cap, .int .i64 lo, .int .i64 hi, .int .i64 first, .func (.func g) #[] cb] w fun e w' =>
      e = .returned (.tuple #[]) ∧ SW enc w0 blk off (siftDown (ltOf cf) hi first lo d) w' := Any.siftDownCmpFunc Try.laysSlF46_f94 enc cf g cb blk off cap lo hi first d0 d w0 w eg hcmp R hs S hlo hb hsz
def Try.laysSlF21_f85_ren : Go.Shelf.Ren := ⟨fun | 21 => 85 | 46 => 94 | n => n, fun | 24 => 3 | 22 => 50 | 3 => 3 | 25 => 79 | 4 => 4 | 0 => 0 | n => n, fun | n => n⟩
theorem Try.laysSlF21_f85 : Go.Proofs.SlLaysF.n21 Try.prog Try.laysSlF21_f85_ren := {
  mixed := by kernel_rfl
  f21 := ⟨Try.f85.name, by decide, Try.func85.trans (congrArg some (by kernel_rfl))⟩
  f46 := ⟨Try.f94.name, by decide, Try.func94.trans (congrArg some (by kernel_rfl))⟩
  t0 := Try.underlying0
  a0 := Try.isAgg0
  z0 := Try.sizeOf0
  v0 := Try.zeroValue0
  t3 := Try.underlying3
  a3 := Try.isAgg3
  z3 := Try.sizeOf3
  v3 := Try.zeroValue3
  t4 := Try.underlying4
  a4 := Try.isAgg4
  z4 := Try.sizeOf4
  v4 := Try.zeroValue4
  t22 := Try.underlying50
  a22 := Try.isAgg50
  z22 := Try.sizeOf50
  v22 := Try.zeroValue50
  a24 := Try.isAgg3
  z24 := Try.sizeOf3
  t25 := Try.underlying79
  a25 := Try.isAgg79
  z25 := Try.sizeOf79
  v25 := Try.zeroValue79 }
open Go.RowKit Go.Lib Go.Sort in
/-- slices.heapSortCmpFunc at elements of one cell. (LAID AT THE INSTANCE 'slices.heapSortCmpFunc[int]': no walk: one application.) -/
theorem Try.heapSortCmpFunc {α : Type} [Inhabited α] (enc : α → Value) (cf : α → α → Int) (g : Nat) (cb : Array Value) (blk off cap a b : Nat) (d0 d : Array α) (w0 w : World) (eg : ∀ args w, (callFunc g args).run Try.prog w = .ok (.enter g args) w) (hcmp : CmpLays1 Try.prog g cb enc cf blk off d0.size w0) (R : Row1 enc w0 blk off d0) (hs : d0.size = d.size) (S : SW enc w0 blk off d w) (hab : a ≤ b) (hb : b ≤ d.size) (hsz : d.size < 4611686018427387904) :
    Calls Try.prog 85 #[.slice (some ⟨blk, off, none⟩) d.size cap, .int .i64 a, .int .i64 b, .func (.func g) #[] cb] w fun e w' =>
      e = .returned (.tuple #[]) ∧ SW enc w0 blk off (heapSort (ltOf cf) d a b) w' := Any.heapSortCmpFunc Try.laysSlF21_f85 enc cf g cb blk off cap a b d0 d w0 w eg hcmp R hs S hab hb hsz
open Go.RowKit Go.Lib Go.Sort in
/-- slices.insertionSortCmpFunc at elements of one cell: from a world of the sort's to a world of the sort's. (LAID AT THE INSTANCE 'slices.insertionSortCmpFunc[int]': no walk: one application.) -/
theorem Try.insertionSortCmpFunc_s {α : Type} [Inhabited α] (enc : α → Value) (cf : α → α → Int) (g : Nat) (cb : Array Value) (blk off cap a b : Nat) (d0 d : Array α) (w0 w : World) (eg : ∀ args w, (callFunc g args).run Try.prog w = .ok (.enter g args) w) (hcmp : CmpLays1 Try.prog g cb enc cf blk off d0.size w0) (R : Row1 enc w0 blk off d0) (hs : d0.size = d.size) (S : SW enc w0 blk off d w) (hab : a ≤ b) (hb : b ≤ d.size) (hsz : d.size < 4611686018427387904) :
    Calls Try.prog 84 #[.slice (some ⟨blk, off, none⟩) d.size cap, .int .i64 a, .int .i64 b, .func (.func g) #[] cb] w fun e w' => e = .returned (.tuple #[]) ∧ SW enc w0 blk off (Sort.insertionSort (ltOf cf) d a b) w' := Any.insertionSortCmpFunc_s Try.laysSlF20_f84 enc cf g cb blk off cap a b d0 d w0 w eg hcmp R hs S hab hb hsz
def Try.laysSlF57_f99_ren : Go.Shelf.Ren := ⟨fun | 57 => 99 | n => n, fun | 24 => 3 | 22 => 50 | 3 => 3 | 70 => 141 | 25 => 79 | 0 => 0 | 4 => 4 | n => n, fun | n => n⟩
theorem Try.laysSlF57_f99 : Go.Proofs.SlLaysF.n57 Try.prog Try.laysSlF57_f99_ren := {
  mixed := by kernel_rfl
  f57 := ⟨Try.f99.name, by decide, Try.func99.trans (congrArg some (by kernel_rfl))⟩
  t0 := Try.underlying0
  a0 := Try.isAgg0
  z0 := Try.sizeOf0
  v0 := Try.zeroValue0
  t3 := Try.underlying3
  a3 := Try.isAgg3
  z3 := Try.sizeOf3
  v3 := Try.zeroValue3
  t4 := Try.underlying4
  a4 := Try.isAgg4
  z4 := Try.sizeOf4
  v4 := Try.zeroValue4
  t22 := Try.underlying50
  a22 := Try.isAgg50
  z22 := Try.sizeOf50
  v22 := Try.zeroValue50
  a24 := Try.isAgg3
  z24 := Try.sizeOf3
  t25 := Try.underlying79
  a25 := Try.isAgg79
  z25 := Try.sizeOf79
  v25 := Try.zeroValue79
  t70 := Try.underlying141
  a70 := Try.isAgg141
  z70 := Try.sizeOf141
  v70 := Try.zeroValue141 }
open Go.RowKit Go.Lib Go.Sort in
/-- slices.order2CmpFunc at elements of one cell. (LAID AT THE INSTANCE 'slices.order2CmpFunc[int]': no walk: one application.) -/
theorem Try.order2CmpFunc {α : Type} [Inhabited α] (enc : α → Value) (cf : α → α → Int) (g : Nat) (cb : Array Value) (blk off cap a b c s : Nat) (d0 d : Array α) (w0 W : World) (eg : ∀ args w, (callFunc g args).run Try.prog w = .ok (.enter g args) w) (hcmp : CmpLays1 Try.prog g cb enc cf blk off d0.size w0) (R : Row1 enc w0 blk off d0) (hs : d0.size = d.size) (C : Cnt1 enc w0 blk off d c s W) (ha : a < d.size) (hb : b < d.size) (hsz : d.size < 4611686018427387904) (hss : s < 4611686018427387904) :
    Calls Try.prog 99 #[.slice (some ⟨blk, off, none⟩) d.size cap, .int .i64 a, .int .i64 b, .pointer (some ⟨c, 0, none⟩), .func (.func g) #[] cb] W fun e w' =>
      e = .returned (.tuple #[.int .i64 (order2 (ltOf cf) d a b s).1, .int .i64 (order2 (ltOf cf) d a b s).2.1]) ∧ Cnt1 enc w0 blk off d c (order2 (ltOf cf) d a b s).2.2 w' := Any.order2CmpFunc Try.laysSlF57_f99 enc cf g cb blk off cap a b c s d0 d w0 W eg hcmp R hs C ha hb hsz hss
def Try.laysSlF50_f98_ren : Go.Shelf.Ren := ⟨fun | 50 => 98 | 57 => 99 | n => n, fun | 24 => 3 | 22 => 50 | 3 => 3 | 70 => 141 | 25 => 79 | 77 => 61 | 0 => 0 | 4 => 4 | n => n, fun | n => n⟩
theorem Try.laysSlF50_f98 : Go.Proofs.SlLaysF.n50 Try.prog Try.laysSlF50_f98_ren := {
  mixed := by kernel_rfl
  f50 := ⟨Try.f98.name, by decide, Try.func98.trans (congrArg some (by kernel_rfl))⟩
  f57 := ⟨Try.f99.name, by decide, Try.func99.trans (congrArg some (by kernel_rfl))⟩
  t0 := Try.underlying0
  a0 := Try.isAgg0
  z0 := Try.sizeOf0
  v0 := Try.zeroValue0
  t3 := Try.underlying3
  a3 := Try.isAgg3
  z3 := Try.sizeOf3
  v3 := Try.zeroValue3
  t4 := Try.underlying4
  a4 := Try.isAgg4
  z4 := Try.sizeOf4
  v4 := Try.zeroValue4
  t22 := Try.underlying50
  a22 := Try.isAgg50
  z22 := Try.sizeOf50
  v22 := Try.zeroValue50
  a24 := Try.isAgg3
  z24 := Try.sizeOf3
  t25 := Try.underlying79
  a25 := Try.isAgg79
  z25 := Try.sizeOf79
  v25 := Try.zeroValue79
  t70 := Try.underlying141
  a70 := Try.isAgg141
  z70 := Try.sizeOf141
  v70 := Try.zeroValue141
  t77 := Try.underlying61
  a77 := Try.isAgg61
  z77 := Try.sizeOf61
  v77 := Try.zeroValue61 }
open Go.RowKit Go.Lib Go.Sort in
/-- slices.medianCmpFunc at elements of one cell. (LAID AT THE INSTANCE 'slices.medianCmpFunc[int]': no walk: one application.) -/
theorem Try.medianCmpFunc {α : Type} [Inhabited α] (enc : α → Value) (cf : α → α → Int) (g : Nat) (cb : Array Value) (blk off cap a b c' c s : Nat) (d0 d : Array α) (w0 W : World) (eg : ∀ args w, (callFunc g args).run Try.prog w = .ok (.enter g args) w) (hcmp : CmpLays1 Try.prog g cb enc cf blk off d0.size w0) (R : Row1 enc w0 blk off d0) (hs : d0.size = d.size) (C : Cnt1 enc w0 blk off d c s W) (ha : a < d.size) (hb : b < d.size) (hc : c' < d.size) (hsz : d.size < 4611686018427387904) (hss : s + 3 < 4611686018427387904) :
    Calls Try.prog 98 #[.slice (some ⟨blk, off, none⟩) d.size cap, .int .i64 a, .int .i64 b, .int .i64 c', .pointer (some ⟨c, 0, none⟩), .func (.func g) #[] cb] W fun e w' =>
      e = .returned (.int .i64 (median (ltOf cf) d a b c' s).1) ∧ Cnt1 enc w0 blk off d c (median (ltOf cf) d a b c' s).2 w' := Any.medianCmpFunc Try.laysSlF50_f98 enc cf g cb blk off cap a b c' c s d0 d w0 W eg hcmp R hs C ha hb hc hsz hss
def Try.laysSlF49_f97_ren : Go.Shelf.Ren := ⟨fun | 49 => 97 | 50 => 98 | 57 => 99 | n => n, fun | 24 => 3 | 22 => 50 | 3 => 3 | 70 => 141 | 25 => 79 | 77 => 61 | 0 => 0 | 4 => 4 | n => n, fun | n => n⟩
theorem Try.laysSlF49_f97 : Go.Proofs.SlLaysF.n49 Try.prog Try.laysSlF49_f97_ren := {
  mixed := by kernel_rfl
  f49 := ⟨Try.f97.name, by decide, Try.func97.trans (congrArg some (by kernel_rfl))⟩
  f50 := ⟨Try.f98.name, by decide, Try.func98.trans (congrArg some (by kernel_rfl))⟩
  f57 := ⟨Try.f99.name, by decide, Try.func99.trans (congrArg some (by kernel_rfl))⟩
  t0 := Try.underlying0
  a0 := Try.isAgg0
  z0 := Try.sizeOf0
  v0 := Try.zeroValue0
  t3 := Try.underlying3
  a3 := Try.isAgg3
  z3 := Try.sizeOf3
  v3 := Try.zeroValue3
  t4 := Try.underlying4
  a4 := Try.isAgg4
  z4 := Try.sizeOf4
  v4 := Try.zeroValue4
  t22 := Try.underlying50
  a22 := Try.isAgg50
  z22 := Try.sizeOf50
  v22 := Try.zeroValue50
  a24 := Try.isAgg3
  z24 := Try.sizeOf3
  t25 := Try.underlying79
  a25 := Try.isAgg79
  z25 := Try.sizeOf79
  v25 := Try.zeroValue79
  t70 := Try.underlying141
  a70 := Try.isAgg141
  z70 := Try.sizeOf141
  v70 := Try.zeroValue141
  t77 := Try.underlying61
  a77 := Try.isAgg61
  z77 := Try.sizeOf61
  v77 := Try.zeroValue61 }
open Go.RowKit Go.Lib Go.Sort in
/-- slices.medianAdjacentCmpFunc at elements of one cell. (LAID AT THE INSTANCE 'slices.medianAdjacentCmpFunc[int]': no walk: one application.) -/
theorem Try.medianAdjacentCmpFunc {α : Type} [Inhabited α] (enc : α → Value) (cf : α → α → Int) (g : Nat) (cb : Array Value) (blk off cap a c s : Nat) (d0 d : Array α) (w0 W : World) (eg : ∀ args w, (callFunc g args).run Try.prog w = .ok (.enter g args) w) (hcmp : CmpLays1 Try.prog g cb enc cf blk off d0.size w0) (R : Row1 enc w0 blk off d0) (hs : d0.size = d.size) (C : Cnt1 enc w0 blk off d c s W) (ha1 : 1 ≤ a) (ha2 : a + 1 < d.size) (hsz : d.size < 4611686018427387904) (hss : s + 3 < 4611686018427387904) :
    Calls Try.prog 97 #[.slice (some ⟨blk, off, none⟩) d.size cap, .int .i64 a, .pointer (some ⟨c, 0, none⟩), .func (.func g) #[] cb] W fun e w' =>
      e = .returned (.int .i64 (medianAdjacent (ltOf cf) d a s).1) ∧ Cnt1 enc w0 blk off d c (medianAdjacent (ltOf cf) d a s).2 w' := Any.medianAdjacentCmpFunc Try.laysSlF49_f97 enc cf g cb blk off cap a c s d0 d w0 W eg hcmp R hs C ha1 ha2 hsz hss
def Try.laysSlF23_f87_ren : Go.Shelf.Ren := ⟨fun | 23 => 87 | 49 => 97 | 50 => 98 | 57 => 99 | n => n, fun | 24 => 3 | 22 => 50 | 3 => 3 | 25 => 79 | 45 => 127 | 0 => 0 | 4 => 4 | 70 => 141 | 77 => 61 | n => n, fun | n => n⟩
theorem Try.laysSlF23_f87 : Go.Proofs.SlLaysF.n23 Try.prog Try.laysSlF23_f87_ren := {
  mixed := by kernel_rfl
  f23 := ⟨Try.f87.name, by decide, Try.func87.trans (congrArg some (by kernel_rfl))⟩
  f49 := ⟨Try.f97.name, by decide, Try.func97.trans (congrArg some (by kernel_rfl))⟩
  f50 := ⟨Try.f98.name, by decide, Try.func98.trans (congrArg some (by kernel_rfl))⟩
  f57 := ⟨Try.f99.name, by decide, Try.func99.trans (congrArg some (by kernel_rfl))⟩
  t0 := Try.underlying0
  a0 := Try.isAgg0
  z0 := Try.sizeOf0
  v0 := Try.zeroValue0
  t3 := Try.underlying3
  a3 := Try.isAgg3
  z3 := Try.sizeOf3
  v3 := Try.zeroValue3
  t4 := Try.underlying4
  a4 := Try.isAgg4
  z4 := Try.sizeOf4
  v4 := Try.zeroValue4
  t22 := Try.underlying50
  a22 := Try.isAgg50
  z22 := Try.sizeOf50
  v22 := Try.zeroValue50
  a24 := Try.isAgg3
  z24 := Try.sizeOf3
  t25 := Try.underlying79
  a25 := Try.isAgg79
  z25 := Try.sizeOf79
  v25 := Try.zeroValue79
  t45 := Try.underlying127
  a45 := Try.isAgg127
  z45 := Try.sizeOf127
  v45 := Try.zeroValue127
  t70 := Try.underlying141
  a70 := Try.isAgg141
  z70 := Try.sizeOf141
  v70 := Try.zeroValue141
  t77 := Try.underlying61
  a77 := Try.isAgg61
  z77 := Try.sizeOf61
  v77 := Try.zeroValue61 }
open Go.RowKit Go.Lib Go.Sort in
/-- slices.choosePivotCmpFunc at elements of one cell: THE LIBRARY's OWN TEXT COMPUTES 'Sort.choosePivot (ltOf cf) d a b'; the row is not turned. (After Derived/Shelf/SlSortFuncK/PivotK.lean, row for row; the counter's world by 'CntK'.) (LAID AT THE INSTANCE 'slices.choosePivotCmpFunc[int]': no walk: one application.) -/
theorem Try.choosePivotCmpFunc {α : Type} [Inhabited α] (enc : α → Value) (cf : α → α → Int) (g : Nat) (cb : Array Value) (blk off cap a b : Nat) (d0 d : Array α) (w0 W : World) (eg : ∀ args w, (callFunc g args).run Try.prog w = .ok (.enter g args) w) (hcmp : CmpLays1 Try.prog g cb enc cf blk off d0.size w0) (R : Row1 enc w0 blk off d0) (hs : d0.size = d.size) (S : SW enc w0 blk off d W) (hab : a < b) (hb : b ≤ d.size) (hsz : d.size < 4611686018427387904) :
    Calls Try.prog 87 #[.slice (some ⟨blk, off, none⟩) d.size cap, .int .i64 a, .int .i64 b, .func (.func g) #[] cb] W fun e w' =>
      e = .returned (.tuple #[.int .i64 (choosePivot (ltOf cf) d a b).1, .int .i64 (hintCode (choosePivot (ltOf cf) d a b).2)]) ∧ SW enc w0 blk off d w' := Any.choosePivotCmpFunc Try.laysSlF23_f87 enc cf g cb blk off cap a b d0 d w0 W eg hcmp R hs S hab hb hsz
def Try.laysSlF24_f88_ren : Go.Shelf.Ren := ⟨fun | 24 => 88 | n => n, fun | 24 => 3 | 22 => 50 | 3 => 3 | 25 => 79 | 4 => 4 | 0 => 0 | n => n, fun | n => n⟩
theorem Try.laysSlF24_f88 : Go.Proofs.SlLaysF.n24 Try.prog Try.laysSlF24_f88_ren := {
  mixed := by kernel_rfl
  f24 := ⟨Try.f88.name, by decide, Try.func88.trans (congrArg some (by kernel_rfl))⟩
  t0 := Try.underlying0
  a0 := Try.isAgg0
  z0 := Try.sizeOf0
  v0 := Try.zeroValue0
  t3 := Try.underlying3
  a3 := Try.isAgg3
  z3 := Try.sizeOf3
  v3 := Try.zeroValue3
  t4 := Try.underlying4
  a4 := Try.isAgg4
  z4 := Try.sizeOf4
  v4 := Try.zeroValue4
  t22 := Try.underlying50
  a22 := Try.isAgg50
  z22 := Try.sizeOf50
  v22 := Try.zeroValue50
  a24 := Try.isAgg3
  z24 := Try.sizeOf3
  t25 := Try.underlying79
  a25 := Try.isAgg79
  z25 := Try.sizeOf79
  v25 := Try.zeroValue79 }
open Go.RowKit Go.Lib Go.Sort in
/-- slices.reverseRangeCmpFunc at elements of one cell: it exchanges and does not compare. (LAID AT THE INSTANCE 'slices.reverseRangeCmpFunc[int]': no walk: one application.) -/
theorem Try.reverseRangeCmpFunc {α : Type} [Inhabited α] (enc : α → Value) (g : Nat) (cb : Array Value) (blk off cap a b : Nat) (d0 d : Array α) (w0 w : World) (R : Row1 enc w0 blk off d0) (hs : d0.size = d.size) (S : SW enc w0 blk off d w) (hab : a ≤ b) (hb : b ≤ d.size) (hsz : d.size < 4611686018427387904) :
    Calls Try.prog 88 #[.slice (some ⟨blk, off, none⟩) d.size cap, .int .i64 a, .int .i64 b, .func (.func g) #[] cb] w fun e w' => e = .returned (.tuple #[]) ∧ SW enc w0 blk off (reverseRange d a b) w' := Any.reverseRangeCmpFunc Try.laysSlF24_f88 enc g cb blk off cap a b d0 d w0 w R hs S hab hb hsz
def Try.laysSlF25_f89_ren : Go.Shelf.Ren := ⟨fun | 25 => 89 | n => n, fun | 24 => 3 | 22 => 50 | 3 => 3 | 25 => 79 | 4 => 4 | 0 => 0 | n => n, fun | n => n⟩
theorem Try.laysSlF25_f89 : Go.Proofs.SlLaysF.n25 Try.prog Try.laysSlF25_f89_ren := {
  mixed := by kernel_rfl
  f25 := ⟨Try.f89.name, by decide, Try.func89.trans (congrArg some (by kernel_rfl))⟩
  t0 := Try.underlying0
  a0 := Try.isAgg0
  z0 := Try.sizeOf0
  v0 := Try.zeroValue0
  t3 := Try.underlying3
  a3 := Try.isAgg3
  z3 := Try.sizeOf3
  v3 := Try.zeroValue3
  t4 := Try.underlying4
  a4 := Try.isAgg4
  z4 := Try.sizeOf4
  v4 := Try.zeroValue4
  t22 := Try.underlying50
  a22 := Try.isAgg50
  z22 := Try.sizeOf50
  v22 := Try.zeroValue50
  a24 := Try.isAgg3
  z24 := Try.sizeOf3
  t25 := Try.underlying79
  a25 := Try.isAgg79
  z25 := Try.sizeOf79
  v25 := Try.zeroValue79 }
open Go.RowKit Go.Lib Go.Sort in
/-- slices.partialInsertionSortCmpFunc at elements of one cell. (LAID AT THE INSTANCE 'slices.partialInsertionSortCmpFunc[int]': no walk: one application.) -/
theorem Try.partialInsertionSortCmpFunc {α : Type} [Inhabited α] (enc : α → Value) (cf : α → α → Int) (g : Nat) (cb : Array Value) (blk off cap a b : Nat) (d0 d : Array α) (w0 w : World) (eg : ∀ args w, (callFunc g args).run Try.prog w = .ok (.enter g args) w) (hcmp : CmpLays1 Try.prog g cb enc cf blk off d0.size w0) (R : Row1 enc w0 blk off d0) (hs : d0.size = d.size) (S : SW enc w0 blk off d w) (hab : a < b) (hb : b ≤ d.size) (hsz : d.size < 4611686018427387904) :
    Calls Try.prog 89 #[.slice (some ⟨blk, off, none⟩) d.size cap, .int .i64 a, .int .i64 b, .func (.func g) #[] cb] w fun e w' =>
      e = .returned (.bool (Sort.partialInsertionSort (ltOf cf) d a b).2) ∧ SW enc w0 blk off (Sort.partialInsertionSort (ltOf cf) d a b).1 w' := Any.partialInsertionSortCmpFunc Try.laysSlF25_f89 enc cf g cb blk off cap a b d0 d w0 w eg hcmp R hs S hab hb hsz
def Try.laysSlF26_f90_ren : Go.Shelf.Ren := ⟨fun | 26 => 90 | n => n, fun | 24 => 3 | 22 => 50 | 3 => 3 | 25 => 79 | 0 => 0 | 4 => 4 | n => n, fun | n => n⟩
theorem Try.laysSlF26_f90 : Go.Proofs.SlLaysF.n26 Try.prog Try.laysSlF26_f90_ren := {
  mixed := by kernel_rfl
  f26 := ⟨Try.f90.name, by decide, Try.func90.trans (congrArg some (by kernel_rfl))⟩
  t0 := Try.underlying0
  a0 := Try.isAgg0
  z0 := Try.sizeOf0
  v0 := Try.zeroValue0
  t3 := Try.underlying3
  a3 := Try.isAgg3
  z3 := Try.sizeOf3
  v3 := Try.zeroValue3
  t4 := Try.underlying4
  a4 := Try.isAgg4
  z4 := Try.sizeOf4
  v4 := Try.zeroValue4
  t22 := Try.underlying50
  a22 := Try.isAgg50
  z22 := Try.sizeOf50
  v22 := Try.zeroValue50
  a24 := Try.isAgg3
  z24 := Try.sizeOf3
  t25 := Try.underlying79
  a25 := Try.isAgg79
  z25 := Try.sizeOf79
  v25 := Try.zeroValue79 }
open Go.RowKit Go.Lib Go.Sort in
/-- slices.partitionEqualCmpFunc at elements of one cell. (After Derived/Shelf/SlSortFuncK/PartitionK.lean, row for row.) (LAID AT THE INSTANCE 'slices.partitionEqualCmpFunc[int]': no walk: one application.) -/
theorem Try.partitionEqualCmpFunc {α : Type} [Inhabited α] (enc : α → Value) (cf : α → α → Int) (g : Nat) (cb : Array Value) (blk off cap a b pivot : Nat) (d0 d : Array α) (w0 w : World) (eg : ∀ args w, (callFunc g args).run Try.prog w = .ok (.enter g args) w) (hcmp : CmpLays1 Try.prog g cb enc cf blk off d0.size w0) (R : Row1 enc w0 blk off d0) (hs : d0.size = d.size) (S : SW enc w0 blk off d w) (hap : a ≤ pivot) (hpb : pivot < b) (hb : b ≤ d.size) (hsz : d.size < 4611686018427387904) :
    Calls Try.prog 90 #[.slice (some ⟨blk, off, none⟩) d.size cap, .int .i64 a, .int .i64 b, .int .i64 pivot, .func (.func g) #[] cb] w fun e w' =>
      e = .returned (.int .i64 (Sort.partitionEqual (ltOf cf) d a b pivot).1) ∧ SW enc w0 blk off (Sort.partitionEqual (ltOf cf) d a b pivot).2 w' := Any.partitionEqualCmpFunc Try.laysSlF26_f90 enc cf g cb blk off cap a b pivot d0 d w0 w eg hcmp R hs S hap hpb hb hsz
def Try.laysSlF27_f91_ren : Go.Shelf.Ren := ⟨fun | 27 => 91 | n => n, fun | 24 => 3 | 22 => 50 | 3 => 3 | 25 => 79 | 4 => 4 | 0 => 0 | n => n, fun | n => n⟩
theorem Try.laysSlF27_f91 : Go.Proofs.SlLaysF.n27 Try.prog Try.laysSlF27_f91_ren := {
  mixed := by kernel_rfl
  f27 := ⟨Try.f91.name, by decide, Try.func91.trans (congrArg some (by kernel_rfl))⟩
  t0 := Try.underlying0
  a0 := Try.isAgg0
  z0 := Try.sizeOf0
  v0 := Try.zeroValue0
  t3 := Try.underlying3
  a3 := Try.isAgg3
  z3 := Try.sizeOf3
  v3 := Try.zeroValue3
  t4 := Try.underlying4
  a4 := Try.isAgg4
  z4 := Try.sizeOf4
  v4 := Try.zeroValue4
  t22 := Try.underlying50
  a22 := Try.isAgg50
  z22 := Try.sizeOf50
  v22 := Try.zeroValue50
  a24 := Try.isAgg3
  z24 := Try.sizeOf3
  t25 := Try.underlying79
  a25 := Try.isAgg79
  z25 := Try.sizeOf79
  v25 := Try.zeroValue79 }
open Go.RowKit Go.Lib Go.Sort in
/-- slices.partitionCmpFunc at elements of one cell. (After Derived/Shelf/SlSortFuncK/PartitionK.lean, row for row.) (LAID AT THE INSTANCE 'slices.partitionCmpFunc[int]': no walk: one application.) -/
theorem Try.partitionCmpFunc {α : Type} [Inhabited α] (enc : α → Value) (cf : α → α → Int) (g : Nat) (cb : Array Value) (blk off cap a b pivot : Nat) (d0 d : Array α) (w0 w : World) (eg : ∀ args w, (callFunc g args).run Try.prog w = .ok (.enter g args) w) (hcmp : CmpLays1 Try.prog g cb enc cf blk off d0.size w0) (R : Row1 enc w0 blk off d0) (hs : d0.size = d.size) (S : SW enc w0 blk off d w) (hap : a ≤ pivot) (hpb : pivot < b) (hb : b ≤ d.size) (hsz : d.size < 4611686018427387904) :
    Calls Try.prog 91 #[.slice (some ⟨blk, off, none⟩) d.size cap, .int .i64 a, .int .i64 b, .int .i64 pivot, .func (.func g) #[] cb] w fun e w' =>
      e = .returned (.tuple #[.int .i64 (Sort.partition (ltOf cf) d a b pivot).1, .bool (Sort.partition (ltOf cf) d a b pivot).2.1]) ∧ SW enc w0 blk off (Sort.partition (ltOf cf) d a b pivot).2.2 w' := Any.partitionCmpFunc Try.laysSlF27_f91 enc cf g cb blk off cap a b pivot d0 d w0 w eg hcmp R hs S hap hpb hb hsz
def Try.laysSlF14_f79_ren : Go.Shelf.Ren := ⟨fun | 14 => 79 | 20 => 84 | 21 => 85 | 22 => 86 | 23 => 87 | 24 => 88 | 25 => 89 | 26 => 90 | 27 => 91 | 46 => 94 | 47 => 95 | 48 => 96 | 49 => 97 | 50 => 98 | 15 => 80 | 57 => 99 | 28 => 92 | 29 => 93 | n => n, fun | 24 => 3 | 22 => 50 | 3 => 3 | 25 => 79 | 4 => 4 | 0 => 0 | 46 => 128 | 45 => 127 | 50 => 117 | 66 => 137 | 39 => 124 | 55 => 136 | 70 => 141 | 76 => 143 | 77 => 61 | 53 => 134 | 5 => 5 | 9 => 9 | n => n, fun | n => n⟩
theorem Try.laysSlF14_f79 : Go.Proofs.SlLaysF.n14 Try.prog Try.laysSlF14_f79_ren := {
  mixed := by kernel_rfl
  f14 := ⟨Try.f79.name, by decide, Try.func79.trans (congrArg some (by kernel_rfl))⟩
  f15 := Try.func80.trans (congrArg some (by kernel_rfl))
  f20 := ⟨Try.f84.name, by decide, Try.func84.trans (congrArg some (by kernel_rfl))⟩
  f21 := ⟨Try.f85.name, by decide, Try.func85.trans (congrArg some (by kernel_rfl))⟩
  f22 := ⟨Try.f86.name, by decide, Try.func86.trans (congrArg some (by kernel_rfl))⟩
  f23 := ⟨Try.f87.name, by decide, Try.func87.trans (congrArg some (by kernel_rfl))⟩
  f24 := ⟨Try.f88.name, by decide, Try.func88.trans (congrArg some (by kernel_rfl))⟩
  f25 := ⟨Try.f89.name, by decide, Try.func89.trans (congrArg some (by kernel_rfl))⟩
  f26 := ⟨Try.f90.name, by decide, Try.func90.trans (congrArg some (by kernel_rfl))⟩
  f27 := ⟨Try.f91.name, by decide, Try.func91.trans (congrArg some (by kernel_rfl))⟩
  f28 := Try.func92.trans (congrArg some (by kernel_rfl))
  f29 := Try.func93.trans (congrArg some (by kernel_rfl))
  f46 := ⟨Try.f94.name, by decide, Try.func94.trans (congrArg some (by kernel_rfl))⟩
  f47 := Try.func95.trans (congrArg some (by kernel_rfl))
  f48 := Try.func96.trans (congrArg some (by kernel_rfl))
  f49 := ⟨Try.f97.name, by decide, Try.func97.trans (congrArg some (by kernel_rfl))⟩
  f50 := ⟨Try.f98.name, by decide, Try.func98.trans (congrArg some (by kernel_rfl))⟩
  f57 := ⟨Try.f99.name, by decide, Try.func99.trans (congrArg some (by kernel_rfl))⟩
  t0 := Try.underlying0
  a0 := Try.isAgg0
  z0 := Try.sizeOf0
  v0 := Try.zeroValue0
  t3 := Try.underlying3
  a3 := Try.isAgg3
  z3 := Try.sizeOf3
  v3 := Try.zeroValue3
  t4 := Try.underlying4
  a4 := Try.isAgg4
  z4 := Try.sizeOf4
  v4 := Try.zeroValue4
  t5 := Try.underlying5
  a5 := Try.isAgg5
  z5 := Try.sizeOf5
  v5 := Try.zeroValue5
  t9 := Try.underlying9
  a9 := Try.isAgg9
  z9 := Try.sizeOf9
  v9 := Try.zeroValue9
  t22 := Try.underlying50
  a22 := Try.isAgg50
  z22 := Try.sizeOf50
  v22 := Try.zeroValue50
  a24 := Try.isAgg3
  z24 := Try.sizeOf3
  t25 := Try.underlying79
  a25 := Try.isAgg79
  z25 := Try.sizeOf79
  v25 := Try.zeroValue79
  t39 := Try.underlying124
  a39 := Try.isAgg124
  z39 := Try.sizeOf124
  v39 := Try.zeroValue124
  t45 := Try.underlying127
  a45 := Try.isAgg127
  z45 := Try.sizeOf127
  v45 := Try.zeroValue127
  t46 := Try.underlying128
  a46 := Try.isAgg128
  z46 := Try.sizeOf128
  v46 := Try.zeroValue128
  t50 := Try.underlying117
  a50 := Try.isAgg117
  z50 := Try.sizeOf117
  v50 := Try.zeroValue117
  t53 := Try.underlying134
  a53 := Try.isAgg134
  z53 := Try.sizeOf134
  v53 := Try.zeroValue134
  t55 := Try.underlying136
  a55 := Try.isAgg136
  z55 := Try.sizeOf136
  v55 := Try.zeroValue136
  t66 := Try.underlying137
  a66 := Try.isAgg137
  z66 := Try.sizeOf137
  v66 := Try.zeroValue137
  t70 := Try.underlying141
  a70 := Try.isAgg141
  z70 := Try.sizeOf141
  v70 := Try.zeroValue141
  t76 := Try.underlying143
  a76 := Try.isAgg143
  z76 := Try.sizeOf143
  v76 := Try.zeroValue143
  t77 := Try.underlying61
  a77 := Try.isAgg61
  z77 := Try.sizeOf61
  v77 := Try.zeroValue61 }
open Go.RowKit Go.Lib Go.Sort in
/-- slices.pdqsortCmpFunc at elements of one cell, WHOLE. (After Derived/Shelf/SlSortFuncK/PdqK.lean, row for row: the slots and the regions' numbers are this body's.) (LAID AT THE INSTANCE 'slices.pdqsortCmpFunc[int]': no walk: one application.) -/
theorem Try.pdqsortCmpFunc_all {α : Type} [Inhabited α] (enc : α → Value) (cf : α → α → Int) (g : Nat) (cb : Array Value) (hO : SWO (ltOf cf)) (blk off cap : Nat) (d0 : Array α) (w0 : World) (eg : ∀ args w, (callFunc g args).run Try.prog w = .ok (.enter g args) w) (hcmp : CmpLays1 Try.prog g cb enc cf blk off d0.size w0) (R : Row1 enc w0 blk off d0) :
    ∀ (N a b limit : Nat) (d : Array α) (w : World), b - a < N → d0.size = d.size → SW enc w0 blk off d w → a ≤ b → b ≤ d.size → d.size < 4611686018427387904 → limit < 4611686018427387904 → Below (ltOf cf) a b d →
    Calls Try.prog 79 #[.slice (some ⟨blk, off, none⟩) d.size cap, .int .i64 a, .int .i64 b, .int .i64 limit, .func (.func g) #[] cb] w fun e w' => e = .returned (.tuple #[]) ∧ SW enc w0 blk off (pdq (ltOf cf) d a b limit true true) w' := Any.pdqsortCmpFunc_all Try.laysSlF14_f79 enc cf g cb hO blk off cap d0 w0 eg hcmp R
def Try.laysSlF6_f62_ren : Go.Shelf.Ren := ⟨fun | 6 => 62 | 15 => 80 | 14 => 79 | 28 => 92 | 29 => 93 | 20 => 84 | 21 => 85 | 22 => 86 | 23 => 87 | 24 => 88 | 25 => 89 | 26 => 90 | 27 => 91 | 46 => 94 | 47 => 95 | 48 => 96 | 49 => 97 | 50 => 98 | 57 => 99 | n => n, fun | 22 => 50 | 24 => 3 | 25 => 79 | 3 => 3 | 39 => 124 | 0 => 0 | 53 => 134 | 55 => 136 | 4 => 4 | 46 => 128 | 45 => 127 | 50 => 117 | 5 => 5 | 9 => 9 | 66 => 137 | 70 => 141 | 76 => 143 | 77 => 61 | n => n, fun | n => n⟩
theorem Try.laysSlF6_f62 : Go.Proofs.SlLaysF.n6 Try.prog Try.laysSlF6_f62_ren := {
  mixed := by kernel_rfl
  f6 := ⟨Try.f62.name, by decide, Try.func62.trans (congrArg some (by kernel_rfl))⟩
  f14 := ⟨Try.f79.name, by decide, Try.func79.trans (congrArg some (by kernel_rfl))⟩
  f15 := Try.func80.trans (congrArg some (by kernel_rfl))
  f20 := ⟨Try.f84.name, by decide, Try.func84.trans (congrArg some (by kernel_rfl))⟩
  f21 := ⟨Try.f85.name, by decide, Try.func85.trans (congrArg some (by kernel_rfl))⟩
  f22 := ⟨Try.f86.name, by decide, Try.func86.trans (congrArg some (by kernel_rfl))⟩
  f23 := ⟨Try.f87.name, by decide, Try.func87.trans (congrArg some (by kernel_rfl))⟩
  f24 := ⟨Try.f88.name, by decide, Try.func88.trans (congrArg some (by kernel_rfl))⟩
  f25 := ⟨Try.f89.name, by decide, Try.func89.trans (congrArg some (by kernel_rfl))⟩
  f26 := ⟨Try.f90.name, by decide, Try.func90.trans (congrArg some (by kernel_rfl))⟩
  f27 := ⟨Try.f91.name, by decide, Try.func91.trans (congrArg some (by kernel_rfl))⟩
  f28 := Try.func92.trans (congrArg some (by kernel_rfl))
  f29 := Try.func93.trans (congrArg some (by kernel_rfl))
  f46 := ⟨Try.f94.name, by decide, Try.func94.trans (congrArg some (by kernel_rfl))⟩
  f47 := Try.func95.trans (congrArg some (by kernel_rfl))
  f48 := Try.func96.trans (congrArg some (by kernel_rfl))
  f49 := ⟨Try.f97.name, by decide, Try.func97.trans (congrArg some (by kernel_rfl))⟩
  f50 := ⟨Try.f98.name, by decide, Try.func98.trans (congrArg some (by kernel_rfl))⟩
  f57 := ⟨Try.f99.name, by decide, Try.func99.trans (congrArg some (by kernel_rfl))⟩
  t0 := Try.underlying0
  a0 := Try.isAgg0
  z0 := Try.sizeOf0
  v0 := Try.zeroValue0
  t3 := Try.underlying3
  a3 := Try.isAgg3
  z3 := Try.sizeOf3
  v3 := Try.zeroValue3
  t4 := Try.underlying4
  a4 := Try.isAgg4
  z4 := Try.sizeOf4
  v4 := Try.zeroValue4
  t5 := Try.underlying5
  a5 := Try.isAgg5
  z5 := Try.sizeOf5
  v5 := Try.zeroValue5
  t9 := Try.underlying9
  a9 := Try.isAgg9
  z9 := Try.sizeOf9
  v9 := Try.zeroValue9
  t22 := Try.underlying50
  a22 := Try.isAgg50
  z22 := Try.sizeOf50
  v22 := Try.zeroValue50
  a24 := Try.isAgg3
  z24 := Try.sizeOf3
  t25 := Try.underlying79
  a25 := Try.isAgg79
  z25 := Try.sizeOf79
  v25 := Try.zeroValue79
  t39 := Try.underlying124
  a39 := Try.isAgg124
  z39 := Try.sizeOf124
  v39 := Try.zeroValue124
  t45 := Try.underlying127
  a45 := Try.isAgg127
  z45 := Try.sizeOf127
  v45 := Try.zeroValue127
  t46 := Try.underlying128
  a46 := Try.isAgg128
  z46 := Try.sizeOf128
  v46 := Try.zeroValue128
  t50 := Try.underlying117
  a50 := Try.isAgg117
  z50 := Try.sizeOf117
  v50 := Try.zeroValue117
  t53 := Try.underlying134
  a53 := Try.isAgg134
  z53 := Try.sizeOf134
  v53 := Try.zeroValue134
  t55 := Try.underlying136
  a55 := Try.isAgg136
  z55 := Try.sizeOf136
  v55 := Try.zeroValue136
  t66 := Try.underlying137
  a66 := Try.isAgg137
  z66 := Try.sizeOf137
  v66 := Try.zeroValue137
  t70 := Try.underlying141
  a70 := Try.isAgg141
  z70 := Try.sizeOf141
  v70 := Try.zeroValue141
  t76 := Try.underlying143
  a76 := Try.isAgg143
  z76 := Try.sizeOf143
  v76 := Try.zeroValue143
  t77 := Try.underlying61
  a77 := Try.isAgg61
  z77 := Try.sizeOf61
  v77 := Try.zeroValue61 }
open Go.RowKit Go.Lib Go.Sort in
/-- **slices.SortFunc: WHAT THE ROW HOLDS, TO THE ELEMENT.** (LAID AT THE INSTANCE 'slices.SortFunc[[]int,int]': no walk: one application.) -/
theorem Try.slices_SortFunc_eq {α : Type} [Inhabited α] (enc : α → Value) (h1 : OneCell enc) (cf : α → α → Int) (hO : SWO (ltOf cf)) (g : Nat) (cb : Array Value) (blk off cap : Nat) (d : Array α) (w : World) (eg : ∀ args w, (callFunc g args).run Try.prog w = .ok (.enter g args) w) (hcmp : CmpLays1 Try.prog g cb enc cf blk off d.size w) (hH : Holds enc w blk off d) (hblk : blk < w.heap.size) (hsz : d.size < 4611686018427387904) :
    Calls Try.prog 62 #[.slice (some ⟨blk, off, none⟩) d.size cap, .func (.func g) #[] cb] w fun e w' =>
      e = .returned (.tuple #[]) ∧ ∃ n os, w' = sortWorld enc w blk off n (pdq (ltOf cf) d 0 d.size (Lib.bitLen d.size) true true) os := Any.slices_SortFunc_eq Try.laysSlF6_f62 enc h1 cf hO g cb blk off cap d w eg hcmp hH hblk hsz
open Go.RowKit Go.Lib Go.Sort in
/-- **slices.SortFunc, IN THE DOCUMENTATION's OWN TERMS: A PERMUTATION OF WHAT THE ROW HELD, SORTED BY 'cmp(a, b) < 0'.** Which of two equals comes first is left open ("The sort is not guaranteed to be stable"). (LAID AT THE INSTANCE 'slices.SortFunc[[]int,int]': no walk: one application.) -/
theorem Try.slices_SortFunc {α : Type} [Inhabited α] (enc : α → Value) (h1 : OneCell enc) (cf : α → α → Int) (hO : SWO (ltOf cf)) (g : Nat) (cb : Array Value) (blk off cap : Nat) (d : Array α) (w : World) (eg : ∀ args w, (callFunc g args).run Try.prog w = .ok (.enter g args) w) (hcmp : CmpLays1 Try.prog g cb enc cf blk off d.size w) (hH : Holds enc w blk off d) (hblk : blk < w.heap.size) (hsz : d.size < 4611686018427387904) :
    Calls Try.prog 62 #[.slice (some ⟨blk, off, none⟩) d.size cap, .func (.func g) #[] cb] w fun e w' =>
      e = .returned (.tuple #[]) ∧ ∃ d' n os, PermIn 0 d.size d d' ∧ SortedIn (ltOf cf) 0 d.size d' ∧ w' = sortWorld enc w blk off n d' os := Any.slices_SortFunc Try.laysSlF6_f62 enc h1 cf hO g cb blk off cap d w eg hcmp hH hblk hsz
def Try.laysSlF020_f84_ren : Go.Shelf.Ren := ⟨fun | 20 => 84 | n => n, fun | 24 => 3 | 22 => 50 | 3 => 3 | 25 => 79 | 4 => 4 | 0 => 0 | n => n, fun | n => n⟩
theorem Try.laysSlF020_f84 : Go.Proofs.SlLaysF0.n20 Try.prog Try.laysSlF020_f84_ren := {
  mixed := by kernel_rfl
  f20 := ⟨Try.f84.name, by decide, Try.func84.trans (congrArg some (by kernel_rfl))⟩
  t0 := Try.underlying0
  a0 := Try.isAgg0
  z0 := Try.sizeOf0
  v0 := Try.zeroValue0
  t3 := Try.underlying3
  a3 := Try.isAgg3
  z3 := Try.sizeOf3
  v3 := Try.zeroValue3
  t4 := Try.underlying4
  a4 := Try.isAgg4
  z4 := Try.sizeOf4
  v4 := Try.zeroValue4
  t22 := Try.underlying50
  a22 := Try.isAgg50
  z22 := Try.sizeOf50
  v22 := Try.zeroValue50
  t25 := Try.underlying79
  a25 := Try.isAgg79
  z25 := Try.sizeOf79
  v25 := Try.zeroValue79 }
open Go.RowKit Go.Lib Go.Sort in
theorem Try.insertionSortCmpFunc_none {α : Type} [Inhabited α] (p : Option Addr) (cap : Nat) (fv : Value) (w : World) :
    Calls Try.prog 84 #[.slice p 0 cap, .int .i64 0, .int .i64 0, fv] w fun e w' => e = .returned (.tuple #[]) ∧ w' = w := AnyF.insertionSortCmpFunc_none Try.laysSlF020_f84 p cap fv w
def Try.laysSlF014_f79_ren : Go.Shelf.Ren := ⟨fun | 14 => 79 | 20 => 84 | 21 => 85 | 22 => 86 | 23 => 87 | 24 => 88 | 25 => 89 | 26 => 90 | 27 => 91 | 46 => 94 | 47 => 95 | 48 => 96 | 49 => 97 | 50 => 98 | 15 => 80 | 57 => 99 | 28 => 92 | 29 => 93 | n => n, fun | 24 => 3 | 22 => 50 | 3 => 3 | 25 => 79 | 4 => 4 | 0 => 0 | 46 => 128 | 45 => 127 | 50 => 117 | 66 => 137 | 39 => 124 | 55 => 136 | 70 => 141 | 76 => 143 | 77 => 61 | 53 => 134 | 5 => 5 | 9 => 9 | n => n, fun | n => n⟩
theorem Try.laysSlF014_f79 : Go.Proofs.SlLaysF0.n14 Try.prog Try.laysSlF014_f79_ren := {
  mixed := by kernel_rfl
  f14 := ⟨Try.f79.name, by decide, Try.func79.trans (congrArg some (by kernel_rfl))⟩
  f15 := Try.func80.trans (congrArg some (by kernel_rfl))
  f20 := ⟨Try.f84.name, by decide, Try.func84.trans (congrArg some (by kernel_rfl))⟩
  f21 := ⟨Try.f85.name, by decide, Try.func85.trans (congrArg some (by kernel_rfl))⟩
  f22 := ⟨Try.f86.name, by decide, Try.func86.trans (congrArg some (by kernel_rfl))⟩
  f23 := ⟨Try.f87.name, by decide, Try.func87.trans (congrArg some (by kernel_rfl))⟩
  f24 := ⟨Try.f88.name, by decide, Try.func88.trans (congrArg some (by kernel_rfl))⟩
  f25 := ⟨Try.f89.name, by decide, Try.func89.trans (congrArg some (by kernel_rfl))⟩
  f26 := ⟨Try.f90.name, by decide, Try.func90.trans (congrArg some (by kernel_rfl))⟩
  f27 := ⟨Try.f91.name, by decide, Try.func91.trans (congrArg some (by kernel_rfl))⟩
  f28 := Try.func92.trans (congrArg some (by kernel_rfl))
  f29 := Try.func93.trans (congrArg some (by kernel_rfl))
  f46 := ⟨Try.f94.name, by decide, Try.func94.trans (congrArg some (by kernel_rfl))⟩
  f47 := Try.func95.trans (congrArg some (by kernel_rfl))
  f48 := Try.func96.trans (congrArg some (by kernel_rfl))
  f49 := ⟨Try.f97.name, by decide, Try.func97.trans (congrArg some (by kernel_rfl))⟩
  f50 := ⟨Try.f98.name, by decide, Try.func98.trans (congrArg some (by kernel_rfl))⟩
  f57 := ⟨Try.f99.name, by decide, Try.func99.trans (congrArg some (by kernel_rfl))⟩
  t0 := Try.underlying0
  a0 := Try.isAgg0
  z0 := Try.sizeOf0
  v0 := Try.zeroValue0
  t3 := Try.underlying3
  a3 := Try.isAgg3
  z3 := Try.sizeOf3
  v3 := Try.zeroValue3
  t4 := Try.underlying4
  a4 := Try.isAgg4
  z4 := Try.sizeOf4
  v4 := Try.zeroValue4
  t5 := Try.underlying5
  a5 := Try.isAgg5
  z5 := Try.sizeOf5
  v5 := Try.zeroValue5
  t9 := Try.underlying9
  a9 := Try.isAgg9
  z9 := Try.sizeOf9
  v9 := Try.zeroValue9
  t22 := Try.underlying50
  a22 := Try.isAgg50
  z22 := Try.sizeOf50
  v22 := Try.zeroValue50
  t25 := Try.underlying79
  a25 := Try.isAgg79
  z25 := Try.sizeOf79
  v25 := Try.zeroValue79
  t39 := Try.underlying124
  a39 := Try.isAgg124
  z39 := Try.sizeOf124
  v39 := Try.zeroValue124
  t45 := Try.underlying127
  a45 := Try.isAgg127
  z45 := Try.sizeOf127
  v45 := Try.zeroValue127
  t46 := Try.underlying128
  a46 := Try.isAgg128
  z46 := Try.sizeOf128
  v46 := Try.zeroValue128
  t50 := Try.underlying117
  a50 := Try.isAgg117
  z50 := Try.sizeOf117
  v50 := Try.zeroValue117
  t53 := Try.underlying134
  a53 := Try.isAgg134
  z53 := Try.sizeOf134
  v53 := Try.zeroValue134
  t55 := Try.underlying136
  a55 := Try.isAgg136
  z55 := Try.sizeOf136
  v55 := Try.zeroValue136
  t66 := Try.underlying137
  a66 := Try.isAgg137
  z66 := Try.sizeOf137
  v66 := Try.zeroValue137
  t70 := Try.underlying141
  a70 := Try.isAgg141
  z70 := Try.sizeOf141
  v70 := Try.zeroValue141
  t76 := Try.underlying143
  a76 := Try.isAgg143
  z76 := Try.sizeOf143
  v76 := Try.zeroValue143
  t77 := Try.underlying61
  a77 := Try.isAgg61
  z77 := Try.sizeOf61
  v77 := Try.zeroValue61 }
open Go.RowKit Go.Lib Go.Sort in
theorem Try.pdqsortCmpFunc_none {α : Type} [Inhabited α] (p : Option Addr) (cap : Nat) (lim : Int) (fv : Value) (w : World) :
    Calls Try.prog 79 #[.slice p 0 cap, .int .i64 0, .int .i64 0, .int .i64 lim, fv] w fun e w' => e = .returned (.tuple #[]) ∧ w' = w := AnyF.pdqsortCmpFunc_none Try.laysSlF014_f79 p cap lim fv w
def Try.laysSlF06_f62_ren : Go.Shelf.Ren := ⟨fun | 6 => 62 | 15 => 80 | 14 => 79 | 28 => 92 | 29 => 93 | 20 => 84 | 21 => 85 | 22 => 86 | 23 => 87 | 24 => 88 | 25 => 89 | 26 => 90 | 27 => 91 | 46 => 94 | 47 => 95 | 48 => 96 | 49 => 97 | 50 => 98 | 57 => 99 | n => n, fun | 22 => 50 | 24 => 3 | 25 => 79 | 3 => 3 | 39 => 124 | 0 => 0 | 53 => 134 | 55 => 136 | 4 => 4 | 46 => 128 | 45 => 127 | 50 => 117 | 5 => 5 | 9 => 9 | 66 => 137 | 70 => 141 | 76 => 143 | 77 => 61 | n => n, fun | n => n⟩
theorem Try.laysSlF06_f62 : Go.Proofs.SlLaysF0.n6 Try.prog Try.laysSlF06_f62_ren := {
  mixed := by kernel_rfl
  f6 := ⟨Try.f62.name, by decide, Try.func62.trans (congrArg some (by kernel_rfl))⟩
  f14 := ⟨Try.f79.name, by decide, Try.func79.trans (congrArg some (by kernel_rfl))⟩
  f15 := Try.func80.trans (congrArg some (by kernel_rfl))
  f20 := ⟨Try.f84.name, by decide, Try.func84.trans (congrArg some (by kernel_rfl))⟩
  f21 := ⟨Try.f85.name, by decide, Try.func85.trans (congrArg some (by kernel_rfl))⟩
  f22 := ⟨Try.f86.name, by decide, Try.func86.trans (congrArg some (by kernel_rfl))⟩
  f23 := ⟨Try.f87.name, by decide, Try.func87.trans (congrArg some (by kernel_rfl))⟩
  f24 := ⟨Try.f88.name, by decide, Try.func88.trans (congrArg some (by kernel_rfl))⟩
  f25 := ⟨Try.f89.name, by decide, Try.func89.trans (congrArg some (by kernel_rfl))⟩
  f26 := ⟨Try.f90.name, by decide, Try.func90.trans (congrArg some (by kernel_rfl))⟩
  f27 := ⟨Try.f91.name, by decide, Try.func91.trans (congrArg some (by kernel_rfl))⟩
  f28 := Try.func92.trans (congrArg some (by kernel_rfl))
  f29 := Try.func93.trans (congrArg some (by kernel_rfl))
  f46 := ⟨Try.f94.name, by decide, Try.func94.trans (congrArg some (by kernel_rfl))⟩
  f47 := Try.func95.trans (congrArg some (by kernel_rfl))
  f48 := Try.func96.trans (congrArg some (by kernel_rfl))
  f49 := ⟨Try.f97.name, by decide, Try.func97.trans (congrArg some (by kernel_rfl))⟩
  f50 := ⟨Try.f98.name, by decide, Try.func98.trans (congrArg some (by kernel_rfl))⟩
  f57 := ⟨Try.f99.name, by decide, Try.func99.trans (congrArg some (by kernel_rfl))⟩
  t0 := Try.underlying0
  a0 := Try.isAgg0
  z0 := Try.sizeOf0
  v0 := Try.zeroValue0
  t3 := Try.underlying3
  a3 := Try.isAgg3
  z3 := Try.sizeOf3
  v3 := Try.zeroValue3
  t4 := Try.underlying4
  a4 := Try.isAgg4
  z4 := Try.sizeOf4
  v4 := Try.zeroValue4
  t5 := Try.underlying5
  a5 := Try.isAgg5
  z5 := Try.sizeOf5
  v5 := Try.zeroValue5
  t9 := Try.underlying9
  a9 := Try.isAgg9
  z9 := Try.sizeOf9
  v9 := Try.zeroValue9
  t22 := Try.underlying50
  a22 := Try.isAgg50
  z22 := Try.sizeOf50
  v22 := Try.zeroValue50
  t25 := Try.underlying79
  a25 := Try.isAgg79
  z25 := Try.sizeOf79
  v25 := Try.zeroValue79
  t39 := Try.underlying124
  a39 := Try.isAgg124
  z39 := Try.sizeOf124
  v39 := Try.zeroValue124
  t45 := Try.underlying127
  a45 := Try.isAgg127
  z45 := Try.sizeOf127
  v45 := Try.zeroValue127
  t46 := Try.underlying128
  a46 := Try.isAgg128
  z46 := Try.sizeOf128
  v46 := Try.zeroValue128
  t50 := Try.underlying117
  a50 := Try.isAgg117
  z50 := Try.sizeOf117
  v50 := Try.zeroValue117
  t53 := Try.underlying134
  a53 := Try.isAgg134
  z53 := Try.sizeOf134
  v53 := Try.zeroValue134
  t55 := Try.underlying136
  a55 := Try.isAgg136
  z55 := Try.sizeOf136
  v55 := Try.zeroValue136
  t66 := Try.underlying137
  a66 := Try.isAgg137
  z66 := Try.sizeOf137
  v66 := Try.zeroValue137
  t70 := Try.underlying141
  a70 := Try.isAgg141
  z70 := Try.sizeOf141
  v70 := Try.zeroValue141
  t76 := Try.underlying143
  a76 := Try.isAgg143
  z76 := Try.sizeOf143
  v76 := Try.zeroValue143
  t77 := Try.underlying61
  a77 := Try.isAgg61
  z77 := Try.sizeOf61
  v77 := Try.zeroValue61 }
open Go.RowKit Go.Lib Go.Sort in
/-- **slices.SortFunc AT NO ELEMENT, A nil SLICE TOO: nothing turns.** (LAID AT THE INSTANCE 'slices.SortFunc[[]int,int]': no walk: one application.) -/
theorem Try.slices_SortFunc_none {α : Type} [Inhabited α] (p : Option Addr) (cap : Nat) (fv : Value) (w : World) :
    Calls Try.prog 62 #[.slice p 0 cap, fv] w fun e w' => e = .returned (.tuple #[]) ∧ w' = w := AnyF.slices_SortFunc_none Try.laysSlF06_f62 p cap fv w
open Go.RowKit Go.Lib Go.Sort in
/-- **slices.SortFunc AT ONE CELL, UNDER A 'cmp' THAT PARTS WHATEVER TWO THAT ARE NOT ONE: THE ROW HOLDS core's 'mergeSort'.** (LAID AT THE INSTANCE 'slices.SortFunc[[]int,int]': no walk: one application.) -/
theorem Try.slices_SortFunc_total {α : Type} [Inhabited α] (enc : α → Value) (h1 : OneCell enc) (cf : α → α → Int) (hO : SWO (ltOf cf)) (g : Nat) (cb : Array Value) (blk off cap : Nat) (d : Array α) (w : World) (eg : ∀ args w, (callFunc g args).run Try.prog w = .ok (.enter g args) w) (hcmp : CmpLays1 Try.prog g cb enc cf blk off d.size w) (hH : Holds enc w blk off d) (hblk : blk < w.heap.size) (hsz : d.size < 4611686018427387904) (hT : ∀ x y, (ltOf cf) x y = false → (ltOf cf) y x = false → x = y) :
    Calls Try.prog 62 #[.slice (some ⟨blk, off, none⟩) d.size cap, .func (.func g) #[] cb] w fun e w' =>
      e = .returned (.tuple #[]) ∧ ∃ n os, w' = sortWorld enc w blk off n (d.toList.mergeSort fun x y => !(ltOf cf) y x).toArray os := Any.slices_SortFunc_total Try.laysSlF6_f62 enc h1 cf hO g cb blk off cap d w eg hcmp hH hblk hsz hT
end Go.Proofs
/- slices.SortFunc over the sizes of the parts: in descending order. -/
namespace Go.Proofs.Ytfigooilhnahfaa
open Go.RowKit Go.Shelf Go.Sort

abbrev Sm := { n : Int // 0 ≤ n ∧ n ≤ 1000000 }
instance : Inhabited Sm := ⟨⟨0, by decide⟩⟩
def encS (x : Sm) : Value := .int .i64 x.1
def cfS (x y : Sm) : Int := y.1 - x.1
theorem Parts1_any (x y : Sm) (w : World) : Calls Try.prog 63 #[encS x, encS y] w fun e w' => e = .returned (.int .i64 (cfS x y)) ∧ w' = w := by
  obtain ⟨x, hx1, hx2⟩ := x
  obtain ⟨y, hy1, hy2⟩ := y
  show Calls Try.prog 63 #[.int .i64 x, .int .i64 y] w fun e w' => e = .returned (.int .i64 (y - x)) ∧ w' = w
  have q0 : IntKind.i64.wrap (y - x) = y - x := IntWalk.i64_in _ (by omega)
  go_enter Try.func63, Try.ntmps63
  go_wp2
  go_ret
  exact ⟨rfl, rfl⟩
theorem ltS (x y : Sm) : ltOf cfS x y = decide (y.1 < x.1) := by
  unfold ltOf cfS
  by_cases h : y.1 < x.1
  · simp [h]; omega
  · simp [h]; omega
theorem swoS : SWO (ltOf cfS) where
  irrefl x := by rw [ltS]; simp
  trans x y z h1 h2 := by rw [ltS] at *; simp at *; omega
  ntrans x y z h1 h2 := by rw [ltS] at *; simp at *; omega
theorem totS (x y : Sm) (h1 : ltOf cfS x y = false) (h2 : ltOf cfS y x = false) : x = y := by
  rw [ltS] at *
  simp at h1 h2
  exact Subtype.ext (by omega)
theorem toSm {l : List Int} (h : ∀ x ∈ l, 0 ≤ x ∧ x ≤ 1000000) : ∃ d : List Sm, d.map (·.1) = l := by
  induction l with
  | nil => exact ⟨[], rfl⟩
  | cons a l ih =>
    obtain ⟨d, hd⟩ := ih (fun x hx => h x (List.mem_cons_of_mem _ hx))
    exact ⟨⟨a, h a (List.mem_cons_self ..)⟩ :: d, by simp [hd]⟩

set_option maxHeartbeats 1000000 in
theorem SortFunc_any (l : List Int) (h : ∀ x ∈ l, 0 ≤ x ∧ x ≤ 1000000) (v : Value) (w : World) (ho : OwnsI w v l) (hlen : l.length ≤ 4096) :
    Calls Try.prog 62 #[v, .func (.func 63) #[] #[]] w fun e w' => e = .returned (.tuple #[]) ∧
      (∃ a cap, v = .slice a l.length cap ∧ CellsI w' a (l.mergeSort fun x y => decide (y ≤ x))) ∧ (∀ n, n ≤ w.heap.size → (∀ b, v.ownBlock = some b → n ≤ b) → Below n w w') ∧ Chg (fun k => v.ownBlock = some k) w w' := by
  obtain ⟨a, cap, hv, hc, hb⟩ := ho.reads
  rcases hb with rfl | ⟨b, rfl, hvb, hb⟩
  · subst hv
    refine (Try.slices_SortFunc_none (α := Sm) a cap (.func (.func 63) #[] #[]) w).mono ?_
    rintro e w' ⟨rfl, rfl⟩
    exact ⟨rfl, ⟨a, cap, rfl, by simpa using CellsI.nil _ _⟩, fun n _ _ => Below.refl _ _, Chg.refl _ _⟩
  · obtain ⟨d, rfl⟩ := toSm h
    subst hv
    have hbw : b < w.heap.size := ho.lt hvb
    have eg : ∀ args w, (callFunc 63 args).run Try.prog w = .ok (.enter 63 args) w := enters_of Try.func63 (by kernel_rfl) rfl
    have hH : Holds encS w b 0 d.toArray := fun j hj => by
      have hj' : j < (d.map (·.1)).length := by simpa using hj
      obtain ⟨h1, h2⟩ := hb j hj'
      rw [Nat.zero_add]
      refine ⟨?_, h2⟩
      rw [h1]
      have hj2 : j < d.length := by simpa using hj
      simp [encS, List.getD, hj2]
    have key := Try.slices_SortFunc_total encS (fun _ => rfl) cfS swoS 63 #[] b 0 cap d.toArray w eg (CmpReads.lays fun m os dk _ x y => (Parts1_any x y _).mono fun e w' ⟨h1, h2⟩ => ⟨h1, 0, h2⟩) hH hbw (by simp at hlen ⊢; omega) totS
    have hsz : d.toArray.size = (d.map (·.1)).length := by simp
    rw [hsz] at key
    refine key.mono ?_
    rintro e w' ⟨rfl, n, os, rfl⟩
    have hms : ((d.toArray.toList.mergeSort fun x y => !(ltOf cfS) y x)).map (·.1) = (d.map (·.1)).mergeSort fun x y => decide (y ≤ x) := by
      refine List.map_mergeSort fun x _ y _ => ?_
      rw [ltS]
      by_cases hxy : y.1 ≤ x.1
      · simp [hxy]
      · simp [hxy]; omega
    have hl : (d.toArray.toList.mergeSort fun x y => !(ltOf cfS) y x).length = d.toArray.size := by simp
    have hw := Lib.sorted_world encS w b 0 n d.toArray (d.toArray.toList.mergeSort fun x y => !(ltOf cfS) y x) os hH hl
    refine ⟨rfl, ⟨_, cap, rfl, ?_⟩, ?_, ?_⟩
    · intro i hi
      refine ⟨b, 0, rfl, ?_⟩
      rw [← hms] at hi ⊢
      unfold sortWorld
      rw [hw]
      have hc2 := Lib.cells_sorted_ints (W := w) (b := b) (off := 0) (q := n) (zs := d.map (·.1)) (n := (d.map (·.1)).length) (ys := (d.toArray.toList.mergeSort fun x y => !(ltOf cfS) y x).map (·.1)) (os := os) (Nat.le_refl _) (by simp) (fun j hj => by rw [Nat.zero_add]; exact (hb j hj).1)
      have := hc2 i (by simpa using hi)
      rw [List.drop_length, List.append_nil] at this
      have e : (d.toArray.toList.mergeSort fun x y => !(ltOf cfS) y x).map encS = ((d.toArray.toList.mergeSort fun x y => !(ltOf cfS) y x).map (·.1)).map (Value.int .i64) := by rw [List.map_map]; rfl
      rw [e]
      exact this
    · intro m hm hmb
      unfold sortWorld
      rw [hw]
      have hbm := hmb b hvb
      have h1 : Below m w (w.drewN n) := ((Ext.refl w).drewN n).mono hm
      have h2 : ∀ (vs : List Value) (o : Nat) (A : World), Below m A (A.setCells b o vs) := by
        intro vs
        induction vs with
        | nil => intro o A; exact Below.refl _ _
        | cons v vs ih => intro o A; exact (Below.setCell (p := ⟨b, o, none⟩) (Below.refl m A) hbm v).trans (ih _ _)
      refine (h1.trans (h2 _ _ _)).trans ⟨rfl, rfl, rfl, by simp [grow], fun k hk => ?_⟩
      have hz : m ≤ ((w.drewN n).setCells b 0 (List.map encS (d.toArray.toList.mergeSort fun x y => !ltOf cfS y x))).heap.size := Nat.le_trans hm (h1.trans (h2 _ _ _)).size
      exact heap_grow_old _ os (by omega)
    · unfold sortWorld
      rw [hw]
      have h2 : ∀ (vs : List Value) (o : Nat) (A : World), Chg (fun k => (Value.slice (some ⟨b, 0, none⟩) (d.map (·.1)).length cap).ownBlock = some k) A (A.setCells b o vs) := by
        intro vs
        induction vs with
        | nil => intro o A; exact Chg.refl _ _
        | cons v vs ih => intro o A; exact (Chg.setCell (B := fun k => (Value.slice (some ⟨b, 0, none⟩) (d.map (·.1)).length cap).ownBlock = some k) ⟨b, o, none⟩ v rfl).trans (ih _ _)
      refine ((Chg.ext ((Ext.refl w).drewN n)).trans (h2 _ _ _)).trans ⟨by simp [grow], fun k hk _ => heap_grow_old _ os hk⟩
end Go.Proofs.Ytfigooilhnahfaa
