/- Steps of the proof: QConcat, QConcatP, QFrom, QRead, QNum, QFromR, QTurnR, QFromRR, QSort. No conditions. -/
import Derived.Lib.AppendZeros
import Derived.Test.YtnhbogmihnnpjaaGreatYB1
import Derived.Test.YtnhbogmihnnpjaaGreatYB2
import Derived.Test.YtnhbogmihnnpjaaGreatYB3
/- slices.Concat at steps and strokes. -/
namespace Go.Proofs.YtnhbogmihnnpjaaGreat
open Go.RowKit
/-- an append whose run is known -/
theorem wpList_append_run {P : Program} (w : World) {ops : Array Oper} {rest : List Oper} {o : Oper} {a : Act} {Q : Exit → Act → World → Prop} (hgd : o.guard = none) (s x : Operand) (t u : TypeId)
    (ho : o.op = .call { callee := .builtin .append, args := #[s, x], argTypes := #[t, u] }) (v y : Value) (hs : a.eval s = v) (hx : a.eval x = y)
    (v' : Value) (w' : World) (hr : (Builtin.append_ #[t, u] o.type #[v, y]).run P w = .ok v' w')
    (h : wpList P ops Q rest (a.put o.dst v') w') : wpList P ops Q (o :: rest) a w := by
  refine wpList_plain hgd fun K hK => ?_
  unfold Oper.wp execOp
  simp only [ho, resolve, invoke, builtin, Sem.run_bind, Sem.run_pure, Result.andThen_ok, List.map_toArray, List.map_cons, List.map_nil, hs, hx, hr]
  exact hK _ _ h
theorem zeroCells_size (z : Array Value) (n : Nat) : (Builtin.zeroCells z n).size = n * z.size := by unfold Builtin.zeroCells; simp
def GrowOk (e : TypeId) (size _n : Nat) (w : World) (r : Ending) (w' : World) : Prop := ∃ v, r = .returned v ∧ w'.ownsRow 0 e size v 0 [] ∧ (∃ g, v.ownBlock = some g ∧ w.heap.size ≤ g) ∧ Ext w w'
set_option maxHeartbeats 2000000 in
set_option maxRecDepth 100000 in
theorem GrowP_any (n : Nat) (w : World) (h0 : 0 < n) (hn : n ≤ 200) :
    Calls Tryz.prog 89 #[.slice none 0 0, .int .i64 (n : Int)] w (GrowOk 87 2 n w) := by
  obtain ⟨cp, cs, hap, hcp⟩ : ∃ (cp : World → Nat) (cs : World → Array Value), (∀ w' : World, (Builtin.append_ #[22, 3] 22 #[.slice none 0 0, .int .i64 (n : Int)]).run Tryz.prog w' = .ok (.slice (some ⟨w'.heap.size, 0, none⟩) n (cp w')) (w'.drew.alloc (.cells (cs w') 87))) ∧ ∀ w', n ≤ cp w' ∧ cp w' ≤ maxLen ∧ (cs w').size = cp w' * 2 := by
    obtain ⟨i0, hi, hi0, hi1, hi2⟩ := info_parts infoStp
    refine ⟨fun w' => grownCap w' n 0 87, _, fun w' => Lib.run_append_nil_zeros (P := Tryz.prog) w' 22 3 22 87 i0 (.agg #[.slice none 0 0, .int .i64 0]) .i64 .i64 Tryz.underlying22 Tryz.underlying3 hi hi0 n h0 (by rw [hi1]; omega) (by omega) (by rw [hi2]; omega), fun w' => ?_⟩
    have h1 := grownCap_ge w' n 0 87
    refine ⟨h1, grownCap_le_maxLen w' n 0 87 (by unfold maxLen; omega), ?_⟩
    rw [Array.size_append, zeroCells_size, zeroCells_size]
    show n * 2 + (grownCap w' n 0 87 - n) * 2 = grownCap w' n 0 87 * 2
    omega
  have HCP := Lib.hid (hcp w)
  have HAP := Lib.hid (hap w)
  clear hcp hap
  go_enter Tryz.func89, Tryz.ntmps89
  go_wp2_with (at_builtin; refine wpList_append_run _ rfl _ _ 22 3 rfl (.slice none 0 0) (.int .i64 (n : Int)) rfl rfl _ _ HAP.out ?_)
  have hcap := HCP.out
  generalize cp w = c at hcap ⊢
  generalize cs w = cells at hcap ⊢
  have E1 : Ext w (w.drew.alloc (.cells cells 87)) := (by repeat (first | with_reducible exact Ext.refl _ | with_reducible assumption | with_reducible apply Ext.drewN | with_reducible apply Ext.drew | with_reducible apply Ext.alloc | ((with_reducible refine Ext.set ?_ ?_ _); rotate_left; first | omega | (simp; omega)) | (with_reducible refine Ext.trans ?_ (by with_reducible assumption))))
  have HO : Hid ((w.drew.alloc (.cells cells 87)).ownsRow 0 87 2 (.slice (some ⟨w.heap.size, 0, none⟩) 0 c) 0 []) := by
    have := World.ownsRow_made (w := w.drew) (base := 0) (e := 87) (size := 2) cells c (Nat.zero_le _) hcap.2.1 hcap.2.2
    exact this
  obtain ⟨hc1, hc2, hc3⟩ := hcap
  have HC3 := Lib.hid hc3
  clear hc3
  unfold maxLen at hc2
  go_wp2
  go_ret
  exact ⟨_, rfl, HO.out, ⟨_, rfl, Nat.le_refl _⟩, E1⟩

theorem run_append_empty {P : Program} (w : World) (t ty e : TypeId) (i : TypeInfo) (ht : P.underlying t = some (.slice e)) (hi : P.info? e = some i) (g : Addr) (n cap : Nat) (hn : n ≤ cap) (a : Option Addr) (c : Nat) :
    (Builtin.append_ #[t, t] ty #[.slice (some g) n cap, .slice a 0 c]).run P w = .ok (.slice (some g) n cap) w := by
  cases a <;> simp [Builtin.append_, run_underlying ht, sizeOf, typeInfo, hi, hn, Builtin.lenOf, Builtin.firstCells, loadCells, storeCells, loadCellsFrom]
theorem flat2_len_pairP (ps : List (Value × Stp)) : (flat2 (pairP ps)).length = ps.length * 2 := by rw [flat2_length]; simp [pairP]
theorem CellsP.pairs {w : World} {b off : Nat} {l : List Stp} (h : CellsP w (some ⟨b, off, none⟩) l) :
    ∃ ps : List (Value × Stp), ps.map (·.2) = l ∧ (∀ j u, (flat2 (pairP ps))[j]? = some u → w.cell? ((⟨b, off, none⟩ : Addr).add j) = some u) ∧ (∀ p ∈ ps, SliceK w p.1 p.2.1) ∧ ∀ u ∈ flat2 (pairP ps), u.oneCell' = true := by
  have hp : ∀ i, i < l.length → ∃ v, w.cell? ⟨b, off + i * 2, none⟩ = some v ∧ SliceK w v (l.getD i stp0).1 ∧ w.cell? ⟨b, off + i * 2 + 1, none⟩ = some (.int .i64 (l.getD i stp0).2) := fun i hi => by
    obtain ⟨b', off', v, h1, h2, h3, h4⟩ := h i hi
    cases h1
    exact ⟨v, h2, h3, h4⟩
  refine ⟨(List.range l.length).map fun i => ((w.cell? ⟨b, off + i * 2, none⟩).getD undef, l.getD i stp0), ?_, ?_, ?_, ?_⟩
  · apply list_ext_getD stp0 (by simp)
    intro j hj
    have : j < l.length := by simpa using hj
    simp [List.getD, this]
  · intro j u hu
    obtain ⟨i, hi, hh⟩ := flat2_two hu
    have hi' : i < l.length := by simpa [pairP] using hi
    obtain ⟨v, h1, h2, h3⟩ := hp i hi'
    rw [Addr.add_lit]
    rcases hh with ⟨rfl, rfl⟩ | ⟨rfl, rfl⟩
    · rw [h1]; simp [pairP, h1]
    · rw [← Nat.add_assoc, h3]; simp [pairP, List.getD, hi']
  · intro p hp'
    obtain ⟨i, hi, rfl⟩ := List.mem_map.1 hp'
    obtain ⟨v, h1, h2, h3⟩ := hp i (List.mem_range.1 hi)
    rw [h1]
    exact h2
  · intro u hu
    obtain ⟨j, hj, e⟩ := List.mem_iff_getElem.1 hu
    have hju := List.getElem?_eq_getElem hj
    rw [e] at hju
    obtain ⟨i, hi, hh⟩ := flat2_two hju
    have hi' : i < l.length := by simpa [pairP] using hi
    obtain ⟨v, h1, ⟨_, _, h2, _⟩, h3⟩ := hp i hi'
    rcases hh with ⟨_, h⟩ | ⟨_, h⟩
    · rw [h]; simp [pairP, h1, h2]; rfl
    · rw [h]; simp [pairP]; rfl
theorem rowP_reads {w : World} {v : Value} {ps : List (Value × Stp)} (h : w.ownsRow 0 87 2 v ps.length (flat2 (pairP ps))) (hs : ∀ p ∈ ps, SliceK w p.1 p.2.1) : SliceP w v (ps.map (·.2)) := by
  obtain ⟨a, cap, hv, hm, hr⟩ := rowReads h
  refine ⟨a, cap, by rw [hv]; simp, fun i hi => ?_, by simpa using rowRoom h hv⟩
  have hip : i < ps.length := by simpa using hi
  have hg := flat2_get (pairP ps) i (by simpa [pairP] using hip)
  have e1 : (pairP ps)[i]'(by simpa [pairP] using hip) = (ps[i].1, .int .i64 ps[i].2.2) := by simp [pairP]
  rw [e1] at hg
  have ey : (ps.map (·.2)).getD i stp0 = ps[i].2 := by simp [List.getD, hip]
  obtain ⟨b, hb, _, g1, _⟩ := hr _ _ hg.1
  obtain ⟨b', hb', _, g2, _⟩ := hr _ _ hg.2
  rw [hb] at hb'
  cases hb'
  exact ⟨b, 0, ps[i].1, hb, by rw [Nat.zero_add]; exact g1, by rw [ey]; exact hs _ (List.getElem_mem hip), by rw [ey, Nat.zero_add]; exact g2⟩
/-- two slices of steps, one of them may be empty -/
def PairsAt (w : World) (a : Option Addr) (ps : List (Value × Stp)) : Prop :=
  (ps = [] ∨ ∃ b off, a = some ⟨b, off, none⟩ ∧ ∀ j u, (flat2 (pairP ps))[j]? = some u → w.cell? ((⟨b, off, none⟩ : Addr).add j) = some u) ∧ (∀ p ∈ ps, SliceK w p.1 p.2.1) ∧ ∀ u ∈ flat2 (pairP ps), u.oneCell' = true
theorem CellsP.pairsAt {w : World} {a : Option Addr} {l : List Stp} (h : CellsP w a l) : ∃ ps : List (Value × Stp), ps.map (·.2) = l ∧ PairsAt w a ps := by
  cases l with
  | nil => exact ⟨[], rfl, .inl rfl, (fun p hp => by cases hp), (fun u hu => by simp [pairP, flat2] at hu)⟩
  | cons x l =>
    obtain ⟨b, off, _, ha, _⟩ := h 0 (by simp)
    subst ha
    obtain ⟨ps, h1, h2, h3, h4⟩ := h.pairs
    exact ⟨ps, h1, .inr ⟨b, off, rfl, h2⟩, h3, h4⟩
theorem PairsAt.ext {w w' : World} {a : Option Addr} {ps : List (Value × Stp)} (h : PairsAt w a ps) (k : Ext w w') : PairsAt w' a ps := by
  obtain ⟨h1, h2, h3⟩ := h
  refine ⟨?_, fun p hp => (h2 p hp).ext k, h3⟩
  rcases h1 with h1 | ⟨b, off, ha, hc⟩
  · exact .inl h1
  · exact .inr ⟨b, off, ha, fun j u hu => k.cell (hc j u hu)⟩
end Go.Proofs.YtnhbogmihnnpjaaGreat
/- slices.Concat at two slices of steps. -/
namespace Go.Proofs.YtnhbogmihnnpjaaGreat
open Go.RowKit

def ConcatPost (l : List Stp) (w : World) (e : Ending) (w' : World) : Prop := ∃ a cap, e = .returned (.slice a l.length cap) ∧ CellsP w' a l ∧ l.length ≤ maxLen ∧ Ext w w'
/-- what lies in the new slice after k of the two -/
def firstPs (p1 p2 : List (Value × Stp)) (k : Nat) : List (Value × Stp) := if k = 0 then [] else if k = 1 then p1 else p1 ++ p2
theorem pairP_append (ps q : List (Value × Stp)) : flat2 (pairP (ps ++ q)) = flat2 (pairP ps) ++ flat2 (pairP q) := by unfold pairP; rw [List.map_append, flat2_append]
/-- the slice value v owns the steps ps, in a block from B on -/
def OwnsB (B : Nat) (w : World) (v : Value) (ps : List (Value × Stp)) : Prop := w.ownsRow 0 87 2 v ps.length (flat2 (pairP ps)) ∧ ∃ g, v.ownBlock = some g ∧ B ≤ g
theorem run_appP {B : Nat} {w : World} {v : Value} {ps q : List (Value × Stp)} {a : Option Addr} (c n : Nat) (h : OwnsB B w v ps) (hq : PairsAt w a q) (hn : n = q.length) (hl : ps.length + q.length ≤ 200) (hB : B ≤ w.heap.size) :
    ∃ v' w', (Builtin.append_ #[22, 22] 22 #[v, .slice a n c]).run Tryz.prog w = .ok v' w' ∧ OwnsB B w' v' (ps ++ q) ∧ Below B w w' := by
  obtain ⟨i0, hi, hi0, hi1, hi2⟩ := info_parts infoStp
  obtain ⟨hown, g, hg, hgB⟩ := h
  subst hn
  by_cases h0 : q.length = 0
  · have hqe : q = [] := List.eq_nil_of_length_eq_zero h0
    subst hqe
    rcases hown.2 with ⟨hv, _⟩ | ⟨g', cap, cur, hv, _, _, hcap, _⟩
    · rw [hv] at hg; cases hg
    · refine ⟨v, w, ?_, ?_, Below.refl _ _⟩
      · rw [hv]; exact run_append_empty w _ _ _ i0 Tryz.underlying22 hi _ _ _ hcap _ _
      · rw [List.append_nil]; exact ⟨hown, g, hg, hgB⟩
  · rcases hq.1 with hq1 | ⟨b, off, rfl, hc⟩
    · rw [hq1] at h0; exact absurd rfl h0
    · obtain ⟨v', w', hr, h2, h3⟩ := run_append1 (P := Tryz.prog) w 22 22 87 i0 (.agg #[.slice none 0 0, .int .i64 0]) 2 32 Tryz.underlying22 hi hi0 hi1 hi2 rfl (by decide) v ps.length _ hown ⟨b, off, none⟩ q.length c (by omega) (flat2 (pairP q)) (flat2_len_pairP q) hc hq.2.2 (by unfold maxLen; omega) (by omega)
      refine ⟨v', w', hr, ⟨?_, ?_⟩, h3.below hB (fun b hb => by rw [hg] at hb; cases hb; exact hgB)⟩
      · rw [List.length_append, pairP_append]; exact h2
      · rcases h3 with ⟨e1, _, _⟩ | ⟨e1, _⟩
        · exact ⟨g, by rw [e1]; exact hg, hgB⟩
        · exact ⟨_, e1, hB⟩
set_option maxHeartbeats 4000000 in
set_option maxRecDepth 100000 in
theorem ConcatP_any (p1 p2 : List (Value × Stp)) (l : List Stp) (hpl : (p1 ++ p2).map (·.2) = l) (a1 a2 : Option Addr) (c1 c2 cb : Nat) (w : World) (h1 : PairsAt w a1 p1) (h2 : PairsAt w a2 p2) (h0 : 0 < p1.length + p2.length) (hl1 : p1.length ≤ 100) (hl2 : p2.length ≤ 100)
    (e1 : w.cell? ⟨cb, 0, none⟩ = some (.slice a1 p1.length c1)) (e2 : w.cell? ⟨cb, 1, none⟩ = some (.slice a2 p2.length c2)) :
    Calls Tryz.prog 51 #[.slice (some ⟨cb, 0, none⟩) 2 2] w (ConcatPost l w) := by
  have HPL := Lib.hid hpl
  clear hpl
  have H1 := Lib.hid h1
  have H2 := Lib.hid h2
  clear h1 h2
  obtain ⟨i0, hi, hi0, hi1, hi2⟩ := info_parts infoStp
  obtain ⟨n1, hn1⟩ : ∃ n, n = p1.length := ⟨_, rfl⟩
  obtain ⟨n2, hn2⟩ : ∃ n, n = p2.length := ⟨_, rfl⟩
  rw [← hn1] at h0 hl1 e1
  rw [← hn2] at h0 hl2 e2
  have HN1 := Lib.hid hn1
  have HN2 := Lib.hid hn2
  clear hn1 hn2
  go_enter Tryz.func51, Tryz.ntmps51
  go_wp2
  go_loop [11, 3] (fun i z => ∃ k : Nat, k ≤ 2 ∧ i = .int .i64 k ∧ ∃ q : Nat, z = .int .i64 q ∧ (k = 0 → q = 0) ∧ (k = 1 → q = n1) ∧ (k = 2 → q = n1 + n2)) (fun i _ => 2 - (intOf i).toNat)
  case atStart => exact ⟨0, by omega, rfl, 0, rfl, by omega, by omega, by omega⟩
  case round =>
    obtain ⟨k, hk, rfl, q, rfl, q0, q1, q2⟩ := hrel
    have : k = 0 ∨ k = 1 ∨ k = 2 := by omega
    rcases this with rfl | rfl | rfl
    · have hq := q0 rfl
      subst hq
      clear q0 q1 q2
      go_wp2
      refine ⟨⟨1, by omega, by go_num, n1, by go_num, by omega, by omega, by omega⟩, by simp [intOf]⟩
    · have hq := q1 rfl
      subst hq
      clear q0 q1 q2
      go_wp2
      refine ⟨⟨2, by omega, by go_num, q + n2, by go_num, by omega, by omega, by omega⟩, by simp [intOf]⟩
    · have hq := q2 rfl
      subst hq
      clear q0 q1 q2
      have hgr := GrowP_any (n1 + n2) w h0 (by omega)
      rw [Int.natCast_add] at hgr
      have HGR := Lib.hid hgr
      clear hgr
      go_wp2_with fail
      refine HGR.out.mono ?_
      rintro e w1 ⟨v0, rfl, hown0, hv0, hE⟩
      have HO0 : Hid (OwnsB w.heap.size w1 v0 (firstPs p1 p2 0)) := ⟨hown0, hv0⟩
      have HE1 := Lib.hid e1
      have HE2 := Lib.hid e2
      have e1 := hE.cell e1
      have e2 := hE.cell e2
      clear hown0 hv0 HGR
      have hsz := hE.size
      go_wp2
      go_loopw [27, 6] (fun i v wr => ∃ k : Nat, k ≤ 2 ∧ i = .int .i64 k ∧ (∃ vv, v = vv ∧ Hid (OwnsB w.heap.size wr vv (firstPs p1 p2 k))) ∧ Ext w wr) (fun i _ _ => 2 - (intOf i).toNat)
      case atStart => exact ⟨0, by omega, rfl, ⟨_, rfl, HO0⟩, hE⟩
      case round =>
        obtain ⟨k, hk, rfl, ⟨vv, hvv, HO⟩, he⟩ := hrel
        obtain rfl := hvv.symm
        have e1 := he.cell HE1.out
        have e2 := he.cell HE2.out
        have hsz := he.size
        have : k = 0 ∨ k = 1 ∨ k = 2 := by omega
        rcases this with rfl | rfl | rfl
        · obtain ⟨v', w5, hrun, hO5, hB5⟩ := run_appP c1 n1 HO.out (H1.out.ext he) HN1.out (by have := HN1.out; simp [firstPs]; omega) hsz
          have HRUN := Lib.hid hrun
          have HO5 : Hid (OwnsB w.heap.size w5 v' (firstPs p1 p2 1)) := by show OwnsB _ _ _ _; simpa [firstPs] using hO5
          have hE5 : Ext w w5 := he.trans' hB5 (Nat.le_refl _)
          clear hrun hO5 hB5
          go_wp2_with (at_builtin; refine wpList_append_run _ rfl _ _ 22 22 rfl vv (.slice a1 n1 c1) rfl rfl _ _ HRUN.out ?_)
          go_wp2
          refine ⟨⟨1, by omega, by go_num, ⟨v', rfl, HO5⟩, hE5⟩, by simp [intOf]⟩
        · obtain ⟨v', w5, hrun, hO5, hB5⟩ := run_appP c2 n2 HO.out (H2.out.ext he) HN2.out (by have := HN1.out; have := HN2.out; simp [firstPs]; omega) hsz
          have HRUN := Lib.hid hrun
          have HO5 : Hid (OwnsB w.heap.size w5 v' (firstPs p1 p2 2)) := by show OwnsB _ _ _ _; simpa [firstPs] using hO5
          have hE5 : Ext w w5 := he.trans' hB5 (Nat.le_refl _)
          clear hrun hO5 hB5
          go_wp2_with (at_builtin; refine wpList_append_run _ rfl _ _ 22 22 rfl vv (.slice a2 n2 c2) rfl rfl _ _ HRUN.out ?_)
          go_wp2
          refine ⟨⟨2, by omega, by go_num, ⟨v', rfl, HO5⟩, hE5⟩, by simp [intOf]⟩
        · go_wp2
          go_ret
          have hs : ∀ p ∈ p1 ++ p2, SliceK wr p.1 p.2.1 := fun p hp => by
            rcases List.mem_append.1 hp with hp | hp
            · exact (H1.out.2.1 p hp).ext he
            · exact (H2.out.2.1 p hp).ext he
          have hO2 : OwnsB w.heap.size wr vv (p1 ++ p2) := by simpa [firstPs] using HO.out
          have hrd := rowP_reads hO2.1 hs
          rw [HPL.out] at hrd
          obtain ⟨ra, rc, hrv, hrc, hrl⟩ := hrd
          exact ⟨ra, rc, by rw [hrv]; rfl, hrc, hrl, he⟩
end Go.Proofs.YtnhbogmihnnpjaaGreat
/- variant.From. -/
namespace Go.Proofs.YtnhbogmihnnpjaaGreat
open Go.RowKit

theorem infoSeq : (Tryz.prog.info? 24).map (fun i => (i.zero, i.size, i.bytes)) = some (some (.agg #[.int .i64 0, .slice none 0 0]), 2, 32) := by kernel_rfl
theorem results_cell_tmp1 {fn : Func} {p u : Tmp} {ty : TypeId} (h : fn.results = #[.cell p ty, .tmp u]) (tmps : Array Value) (P : Program) (w : World) :
    (results fn tmps).run P w = ((asAddr (tmps.getD p undef)).run P w).andThen fun a w₁ => ((loadVar ty a).run P w₁).andThen fun x w₂ => .ok (.tuple #[x, tmps.getD u undef]) w₂ := by
  simp only [results, h]
  simp [Sem.run_bind, Result.andThen]
def mem1 (l : List Int) (x : Int) : Bool := l.contains x
set_option maxHeartbeats 1000000 in
theorem IndexI_any (l : List Int) (x : Int) (a : Option Addr) (cap : Nat) (w : World) (hl : l.length ≤ maxLen) (hc : CellsI w a l) :
    Calls Tryz.prog 79 #[.slice a l.length cap, .int .i64 x] w (AnyPost (mem1 l x) w) := by
  unfold maxLen at hl
  have HC := Lib.hid hc
  clear hc
  go_enter Tryz.func79, Tryz.ntmps79
  go_wp2
  go_loop [8] (fun i => ∃ k : Nat, k ≤ l.length ∧ i = .int .i64 k ∧ Hid (∀ j : Nat, j < k → l.getD j 0 ≠ x)) (fun i => l.length - (intOf i).toNat)
  case atStart => exact ⟨0, Nat.zero_le _, rfl, fun j hj => by omega⟩
  case round =>
    obtain ⟨k, hk, rfl, hnn⟩ := hrel
    by_cases hlt : k < l.length
    · obtain ⟨b, off, rfl, c1⟩ := HC.out k hlt
      by_cases hx : l.getD k 0 = x
      · have HB : Hid (mem1 l x = true) := by
          show _ = _
          unfold mem1
          rw [List.contains_iff_mem, ← hx, List.getD_eq_getElem?_getD, List.getElem?_eq_getElem hlt]
          simp
        rw [hx] at c1
        have hxx : (x == x) = true := by simp
        clear hx
        go_wp2
        go_ret
        exact ⟨(k : Int), rfl, by rw [HB.out]; simp, Ext.refl _⟩
      · have HX := Lib.hid hx
        have hx' : (x == l.getD k 0) = false := by simp; exact fun h => hx h.symm
        clear hx
        generalize hy : l.getD k 0 = y at c1 HX hx'
        have HY := Lib.hid hy
        clear hy
        go_wp2
        refine ⟨⟨k + 1, by omega, by go_num, fun j hj => ?_⟩, by simp [intOf]; omega⟩
        rcases Nat.lt_or_eq_of_le (Nat.le_of_lt_succ hj) with h | rfl
        · exact hnn.out j h
        · rw [HY.out]; exact HX.out
    · have HB : Hid (mem1 l x = false) := by
        show _ = _
        unfold mem1
        rw [← Bool.not_eq_true, List.contains_iff_mem]
        intro hm
        obtain ⟨j, hj, e⟩ := List.mem_iff_getElem.1 hm
        refine hnn.out j (by omega) ?_
        rw [List.getD_eq_getElem?_getD, List.getElem?_eq_getElem hj, e]; rfl
      go_wp2
      go_ret
      exact ⟨-1, rfl, by rw [HB.out]; simp, Ext.refl _⟩
theorem ContainsI_any (l : List Int) (x : Int) (a : Option Addr) (cap : Nat) (w : World) (hl : l.length ≤ maxLen) (hc : CellsI w a l) :
    Calls Tryz.prog 41 #[.slice a l.length cap, .int .i64 x] w fun e w' => e = .returned (.bool (mem1 l x)) ∧ Ext w w' := by
  have HC := Lib.hid hc
  have HL := Lib.hid hl
  clear hc hl
  go_enter Tryz.func41, Tryz.ntmps41
  go_wp2_with fail
  refine (IndexI_any l x a cap _ HL.out HC.out).mono ?_
  rintro e w1 ⟨r, rfl, hr, hE⟩
  have HR := Lib.hid hr
  clear hr
  go_wp2
  all_goals go_ret
  all_goals exact ⟨ret_bool HR.out, hE⟩
/-- a sequence of the call's own and an error are returned -/
def SeqErr (s : Sq) (err : Int) (w : World) (e : Ending) (w' : World) : Prop := ∃ v, e = .returned (.tuple #[v, .int .i64 err]) ∧ SeqV w' v s ∧ Ext w w'
theorem pauses_mem (n : Int) (l : List Stp) (k : Int) (h0 : 0 ≤ k) (h1 : k < l.length) : mem1 (pauses (n, l)) k = restsAt (n, l) k.toNat := by
  unfold mem1 pauses
  cases h : restsAt (n, l) k.toNat
  · rw [← Bool.not_eq_true, List.contains_iff_mem, List.mem_filter, h]; simp
  · rw [List.contains_iff_mem, List.mem_filter, h]
    refine ⟨?_, rfl⟩
    unfold ints
    rw [List.mem_map]
    exact ⟨k.toNat, List.mem_range.2 (by show k.toNat < (((l.length : Nat) : Int)).toNat; omega), by show ((k.toNat : Nat) : Int) = k; omega⟩
theorem CellsP.drop {w : World} {b off : Nat} {l : List Stp} (h : CellsP w (some ⟨b, off, none⟩) l) (k : Nat) : CellsP w (some ⟨b, off + k * 2, none⟩) (l.drop k) := fun i hi => by
  rw [List.length_drop] at hi
  obtain ⟨b', off', v, h1, h2, h3, h4⟩ := h (k + i) (by omega)
  cases h1
  have e : (l.drop k).getD i stp0 = l.getD (k + i) stp0 := by rw [List.getD_eq_getElem?_getD, List.getD_eq_getElem?_getD, List.getElem?_drop]
  rw [e]
  exact ⟨b, off + k * 2, v, rfl, by rw [show off + k * 2 + i * 2 = off + (k + i) * 2 from by omega]; exact h2, h3, by rw [show off + k * 2 + i * 2 + 1 = off + (k + i) * 2 + 1 from by omega]; exact h4⟩
theorem CellsP.take {w : World} {a : Option Addr} {l : List Stp} (h : CellsP w a l) (k : Nat) : CellsP w a (l.take k) := fun i hi => by
  rw [List.length_take] at hi
  have e : (l.take k).getD i stp0 = l.getD i stp0 := by
    rw [List.getD_eq_getElem?_getD, List.getD_eq_getElem?_getD, List.getElem?_take_of_lt (by omega)]
  rw [e]
  exact h i (by omega)
theorem ckSeq_full {n : Int} {l : List Stp} (h : ckSeq (n, l) = 0) : Full l := fun k hk => by
  have := (ckWalk_fine (ckSeq_zero h).2.2.2.2.1) k hk
  have h2 := ckStep_strokes this.1
  omega
theorem Full.turn {l : List Stp} (h : Full l) (k : Nat) : Full (l.drop k ++ l.take k) := fun i hi => by
  have hm : (l.drop k ++ l.take k).getD i stp0 ∈ l := by
    have h1 : (l.drop k ++ l.take k).getD i stp0 ∈ l.drop k ++ l.take k := by
      rw [List.getD_eq_getElem?_getD, List.getElem?_eq_getElem hi]; simp
    rcases List.mem_append.1 h1 with h1 | h1
    · exact List.mem_of_mem_drop h1
    · exact List.mem_of_mem_take h1
  obtain ⟨j, hj, e⟩ := List.mem_iff_getElem.1 hm
  have := h j hj
  rw [List.getD_eq_getElem?_getD, List.getElem?_eq_getElem hj] at this
  rw [← e]
  exact this

set_option maxHeartbeats 4000000 in
set_option maxRecDepth 100000 in
theorem From_ok (n : Int) (l : List Stp) (k : Nat) (b off : Nat) (cap : Nat) (w : World) (hl : l.length ≤ maxLen) (hc : CellsP w (some ⟨b, off, none⟩) l) (hcap : l.length ≤ cap) (_hcm : cap ≤ maxLen) (hk : fromE (n, l) k = 0) :
    Calls Tryz.prog 15 #[.agg #[.int .i64 n, .slice (some ⟨b, off, none⟩) l.length cap], .int .i64 (k : Int)] w (SeqErr (turned (n, l) k) 0 w) := by
  have HC := Lib.hid hc
  have HL := Lib.hid hl
  obtain ⟨hck, hk1, hk2⟩ : ckSeq (n, l) = 0 ∧ k < l.length ∧ restsAt (n, l) k = true := by
    unfold fromE at hk
    by_cases h1 : ckSeq (n, l) = 0
    · rw [if_neg (by simp [h1])] at hk
      by_cases h2 : (k : Int) < 0 ∨ (((n, l) : Sq).2.length : Int) ≤ k
      · rw [if_pos h2] at hk; cases hk
      · rw [if_neg h2] at hk
        cases h3 : restsAt (n, l) (k : Int).toNat
        · rw [h3] at hk; cases hk
        · refine ⟨h1, ?_, by simpa using h3⟩
          have : ¬ ((l.length : Int) ≤ k) := fun h => h2 (.inr h)
          omega
    · rw [if_pos h1] at hk; exact absurd hk h1
  have hmem : Hid (mem1 (pauses (n, l)) (k : Int) = true) := by show _ = _; rw [pauses_mem n l k (by omega) (by omega)]; simpa using hk2
  have hl64 := (ckSeq_zero hck).2.2.2.1
  obtain ⟨L, hLL⟩ : ∃ L, L = l.drop k ++ l.take k := ⟨_, rfl⟩
  have hL64 : L.length ≤ 64 := by rw [hLL]; simp; omega
  have hfl := (ckSeq_full hck).turn k
  rw [← hLL] at hfl
  have HFU := Lib.hid hfl
  have HLL := Lib.hid hLL
  clear hLL hfl
  have HCK := Lib.hid hck
  unfold maxLen at _hcm
  clear hc hl hk hk2 hck
  go_enter Tryz.func15, Tryz.ntmps15
  go_wp2_with fail
  have E1 : Ext w ((w.alloc (.cells #[.int .i64 n, .slice (some ⟨b, off, none⟩) l.length cap] 24)).alloc (.cells #[.int .i64 0, .slice none 0 0] 24)) := (by repeat (first | with_reducible exact Ext.refl _ | with_reducible assumption | with_reducible apply Ext.drewN | with_reducible apply Ext.drew | with_reducible apply Ext.alloc | ((with_reducible refine Ext.set ?_ ?_ _); rotate_left; first | omega | (simp; omega)) | (with_reducible refine Ext.trans ?_ (by with_reducible assumption))))
  have c0 : ((w.alloc (.cells #[.int .i64 n, .slice (some ⟨b, off, none⟩) l.length cap] 24)).alloc (.cells #[.int .i64 0, .slice none 0 0] 24)).cell? ⟨w.heap.size, 0, none⟩ = some (.int .i64 n) := by go_simp
  have c1 : ((w.alloc (.cells #[.int .i64 n, .slice (some ⟨b, off, none⟩) l.length cap] 24)).alloc (.cells #[.int .i64 0, .slice none 0 0] 24)).cell? ⟨w.heap.size, 1, none⟩ = some (.slice (some ⟨b, off, none⟩) l.length cap) := by go_simp
  have c2 : ((w.alloc (.cells #[.int .i64 n, .slice (some ⟨b, off, none⟩) l.length cap] 24)).alloc (.cells #[.int .i64 0, .slice none 0 0] 24)).cell? ⟨w.heap.size + 1, 0, none⟩ = some (.int .i64 0) := by go_simp
  have c3 : ((w.alloc (.cells #[.int .i64 n, .slice (some ⟨b, off, none⟩) l.length cap] 24)).alloc (.cells #[.int .i64 0, .slice none 0 0] 24)).cell? ⟨w.heap.size + 1, 1, none⟩ = some (.slice none 0 0) := by go_simp
  have d2 : ((w.alloc (.cells #[.int .i64 n, .slice (some ⟨b, off, none⟩) l.length cap] 24)).alloc (.cells #[.int .i64 0, .slice none 0 0] 24)).frozen? ⟨w.heap.size + 1, 0, none⟩ = false := by go_simp
  have d3 : ((w.alloc (.cells #[.int .i64 n, .slice (some ⟨b, off, none⟩) l.length cap] 24)).alloc (.cells #[.int .i64 0, .slice none 0 0] 24)).frozen? ⟨w.heap.size + 1, 1, none⟩ = false := by go_simp
  generalize ((w.alloc (.cells #[.int .i64 n, .slice (some ⟨b, off, none⟩) l.length cap] 24)).alloc (.cells #[.int .i64 0, .slice none 0 0] 24)) = W at E1 c0 c1 c2 c3 d2 d3 ⊢
  refine (Pauses_any n l _ cap _ HL.out (HC.out.ext E1)).mono ?_
  rintro e w1 ⟨pa, pc, rfl, hp1, hp2, hE⟩
  rw [if_pos HCK.out] at hp1 hp2 ⊢
  rw [HCK.out]
  have E2 := E1.trans hE
  have d2 := (Below.frozen (p := ⟨w.heap.size + 1, 0, none⟩) hE (cell_lt c2)).trans d2
  have d3 := (Below.frozen (p := ⟨w.heap.size + 1, 1, none⟩) hE (cell_lt c3)).trans d3
  have c0 := hE.cell c0
  have c1 := hE.cell c1
  have c2 := hE.cell c2
  have c3 := hE.cell c3
  have HP1 := Lib.hid hp1
  have HP2 := Lib.hid hp2
  have hp3 := hp2
  unfold maxLen at hp3
  clear hp1 hp2 hE
  go_wp2_with fail
  refine (ContainsI_any (pauses (n, l)) (k : Int) pa pc _ HP2.out HP1.out).mono ?_
  rintro e w2 ⟨rfl, hE⟩
  rw [hmem.out]
  have E3 := E2.trans hE
  have d2 := (Below.frozen (p := ⟨w.heap.size + 1, 0, none⟩) hE (cell_lt c2)).trans d2
  have d3 := (Below.frozen (p := ⟨w.heap.size + 1, 1, none⟩) hE (cell_lt c3)).trans d3
  have c0 := hE.cell c0
  have c1 := hE.cell c1
  have c2 := hE.cell c2
  have c3 := hE.cell c3
  clear hE
  go_wp2
  refine wp_region_heldE 99 (fun w' => w'.cell? ⟨w.heap.size, 0, none⟩ = some (.int .i64 n) ∧ w'.cell? ⟨w.heap.size, 1, none⟩ = some (.slice (some ⟨b, off, none⟩) l.length cap)) (by kernel_rfl) ?_
  have ED : Ext w2 w2.drew := (by repeat (first | with_reducible exact Ext.refl _ | with_reducible assumption | with_reducible apply Ext.drewN | with_reducible apply Ext.drew | with_reducible apply Ext.alloc | ((with_reducible refine Ext.set ?_ ?_ _); rotate_left; first | omega | (simp; omega)) | (with_reducible refine Ext.trans ?_ (by with_reducible assumption))))
  have E4 := E3.trans ED
  have d2 := (Below.frozen (p := ⟨w.heap.size + 1, 0, none⟩) ED (cell_lt c2)).trans d2
  have d3 := (Below.frozen (p := ⟨w.heap.size + 1, 1, none⟩) ED (cell_lt c3)).trans d3
  have c2 := ED.cell c2
  have c3 := ED.cell c3
  have hS : w2.drew.cell? ⟨w.heap.size, 0, none⟩ = some (.int .i64 n) ∧ w2.drew.cell? ⟨w.heap.size, 1, none⟩ = some (.slice (some ⟨b, off, none⟩) l.length cap) := ⟨ED.cell c0, ED.cell c1⟩
  have zb := cell_lt hS.1
  dsimp only at zb
  clear c0 c1
  generalize w2.drew = W3 at E4 d2 d3 c2 c3 hS zb ⊢
  clear ED
  have hkle : k ≤ l.length := by omega
  have hkc : k ≤ cap := by omega
  have hcapk : ¬ cap = k := by omega
  ((refine wpAnyE_take (i := 0) (oi := ?_) (v := ?_) ?_ (by kernel_rfl) ?_ ?_ (by assumption) ?_; rotate_left 2; (focus ((simp only [List.getElem?_toArray, List.getElem?_cons_zero]; exact rfl))); (focus (exact fun _ _ _ h => h)); (focus (refine Or.inl ⟨by rfl, ?_⟩; intro w hSw; (try dsimp only at hSw); (first | (go_simp; done) | (go_simp; with_reducible rfl)))); (try simp only [Act.put, List.setIfInBounds_toArray, List.set_cons_zero, List.set_cons_succ])); (refine wpAnyE_take (i := 1) (oi := ?_) (v := ?_) ?_ (by kernel_rfl) ?_ ?_ (by assumption) ?_; rotate_left 2; (focus ((simp only [List.getElem?_toArray, List.getElem?_cons_succ, List.getElem?_cons_zero]; exact rfl))); (focus (exact fun _ _ _ h => h)); (focus (refine Or.inl ⟨by rfl, ?_⟩; intro w hSw; (try dsimp only at hSw); (first | (go_simp; done) | (go_simp; with_reducible rfl)))); (try simp only [Act.put, List.setIfInBounds_toArray, List.set_cons_zero, List.set_cons_succ])); (refine wpAnyE_take (i := 2) (oi := ?_) (v := ?_) ?_ (by kernel_rfl) ?_ ?_ (by assumption) ?_; rotate_left 2; (focus ((simp only [List.getElem?_toArray, List.getElem?_cons_succ, List.getElem?_cons_zero]; exact rfl))); (focus (exact fun _ _ _ h => h)); (focus (refine Or.inl ⟨by rfl, ?_⟩; intro w hSw; (try dsimp only at hSw); (first | (go_simp; done) | (go_simp; with_reducible rfl)))); (try simp only [Act.put, List.setIfInBounds_toArray, List.set_cons_zero, List.set_cons_succ])); (refine wpAnyE_take (i := 3) (oi := ?_) (v := ?_) ?_ (by kernel_rfl) ?_ ?_ (by assumption) ?_; rotate_left 2; (focus ((simp only [List.getElem?_toArray, List.getElem?_cons_succ, List.getElem?_cons_zero]; exact rfl))); (focus (exact fun _ _ _ h => h)); (focus (refine Or.inl ⟨by rfl, ?_⟩; intro w hSw; (try dsimp only at hSw); (first | (go_simp; done) | (go_simp; with_reducible rfl)))); (try simp only [Act.put, List.setIfInBounds_toArray, List.set_cons_zero, List.set_cons_succ])); (refine wpAnyE_take (i := 4) (oi := ?_) (v := ?_) ?_ (by kernel_rfl) ?_ ?_ (by assumption) ?_; rotate_left 2; (focus ((simp only [List.getElem?_toArray, List.getElem?_cons_succ, List.getElem?_cons_zero]; exact rfl))); (focus (exact fun _ _ _ h => h)); (focus (refine Or.inl ⟨by rfl, ?_⟩; intro w hSw; (try dsimp only at hSw); (first | (go_simp; done) | (go_simp; with_reducible rfl)))); (try simp only [Act.put, List.setIfInBounds_toArray, List.set_cons_zero, List.set_cons_succ])); (refine wpAnyE_take (i := 5) (oi := ?_) (v := ?_) ?_ (by kernel_rfl) ?_ ?_ (by assumption) ?_; rotate_left 2; (focus ((simp only [List.getElem?_toArray, List.getElem?_cons_succ, List.getElem?_cons_zero]; exact rfl))); (focus (exact fun _ _ _ h => h)); (focus (refine Or.inl ⟨by rfl, ?_⟩; intro w hSw; (try dsimp only at hSw); (first | (go_simp; done) | (go_simp; with_reducible rfl)))); (try simp only [Act.put, List.setIfInBounds_toArray, List.set_cons_zero, List.set_cons_succ])); (refine wpAnyE_take (i := 6) (oi := ?_) (v := ?_) ?_ (by kernel_rfl) ?_ ?_ (by assumption) ?_; rotate_left 2; (focus ((simp only [List.getElem?_toArray, List.getElem?_cons_succ, List.getElem?_cons_zero]; exact rfl))); (focus (exact fun _ _ _ h => h)); (focus (refine Or.inl ⟨by rfl, ?_⟩; intro w hSw; (try dsimp only at hSw); (first | (go_simp; done) | (go_simp; with_reducible rfl)))); (try simp only [Act.put, List.setIfInBounds_toArray, List.set_cons_zero, List.set_cons_succ])); (refine wpAnyE_take (i := 7) (oi := ?_) (v := ?_) ?_ (by kernel_rfl) ?_ ?_ (by assumption) ?_; rotate_left 2; (focus ((simp only [List.getElem?_toArray, List.getElem?_cons_succ, List.getElem?_cons_zero]; exact rfl))); (focus (exact fun _ _ _ h => h)); (focus (refine Or.inl ⟨by rfl, ?_⟩; intro w hSw; (try dsimp only at hSw); (first | (go_simp; done) | (go_simp; with_reducible rfl)))); (try simp only [Act.put, List.setIfInBounds_toArray, List.set_cons_zero, List.set_cons_succ])); (refine wpAnyE_take (i := 8) (oi := ?_) (v := ?_) ?_ (by kernel_rfl) ?_ ?_ (by assumption) ?_; rotate_left 2; (focus ((simp only [List.getElem?_toArray, List.getElem?_cons_succ, List.getElem?_cons_zero]; exact rfl))); (focus (exact fun _ _ _ h => h)); (focus (refine Or.inl ⟨by rfl, ?_⟩; intro w hSw; (try dsimp only at hSw); (first | (go_simp; done) | (go_simp; with_reducible rfl)))); (try simp only [Act.put, List.setIfInBounds_toArray, List.set_cons_zero, List.set_cons_succ])); (refine wpAnyE_take (i := 9) (oi := ?_) (v := ?_) ?_ (by kernel_rfl) ?_ ?_ (by assumption) ?_; rotate_left 2; (focus ((simp only [List.getElem?_toArray, List.getElem?_cons_succ, List.getElem?_cons_zero]; exact rfl))); (focus (exact fun _ _ _ h => h)); (focus (refine Or.inl ⟨by rfl, ?_⟩; intro w hSw; (try dsimp only at hSw); (first | (go_simp; done) | (go_simp; with_reducible rfl)))); (try simp only [Act.put, List.setIfInBounds_toArray, List.set_cons_zero, List.set_cons_succ])))
  clear hkle hkc hcapk
  have hlen1 : (l.drop k).length = l.length - k := List.length_drop
  have hlen2 : (l.take k).length = k := by rw [List.length_take]; omega
  obtain ⟨p1, hp1, hq1⟩ := ((HC.out.ext E4).drop k).pairsAt
  obtain ⟨p2, hp2, hq2⟩ := ((HC.out.ext E4).take k).pairsAt
  have hl1 : p1.length = l.length - k := by rw [← hlen1, ← hp1]; simp
  have hl2 : p2.length = k := by rw [← hlen2, ← hp2]; simp
  have hpl : Hid ((p1 ++ p2).map (·.2) = L) := by show _ = _; rw [List.map_append, hp1, hp2, HLL.out]
  have HQ1 := Lib.hid hq1
  have HQ2 := Lib.hid hq2
  have HL1 := Lib.hid hl1
  have HL2 := Lib.hid hl2
  clear hp1 hp2 hq1 hq2 hlen1 hlen2 hl1 hl2
  have E5 : Ext W3 (W3.alloc (.cells #[.slice (some ⟨b, off + k * 2, none⟩) (l.length - k) (cap - k), .slice (some ⟨b, off, none⟩) k cap] 22)) := (by repeat (first | with_reducible exact Ext.refl _ | with_reducible assumption | with_reducible apply Ext.drewN | with_reducible apply Ext.drew | with_reducible apply Ext.alloc | ((with_reducible refine Ext.set ?_ ?_ _); rotate_left; first | omega | (simp; omega)) | (with_reducible refine Ext.trans ?_ (by with_reducible assumption))))
  have q1 : (W3.alloc (.cells #[.slice (some ⟨b, off + k * 2, none⟩) (l.length - k) (cap - k), .slice (some ⟨b, off, none⟩) k cap] 22)).cell? ⟨W3.heap.size, 0, none⟩ = some (.slice (some ⟨b, off + k * 2, none⟩) (l.length - k) (cap - k)) := by go_simp
  have q2 : (W3.alloc (.cells #[.slice (some ⟨b, off + k * 2, none⟩) (l.length - k) (cap - k), .slice (some ⟨b, off, none⟩) k cap] 22)).cell? ⟨W3.heap.size, 1, none⟩ = some (.slice (some ⟨b, off, none⟩) k cap) := by go_simp
  (refine wpAnyE_one (i := 10) (o := ?_) ?_ (by kernel_rfl) (fun K hK => ?_); rotate_left; (focus ((simp only [List.getElem?_toArray, List.getElem?_cons_succ, List.getElem?_cons_zero]; exact rfl))); go_simp; refine hK.out _ _ ?_ (fun hHeld => ?_); rotate_left; clear hK K; (try simp only [Act.put, List.setIfInBounds_toArray, List.set_cons_zero, List.set_cons_succ]))
  rotate_left
  · exact ⟨E5.cell hS.1, E5.cell hS.2⟩
  obtain ⟨cb, hcb⟩ : ∃ cb, cb = W3.heap.size := ⟨_, rfl⟩
  rw [← hcb] at q1 q2 ⊢
  have d2 := (Below.frozen (p := ⟨w.heap.size + 1, 0, none⟩) E5 (cell_lt c2)).trans d2
  have d3 := (Below.frozen (p := ⟨w.heap.size + 1, 1, none⟩) E5 (cell_lt c3)).trans d3
  have c2 := E5.cell c2
  have c3 := E5.cell c3
  clear hcb hS
  generalize (W3.alloc (.cells #[.slice (some ⟨b, off + k * 2, none⟩) (l.length - k) (cap - k), .slice (some ⟨b, off, none⟩) k cap] 22)) = W4 at E5 q1 q2 hHeld d2 d3 c2 c3 ⊢
  have hcat := ConcatP_any p1 p2 _ hpl.out (some ⟨b, off + k * 2, none⟩) (some ⟨b, off, none⟩) (cap - k) cap cb W4 (HQ1.out.ext E5) (HQ2.out.ext E5) (by have := HL1.out; have := HL2.out; omega) (by have := HL1.out; omega) (by have := HL2.out; omega) (by rw [HL1.out]; exact q1) (by rw [HL2.out]; exact q2)
  have HCAT := Lib.hid hcat
  clear hcat q1 q2
  (refine wpAnyE_one (i := 11) (o := ?_) ?_ (by kernel_rfl) (fun K hK => ?_); rotate_left; (focus ((simp only [List.getElem?_toArray, List.getElem?_cons_succ, List.getElem?_cons_zero]; exact rfl))); go_simp; refine HCAT.out.mono ?_; rintro e w5 ⟨ra, rc, rfl, hrc, hrl, hE5⟩; have HRC := Lib.hid hrc; have HRL := Lib.hid hrl; clear hrc hrl; go_wp2_with fail; refine hK.out _ _ ?_ (fun hHeld => ?_); rotate_left; clear hK K; (try simp only [Act.put, List.setIfInBounds_toArray, List.set_cons_zero, List.set_cons_succ]))
  rotate_left
  · exact ⟨hE5.cell hHeld.1, hE5.cell hHeld.2⟩
  have d2 := (Below.frozen (p := ⟨w.heap.size + 1, 0, none⟩) hE5 (cell_lt c2)).trans d2
  have d3 := (Below.frozen (p := ⟨w.heap.size + 1, 1, none⟩) hE5 (cell_lt c3)).trans d3
  have c2 := hE5.cell c2
  have c3 := hE5.cell c3
  have E6 := (E4.trans E5).trans hE5
  clear HCAT
  (refine wpAnyE_take (i := 12) (oi := ?_) (v := ?_) ?_ (by kernel_rfl) ?_ ?_ (by assumption) ?_; rotate_left 2; (focus ((simp only [List.getElem?_toArray, List.getElem?_cons_succ, List.getElem?_cons_zero]; exact rfl))); (focus (exact fun _ _ _ h => h)); (focus (refine Or.inl ⟨by rfl, ?_⟩; intro w hSw; (try dsimp only at hSw); (first | (go_simp; done) | (go_simp; with_reducible rfl)))); (try simp only [Act.put, List.setIfInBounds_toArray, List.set_cons_zero, List.set_cons_succ]))
  have HCOP := Lib.hid (copied_any n L ra rc w5 (by omega) HFU.out HRC.out)
  (refine wpAnyE_one (i := 13) (o := ?_) ?_ (by kernel_rfl) (fun K hK => ?_); rotate_left; (focus ((simp only [List.getElem?_toArray, List.getElem?_cons_succ, List.getElem?_cons_zero]; exact rfl))); go_simp; refine HCOP.out.mono ?_; rintro e w6 ⟨rv, rfl, hrv, hE6⟩; have HRV := Lib.hid hrv; obtain ⟨ru, rfl, va, vc, rfl, _, _⟩ := hrv w6 (Chg.refl _ _); clear hrv; go_wp2_with fail; refine hK.out _ _ ?_ (fun hHeld => ?_); rotate_left; clear hK K; (try simp only [Act.put, List.setIfInBounds_toArray, List.set_cons_zero, List.set_cons_succ]))
  rotate_left
  · exact ⟨hE6.cell hHeld.1, hE6.cell hHeld.2⟩
  have d2 := (Below.frozen (p := ⟨w.heap.size + 1, 0, none⟩) hE6 (cell_lt c2)).trans d2
  have d3 := (Below.frozen (p := ⟨w.heap.size + 1, 1, none⟩) hE6 (cell_lt c3)).trans d3
  have hz := cell_lt c2
  dsimp only at hz
  have c2 := hE6.cell c2
  have c3 := hE6.cell c3
  clear HCOP
  have EF : Ext w ((w6.setCell ⟨w.heap.size + 1, 0, none⟩ (.int .i64 n)).setCell ⟨w.heap.size + 1, 1, none⟩ (.slice va L.length vc)) := by
    have E7 := E6.trans hE6
    exact (E7.set (by omega) _).set (by omega) _
  have HSV : Hid (SeqV ((w6.setCell ⟨w.heap.size + 1, 0, none⟩ (.int .i64 n)).setCell ⟨w.heap.size + 1, 1, none⟩ (.slice va L.length vc)) (.agg #[.int .i64 n, .slice va L.length vc]) (turned (n, l) k)) := by
    show SeqV _ _ _
    have := HRV.out ((w6.setCell ⟨w.heap.size + 1, 0, none⟩ (.int .i64 n)).setCell ⟨w.heap.size + 1, 1, none⟩ (.slice va L.length vc)) ((Chg.setCell (B := fun b => b < w5.heap.size) ⟨w.heap.size + 1, 0, none⟩ _ hz).trans (Chg.setCell (B := fun b => b < w5.heap.size) ⟨w.heap.size + 1, 1, none⟩ _ hz))
    rw [HLL.out] at this ⊢
    exact this
  (refine wpAnyE_one (i := 14) (o := ?_) ?_ (by kernel_rfl) (fun K hK => ?_); rotate_left; (focus ((simp only [List.getElem?_toArray, List.getElem?_cons_succ, List.getElem?_cons_zero]; exact rfl))); go_simp; refine hK.out _ _ ?_ (fun hHeld => ?_); rotate_left; clear hK K; (try simp only [Act.put, List.setIfInBounds_toArray, List.set_cons_zero, List.set_cons_succ]))
  rotate_left
  · exact ⟨by rw [World.cell?_setCell_other _ _ _ _ (fun h => by simp only [Addr.mk.injEq] at h; omega), World.cell?_setCell_other _ _ _ _ (fun h => by simp only [Addr.mk.injEq] at h; omega)]; exact hHeld.1, by rw [World.cell?_setCell_other _ _ _ _ (fun h => by simp only [Addr.mk.injEq] at h; omega), World.cell?_setCell_other _ _ _ _ (fun h => by simp only [Addr.mk.injEq] at h; omega)]; exact hHeld.2⟩
  (refine wpAnyE_take (i := 15) (oi := ?_) (v := ?_) ?_ (by kernel_rfl) ?_ ?_ (by assumption) ?_; rotate_left 2; (focus ((simp only [List.getElem?_toArray, List.getElem?_cons_succ, List.getElem?_cons_zero]; exact rfl))); (focus (exact fun _ _ _ h => h)); (focus (refine Or.inl ⟨by rfl, ?_⟩; intro w hSw; (try dsimp only at hSw); (first | (go_simp; done) | (go_simp; with_reducible rfl)))); (try simp only [Act.put, List.setIfInBounds_toArray, List.set_cons_zero, List.set_cons_succ]))
  refine wpAnyE_done (by kernel_rfl) ?_ _
  go_wp2
  exact bodyPost_ret (v := .tuple #[.agg #[.int .i64 n, .slice va L.length vc], .int .i64 0]) (by rw [results_cell_tmp1 rfl]; go_simp) rfl ⟨_, rfl, HSV.out, EF⟩

theorem seqV_zero (w : World) : SeqV w (.agg #[.int .i64 0, .slice none 0 0]) sq0 := ⟨_, rfl, none, 0, rfl, fun i hi => by simp [sq0] at hi, by simp [sq0], by simp, fun h => by simp [sq0] at h⟩
set_option maxHeartbeats 4000000 in
set_option maxRecDepth 100000 in
theorem From_any (n : Int) (l : List Stp) (k : Int) (a : Option Addr) (cap : Nat) (w : World) (hl : l.length ≤ maxLen) (hc : CellsP w a l) (hr : Room a l.length cap) :
    Calls Tryz.prog 15 #[.agg #[.int .i64 n, .slice a l.length cap], .int .i64 k] w (SeqErr (if fromE (n, l) k = 0 then turned (n, l) k.toNat else sq0) (fromE (n, l) k) w) := by
  by_cases hk : fromE (n, l) k = 0
  · have hp : 0 ≤ k ∧ 0 < l.length := by
      unfold fromE at hk
      by_cases h1 : ckSeq (n, l) = 0
      · rw [if_neg (by simp [h1])] at hk
        by_cases h2 : k < 0 ∨ (((n, l) : Sq).2.length : Int) ≤ k
        · rw [if_pos h2] at hk; cases hk
        · dsimp only at h2; omega
      · rw [if_pos h1] at hk; exact absurd hk h1
    obtain ⟨b, off, ha⟩ := hr.2.2 hp.2
    subst ha
    obtain ⟨K, rfl⟩ := Int.eq_ofNat_of_zero_le hp.1
    rw [if_pos hk, hk, Int.toNat_natCast]
    exact From_ok n l K b off cap w hl hc hr.1 hr.2.1 hk
  · rw [if_neg hk]
    have HC := Lib.hid hc
    have HL := Lib.hid hl
    have hl' := hl
    unfold maxLen at hl'
    clear hc hl hr
    have hzs : ∀ w, (zeroValue 24).run Tryz.prog w = .ok (.agg #[.int .i64 0, .slice none 0 0]) w := fun _ => by kernel_rfl
    go_enter Tryz.func15, Tryz.ntmps15
    go_wp2_with fail
    have E1 : Ext w ((w.alloc (.cells #[.int .i64 n, .slice a l.length cap] 24)).alloc (.cells #[.int .i64 0, .slice none 0 0] 24)) := (by repeat (first | with_reducible exact Ext.refl _ | with_reducible assumption | with_reducible apply Ext.drewN | with_reducible apply Ext.drew | with_reducible apply Ext.alloc | ((with_reducible refine Ext.set ?_ ?_ _); rotate_left; first | omega | (simp; omega)) | (with_reducible refine Ext.trans ?_ (by with_reducible assumption))))
    have c1 : ((w.alloc (.cells #[.int .i64 n, .slice a l.length cap] 24)).alloc (.cells #[.int .i64 0, .slice none 0 0] 24)).cell? ⟨w.heap.size, 1, none⟩ = some (.slice a l.length cap) := by go_simp
    have c2 : ((w.alloc (.cells #[.int .i64 n, .slice a l.length cap] 24)).alloc (.cells #[.int .i64 0, .slice none 0 0] 24)).cell? ⟨w.heap.size + 1, 0, none⟩ = some (.int .i64 0) := by go_simp
    have c3 : ((w.alloc (.cells #[.int .i64 n, .slice a l.length cap] 24)).alloc (.cells #[.int .i64 0, .slice none 0 0] 24)).cell? ⟨w.heap.size + 1, 1, none⟩ = some (.slice none 0 0) := by go_simp
    have d2 : ((w.alloc (.cells #[.int .i64 n, .slice a l.length cap] 24)).alloc (.cells #[.int .i64 0, .slice none 0 0] 24)).frozen? ⟨w.heap.size + 1, 0, none⟩ = false := by go_simp
    have d3 : ((w.alloc (.cells #[.int .i64 n, .slice a l.length cap] 24)).alloc (.cells #[.int .i64 0, .slice none 0 0] 24)).frozen? ⟨w.heap.size + 1, 1, none⟩ = false := by go_simp
    generalize ((w.alloc (.cells #[.int .i64 n, .slice a l.length cap] 24)).alloc (.cells #[.int .i64 0, .slice none 0 0] 24)) = W at E1 c1 c2 c3 d2 d3 ⊢
    refine (Pauses_any n l a cap _ HL.out (HC.out.ext E1)).mono ?_
    rintro e w1 ⟨pa, pc, rfl, hp1, hp2, hE⟩
    have E2 := E1.trans hE
    have d2 := (Below.frozen (p := ⟨w.heap.size + 1, 0, none⟩) hE (cell_lt c2)).trans d2
    have d3 := (Below.frozen (p := ⟨w.heap.size + 1, 1, none⟩) hE (cell_lt c3)).trans d3
    have c1 := hE.cell c1
    have c2 := hE.cell c2
    have c3 := hE.cell c3
    have EF : Ext w ((w1.setCell ⟨w.heap.size + 1, 0, none⟩ (.int .i64 0)).setCell ⟨w.heap.size + 1, 1, none⟩ (.slice none 0 0)) := (E2.set (by omega) _).set (by omega) _
    clear hE
    by_cases h1 : ckSeq (n, l) = 0
    · rw [if_pos h1] at hp1 hp2 ⊢
      rw [h1]
      have HP1 := Lib.hid hp1
      have HP2 := Lib.hid hp2
      have hp3 := hp2
      unfold maxLen at hp3
      clear hp1 hp2
      by_cases h2 : k < 0 ∨ (l.length : Int) ≤ k
      · have HF : Hid (fromE (n, l) k = 2) := by show _ = _; unfold fromE; rw [if_neg (by simp [h1]), if_pos h2]
        clear hk h1
        by_cases h3 : k < 0
        · clear h2
          go_wp2
          rw [HF.out]
          exact bodyPost_ret (v := .tuple #[.agg #[.int .i64 0, .slice none 0 0], .int .i64 2]) (by rw [results_cell_tmp1 rfl]; go_simp) rfl ⟨_, rfl, seqV_zero _, EF⟩
        · have h4 : (l.length : Int) ≤ k := by omega
          clear h2
          go_wp2
          rw [HF.out]
          exact bodyPost_ret (v := .tuple #[.agg #[.int .i64 0, .slice none 0 0], .int .i64 2]) (by rw [results_cell_tmp1 rfl]; go_simp) rfl ⟨_, rfl, seqV_zero _, EF⟩
      · have hx : fromE (n, l) k = if restsAt (n, l) k.toNat then 0 else 14 := by unfold fromE; rw [if_neg (by simp [h1]), if_neg h2]
        cases h3 : restsAt (n, l) k.toNat
        · have HF : Hid (fromE (n, l) k = 14) := by show _ = _; rw [hx, h3]; rfl
          have hmem : Hid (mem1 (pauses (n, l)) k = false) := by show _ = _; rw [pauses_mem n l k (by omega) (by omega), h3]
          have h4 : ¬ (k < 0) := by omega
          have h5 : ¬ ((l.length : Int) ≤ k) := by omega
          clear hk h1 h2 hx h3
          go_wp2_with fail
          refine (ContainsI_any (pauses (n, l)) k pa pc _ HP2.out HP1.out).mono ?_
          rintro e w2 ⟨rfl, hE⟩
          rw [hmem.out]
          have d2 := (Below.frozen (p := ⟨w.heap.size + 1, 0, none⟩) hE (cell_lt c2)).trans d2
          have d3 := (Below.frozen (p := ⟨w.heap.size + 1, 1, none⟩) hE (cell_lt c3)).trans d3
          have c2 := hE.cell c2
          have c3 := hE.cell c3
          have EF2 : Ext w ((w2.setCell ⟨w.heap.size + 1, 0, none⟩ (.int .i64 0)).setCell ⟨w.heap.size + 1, 1, none⟩ (.slice none 0 0)) := ((E2.trans hE).set (by omega) _).set (by omega) _
          go_wp2
          rw [HF.out]
          exact bodyPost_ret (v := .tuple #[.agg #[.int .i64 0, .slice none 0 0], .int .i64 14]) (by rw [results_cell_tmp1 rfl]; go_simp) rfl ⟨_, rfl, seqV_zero _, EF2⟩
        · rw [h3] at hx; exact absurd hx hk
    · have hn : (ckSeq (n, l) != 0) = true := by simp [h1]
      have HF : Hid (fromE (n, l) k = ckSeq (n, l)) := by show _ = _; unfold fromE; rw [if_pos h1]
      rw [if_neg h1] at hp1 hp2 ⊢
      clear hk h1
      generalize ckSeq (n, l) = x at hn HF ⊢
      go_wp2
      rw [HF.out]
      exact bodyPost_ret (v := .tuple #[.agg #[.int .i64 0, .slice none 0 0], .int .i64 x]) (by rw [results_cell_tmp1 rfl]; go_simp) rfl ⟨_, rfl, seqV_zero _, EF⟩
end Go.Proofs.YtnhbogmihnnpjaaGreat
/- The reference's read: the stroke of a word. -/
namespace Go.Proofs.YtnhbogmihnnpjaaGreat
open Go.RowKit

set_option maxHeartbeats 1000000 in
theorem written_any (x : Nat) (o : Bool) (w : World) (hx : x < 6) :
    Calls Tryz.prog 146 #[.agg #[.int .i64 (x : Int), .bool o]] w fun r w' => (∃ t : ByteArray, r = .returned (.string t) ∧ t.toList = wrB (x : Int) o) ∧ Ext w w' := by
  have hw1 : IntKind.i64.wrap ((x : Int) + 1) = (x : Int) + 1 := IntWalk.i64_in _ (by omega)
  have h1 : (0 : Int) ≤ (x : Int) + 1 := by omega
  have h2 : (x : Int) + 1 ≤ 6 := by omega
  have h3 : (x : Int) ≤ (x : Int) + 1 := by omega
  have h4 : ((x : Int) + 1).toNat = x + 1 := by omega
  have hx' : x = 0 ∨ x = 1 ∨ x = 2 ∨ x = 3 ∨ x = 4 ∨ x = 5 := by omega
  have E1 : Ext w (w.alloc (.cells #[.int .i64 (x : Int), .bool o] 73)) := (by repeat (first | with_reducible exact Ext.refl _ | with_reducible assumption | with_reducible apply Ext.drewN | with_reducible apply Ext.drew | with_reducible apply Ext.alloc | ((with_reducible refine Ext.set ?_ ?_ _); rotate_left; first | omega | (simp; omega)) | (with_reducible refine Ext.trans ?_ (by with_reducible assumption))))
  have HE := Lib.hid E1
  clear E1
  cases o
  · go_enter Tryz.func146, Tryz.ntmps146
    go_wp2
    go_ret
    refine ⟨⟨_, rfl, ?_⟩, HE.out⟩
    rw [ByteArray.toList_eq]
    rcases hx' with rfl | rfl | rfl | rfl | rfl | rfl <;> rfl
  · go_enter Tryz.func146, Tryz.ntmps146
    go_wp2
    go_ret
    refine ⟨⟨_, rfl, ?_⟩, HE.out⟩
    rw [ByteArray.toList_eq]
    rcases hx' with rfl | rfl | rfl | rfl | rfl | rfl <;> rfl
def rdOf : Option Stk → Stk × Bool
  | some x => (x, true)
  | none => (stk0, false)
set_option maxHeartbeats 4000000 in
theorem read_any (s : ByteArray) (w : World) (x : Stk) (bo : Bool) (h : rdOf (readL s.toList) = (x, bo)) :
    Calls Tryz.prog 138 #[.string s] w fun r w' => r = .returned (.tuple #[.agg #[.int .i64 x.1, .bool x.2], .bool bo]) ∧ Ext w w' := by
  have H0 : Hid (rdOf (rdGo s.toList (2 * 0)) = (x, bo)) := h
  clear h
  obtain ⟨xa, xo⟩ := x
  dsimp only
  go_enter Tryz.func138, Tryz.ntmps138
  go_wp2
  have E1 : Ext w (w.alloc (.cells #[.int .i64 0, .bool false] 73)) := (by repeat (first | with_reducible exact Ext.refl _ | with_reducible assumption | with_reducible apply Ext.drewN | with_reducible apply Ext.drew | with_reducible apply Ext.alloc | ((with_reducible refine Ext.set ?_ ?_ _); rotate_left; first | omega | (simp; omega)) | (with_reducible refine Ext.trans ?_ (by with_reducible assumption))))
  have c0 : (w.alloc (.cells #[.int .i64 0, .bool false] 73)).cell? ⟨w.heap.size, 0, none⟩ = some (.int .i64 0) := by go_simp
  have c1 : (w.alloc (.cells #[.int .i64 0, .bool false] 73)).cell? ⟨w.heap.size, 1, none⟩ = some (.bool false) := by go_simp
  have f0 : (w.alloc (.cells #[.int .i64 0, .bool false] 73)).frozen? ⟨w.heap.size, 0, none⟩ = false := by go_simp
  have f1 : (w.alloc (.cells #[.int .i64 0, .bool false] 73)).frozen? ⟨w.heap.size, 1, none⟩ = false := by go_simp
  generalize (w.alloc (.cells #[.int .i64 0, .bool false] 73)) = W at E1 c0 c1 f0 f1 ⊢
  go_loopw [4] (fun i wr => ∃ k : Nat, k ≤ 6 ∧ i = .int .i64 k ∧ Hid (rdOf (rdGo s.toList (2 * k)) = ((xa, xo), bo)) ∧ Ext W wr) (fun i _ => 6 - (intOf i).toNat)
  case atStart => exact ⟨0, by omega, rfl, H0, Ext.refl _⟩
  case round =>
    obtain ⟨k, hk, rfl, hz, he⟩ := hrel
    clear H0
    obtain ⟨wo, hwo⟩ : ∃ wo : World, wo = wr := ⟨_, rfl⟩
    subst hwo
    by_cases hlt : k < 6
    · go_wp2
      have E2 : Ext wo (wo.alloc (.cells #[.bool false, .bool true] 4)) := (by repeat (first | with_reducible exact Ext.refl _ | with_reducible assumption | with_reducible apply Ext.drewN | with_reducible apply Ext.drew | with_reducible apply Ext.alloc | ((with_reducible refine Ext.set ?_ ?_ _); rotate_left; first | omega | (simp; omega)) | (with_reducible refine Ext.trans ?_ (by with_reducible assumption))))
      have b0 : (wo.alloc (.cells #[.bool false, .bool true] 4)).cell? ⟨wo.heap.size, 0, none⟩ = some (.bool false) := by go_simp
      have b1 : (wo.alloc (.cells #[.bool false, .bool true] 4)).cell? ⟨wo.heap.size, 1, none⟩ = some (.bool true) := by go_simp
      generalize (wo.alloc (.cells #[.bool false, .bool true] 4)) = W2 at E2 b0 b1 ⊢
      have HZ0 : Hid (rdOf (rdGo s.toList (2 * k + 0)) = ((xa, xo), bo)) := hz
      clear hz
      have hki : (k : Int) < 6 := by omega
      (try simp only [decide_eq_true hki])
      clear hki
      go_loopw [14] (fun i wr => ∃ j : Nat, j ≤ 2 ∧ i = .int .i64 j ∧ Hid (rdOf (rdGo s.toList (2 * k + j)) = ((xa, xo), bo)) ∧ Ext W2 wr) (fun i _ => 2 - (intOf i).toNat)
      case atStart => exact ⟨0, by omega, rfl, HZ0, Ext.refl _⟩
      case round =>
        obtain ⟨j, hj, rfl, hz, hE⟩ := hrel
        clear HZ0
        have d0 := hE.cell b0
        have d1 := hE.cell b1
        by_cases hjl : j < 2
        · have dj : wr.cell? ⟨wo.heap.size, j, none⟩ = some (.bool (decide (j = 1))) := by
            have : j = 0 ∨ j = 1 := by omega
            rcases this with rfl | rfl
            · exact d0
            · exact d1
          have hst := rd_step s.toList k j hlt hjl
          have hz1 := hz.out
          rw [hst] at hz1
          have HZ1 := Lib.hid hz1
          clear hz1 hz hst d0 d1
          generalize hoo : decide (j = 1) = oo at dj HZ1
          go_wp2_with fail
          refine (written_any k oo _ hlt).mono ?_
          rintro e w3 ⟨⟨t, rfl, ht⟩, hE3⟩
          have E3 : Ext W2 w3 := (by repeat (first | with_reducible exact Ext.refl _ | with_reducible assumption | with_reducible apply Ext.drewN | with_reducible apply Ext.drew | with_reducible apply Ext.alloc | ((with_reducible refine Ext.set ?_ ?_ _); rotate_left; first | omega | (simp; omega)) | (with_reducible refine Ext.trans ?_ (by with_reducible assumption))))
          have g7 := hE3.cell (show (wr.alloc (.cells #[.int .i64 (k : Int), .bool oo] 73)).cell? ⟨wr.heap.size, 0, none⟩ = some (.int .i64 (k : Int)) by go_simp)
          have g8 := hE3.cell (show (wr.alloc (.cells #[.int .i64 (k : Int), .bool oo] 73)).cell? ⟨wr.heap.size, 1, none⟩ = some (.bool oo) by go_simp)
          have E4 := (he.trans E2).trans E3
          have k0 := E4.cell c0
          have k1 := E4.cell c1
          have m0 := (Below.frozen (p := ⟨w.heap.size, 0, none⟩) E4 (cell_lt c0)).trans f0
          have m1 := (Below.frozen (p := ⟨w.heap.size, 1, none⟩) E4 (cell_lt c1)).trans f1
          have hz1 := HZ1.out
          rw [← ht] at hz1
          clear HZ1 hE hE3 dj ht
          cases hq : (t.toList == s.toList)
          · rw [hq] at hz1
            have HZ : Hid (rdOf (rdGo s.toList (2 * k + (j + 1))) = ((xa, xo), bo)) := hz1
            clear hz1
            go_wp2
            refine ⟨⟨j + 1, by omega, by go_num, HZ, E3⟩, by simp [intOf]; omega⟩
          · rw [hq] at hz1
            have HZ : Hid ((k : Int) = xa ∧ oo = xo ∧ true = bo) := by
              simp only [if_true, rdOf, Prod.mk.injEq] at hz1
              exact ⟨hz1.1.1, hz1.1.2, hz1.2⟩
            clear hz1
            have EF : Ext w ((w3.setCell ⟨w.heap.size, 0, none⟩ (.int .i64 (k : Int))).setCell ⟨w.heap.size, 1, none⟩ (.bool oo)) := ((E1.trans E4).set (by omega) _).set (by omega) _
            go_wp2
            refine bodyPost_ret (v := .tuple #[.agg #[.int .i64 (k : Int), .bool oo], .bool true]) (by rw [results_cell_tmp1 rfl]; go_simp) rfl ⟨?_, EF⟩
            rw [HZ.out.1, HZ.out.2.1, HZ.out.2.2]
        · have hj2 : j = 2 := by omega
          subst hj2
          have HZ : Hid (rdOf (rdGo s.toList (2 * (k + 1))) = ((xa, xo), bo)) := hz
          clear hz
          go_wp2
          refine ⟨⟨k + 1, by omega, by go_num, HZ, (he.trans E2).trans hE⟩, by simp [intOf]; omega⟩
    · have hk6 : k = 6 := by omega
      subst hk6
      have HZ : Hid ((0 : Int) = xa ∧ false = xo ∧ false = bo) := by
        have hz1 := hz.out
        rw [show 2 * 6 = 12 from rfl, rd_end] at hz1
        simp only [rdOf, stk0, Prod.mk.injEq] at hz1
        exact ⟨hz1.1.1, hz1.1.2, hz1.2⟩
      clear hz
      have k0 := he.cell c0
      have k1 := he.cell c1
      have m0 := (Below.frozen (p := ⟨w.heap.size, 0, none⟩) he (cell_lt c0)).trans f0
      have m1 := (Below.frozen (p := ⟨w.heap.size, 1, none⟩) he (cell_lt c1)).trans f1
      have EF : Ext w ((wo.setCell ⟨w.heap.size, 0, none⟩ (.int .i64 0)).setCell ⟨w.heap.size, 1, none⟩ (.bool false)) := ((E1.trans he).set (by omega) _).set (by omega) _
      go_wp2
      refine bodyPost_ret (v := .tuple #[.agg #[.int .i64 0, .bool false], .bool false]) (by rw [results_cell_tmp1 rfl]; go_simp) rfl ⟨?_, EF⟩
      rw [← HZ.out.1, ← HZ.out.2.1, ← HZ.out.2.2]
end Go.Proofs.YtnhbogmihnnpjaaGreat
/- The reference's Number. -/
namespace Go.Proofs.YtnhbogmihnnpjaaGreat
open Go.RowKit

theorem toL_get (s : ByteArray) {k : Nat} (h : k < s.size) : s.toList.getD k 0 = s[k] := by
  have h' : k < s.data.size := h
  rw [ByteArray.toList_eq, List.getD_eq_getElem?_getD, Array.getElem?_toList, Array.getElem?_eq_getElem h']
  rfl
set_option maxHeartbeats 4000000 in
theorem Number_any (s : ByteArray) (N : Int) (w : World) (h : numL s.toList = some N) :
    Calls Tryz.prog 139 #[.string s] w fun r w' => r = .returned (.tuple #[.int .i64 N, .bool true]) ∧ Ext w w' := by
  unfold numL at h
  by_cases hg : s.toList.length < 2 ∨ 7 < s.toList.length ∨ s.toList.getD 0 0 = 48
  · rw [if_pos hg] at h; cases h
  rw [if_neg hg] at h
  rw [toL_len] at hg
  have H0 : Hid (numGo (s.toList.drop 0) 0 = some N) := h
  have h2 : 2 ≤ s.size := by omega
  have h7 : s.size ≤ 7 := by omega
  have h8 : ¬ ((7 : Int) < (s.size : Int)) := by omega
  have h9 : (1 : Int) < (s.size : Int) := by omega
  have hne : (s.toList == ([] : List UInt8)) = false := by
    rw [← toL_len] at h2
    cases hs : s.toList with
    | nil => rw [hs] at h2; simp at h2
    | cons c l => rfl
  have hb : (0 : Nat) < s.size := by omega
  have hgn : s.toList.getD 0 0 ≠ 48 := fun a => hg (.inr (.inr a))
  clear h hg
  have hg0 : ((s[0].toNat : Int) == 48) = false := by
    have e := toL_get s hb
    have g := hgn
    rw [e] at g
    have : s[0].toNat ≠ 48 := fun x => g (UInt8.toNat_inj.1 x)
    simpa using (show ((s[0].toNat : Int)) ≠ 48 by omega)
  clear hgn
  go_enter Tryz.func139, Tryz.ntmps139
  go_wp2
  go_loopw [5, 4] (fun i v wr => ∃ (k : Nat) (m : Int), k ≤ s.size ∧ i = .int .i64 k ∧ v = .int .i64 m ∧ 0 ≤ m ∧ Hid (m < 10 ^ k) ∧ Hid (numGo (s.toList.drop k) m = some N) ∧ w = wr) (fun i _ _ => s.size - (intOf i).toNat)
  case atStart => exact ⟨0, 0, by omega, rfl, rfl, by omega, by show (0 : Int) < 10 ^ 0; decide, H0, rfl⟩
  case round =>
    obtain ⟨k, m, hk, rfl, rfl, hm0, hm1, hz, rfl⟩ := hrel
    clear H0
    by_cases hlt : k < s.size
    · have hz1 := hz.out
      have e := toL_get s hlt
      rw [drop_cons s.toList 0 (by rw [toL_len]; exact hlt), e] at hz1
      unfold numGo at hz1
      by_cases hc : s[k] < 48 ∨ 57 < s[k]
      · rw [if_pos hc] at hz1; cases hz1
      rw [if_neg hc] at hz1
      have c1 : ¬ s[k].toNat < 48 := fun x => hc (.inl (UInt8.lt_iff_toNat_lt.2 x))
      have c2 : ¬ 57 < s[k].toNat := fun x => hc (.inr (UInt8.lt_iff_toNat_lt.2 x))
      have hp : (10 : Int) ^ k ≤ 10 ^ 6 := by
        have : 10 ^ k ≤ 10 ^ 6 := Nat.pow_le_pow_right (by omega) (by omega)
        exact_mod_cast this
      have hm2 := hm1.out
      have hsu : (10 : Int) ^ (k + 1) = 10 ^ k * 10 := Int.pow_succ ..
      have hp6 : (10 : Int) ^ 6 = 1000000 := by decide
      have HZ := Lib.hid hz1
      have HM : Hid (10 * m + ((s[k].toNat : Int) - 48) < 10 ^ (k + 1)) := by show _ < _; rw [hsu]; omega
      have d1 : ¬ ((s[k].toNat : Int) < 48) := by omega
      have d2 : ¬ (57 < (s[k].toNat : Int)) := by omega
      have w1 : IntKind.u8.wrap ((s[k].toNat : Int) - 48) = (s[k].toNat : Int) - 48 := IntWalk.u8_in _ (by omega)
      have w2 : IntKind.i64.wrap ((s[k].toNat : Int) - 48) = (s[k].toNat : Int) - 48 := IntWalk.i64_in _ (by omega)
      have w3 : IntKind.i64.wrap (10 * m) = 10 * m := IntWalk.i64_in _ (by omega)
      have w4 : IntKind.i64.wrap (10 * m + ((s[k].toNat : Int) - 48)) = 10 * m + ((s[k].toNat : Int) - 48) := IntWalk.i64_in _ (by omega)
      have hq0 : 0 ≤ 10 * m + ((s[k].toNat : Int) - 48) := by omega
      clear hz hz1 hm1 hm2 hsu hc e hp hp6
      generalize hch : s[k].toNat = ch at d1 d2 w1 w2 w3 w4 c1 c2 HZ HM hq0
      go_wp2
      refine ⟨⟨k + 1, _, by omega, by go_num, rfl, hq0, HM, HZ, trivial⟩, by simp [intOf]; omega⟩
    · have hz1 := hz.out
      rw [List.drop_eq_nil_of_le (by rw [toL_len]; omega)] at hz1
      have HN : Hid (m = N) := by show m = N; exact Option.some.inj hz1
      clear hz hz1
      go_wp2
      go_ret2
      have hmn := HN.out
      subst hmn
      exact ⟨rfl, Ext.refl _⟩
end Go.Proofs.YtnhbogmihnnpjaaGreat
/- The reference's Rests and Pauses. -/
namespace Go.Proofs.YtnhbogmihnnpjaaGreat
open Go.RowKit

set_option maxHeartbeats 2000000 in
theorem RestsR_any (N : Nat) (l : List Stp) (q : Nat) (a : Option Addr) (cap : Nat) (w : World) (hl : l.length ≤ maxLen) (hc : CellsP w a l) (h0 : 0 < N) (hn : N ≤ 6) (hq : q ≤ l.length) (hf : Fine N l) :
    Calls Tryz.prog 49 #[.agg #[.int .i64 (N : Int), .slice a l.length cap], .int .i64 (q : Int)] w fun r w' => r = .returned (.bool (restsAt ((N : Int), l) q)) ∧ Ext w w' := by
  have HC := Lib.hid hc
  have HL := Lib.hid hl
  have HF := Lib.hid hf
  clear hc hl hf
  go_enter Tryz.func49, Tryz.ntmps49
  go_wp2_with fail
  have E1 : Ext w (w.alloc (.cells #[.int .i64 (N : Int), .slice a l.length cap] 24)) := (by repeat (first | with_reducible exact Ext.refl _ | with_reducible assumption | with_reducible apply Ext.drewN | with_reducible apply Ext.drew | with_reducible apply Ext.alloc | ((with_reducible refine Ext.set ?_ ?_ _); rotate_left; first | omega | (simp; omega)) | (with_reducible refine Ext.trans ?_ (by with_reducible assumption))))
  refine (BehindR_any N l q a cap _ HL.out (HC.out.ext E1) h0 hn hq HF.out).mono ?_
  rintro e w1 ⟨g, c, rfl, hb, hg, hE⟩
  have HB := Lib.hid hb
  have E2 := E1.trans hE
  have HR : Hid (restsAt ((N : Int), l) q = !hasB N (behAll none6 (l.take q)) true) := by show _ = _; rw [rests_hasB, Bool.not_not]
  clear hb hE E1
  generalize behAll none6 (l.take q) = f at HB HR
  go_wp2
  go_loop [6] (fun i => ∃ k : Nat, k ≤ N ∧ i = .int .i64 k ∧ Hid (∀ j : Nat, j < k → f j ≠ true)) (fun i => N - (intOf i).toNat)
  case atStart => exact ⟨0, Nat.zero_le _, rfl, fun j hj => by omega⟩
  case round =>
    obtain ⟨k, hk, rfl, hnn⟩ := hrel
    by_cases hlt : k < N
    · have m1 := (HB.out k hlt).1
      cases hx : f k
      · have HN : Hid (∀ j : Nat, j < k + 1 → f j ≠ true) := fun j hj => by
          rcases Nat.lt_or_eq_of_le (Nat.le_of_lt_succ hj) with h | rfl
          · exact hnn.out j h
          · rw [hx]; simp
        rw [hx] at m1
        clear hx
        go_wp2
        refine ⟨⟨k + 1, by omega, by go_num, HN⟩, by simp [intOf]; omega⟩
      · have HN : Hid (restsAt ((N : Int), l) q = false) := by show _ = _; rw [HR.out, hasB_of hlt hx]; rfl
        rw [hx] at m1
        clear hx
        go_wp2
        go_ret
        exact ⟨ret_bool HN.out.symm, E2⟩
    · have HN : Hid (restsAt ((N : Int), l) q = true) := by show _ = _; rw [HR.out, hasB_none (fun j hj => hnn.out j (by omega))]; rfl
      go_wp2
      go_ret
      exact ⟨ret_bool HN.out.symm, E2⟩

set_option maxHeartbeats 4000000 in
set_option maxRecDepth 100000 in
theorem PausesR_any (n : Int) (l : List Stp) (a : Option Addr) (cap : Nat) (w : World) (hl : l.length ≤ maxLen) (hc : CellsP w a l) :
    Calls Tryz.prog 14 #[.agg #[.int .i64 n, .slice a l.length cap]] w (IntsPost (if ckSeq (n, l) = 0 then pauses (n, l) else []) (ckSeq (n, l)) w) := by
  have HC := Lib.hid hc
  have HL := Lib.hid hl
  clear hc hl
  by_cases hk : ckSeq (n, l) = 0
  · obtain ⟨hN1, hN6, hl0, hl64, hwk, _, _⟩ := ckSeq_zero hk
    obtain ⟨N, rfl⟩ := Int.eq_ofNat_of_zero_le (show 0 ≤ n by omega)
    have HFI := Lib.hid (ckWalk_fine hwk)
    rw [if_pos hk]
    have HCK := Lib.hid hk
    clear hk hwk
    obtain ⟨i0, hi, hi0, hi1, hi2⟩ := info_parts infoInt
    go_enter Tryz.func14, Tryz.ntmps14
    go_wp2_with fail
    have E1 : Ext w (w.alloc (.cells #[.int .i64 (N : Int), .slice a l.length cap] 24)) := (by repeat (first | with_reducible exact Ext.refl _ | with_reducible assumption | with_reducible apply Ext.drewN | with_reducible apply Ext.drew | with_reducible apply Ext.alloc | ((with_reducible refine Ext.set ?_ ?_ _); rotate_left; first | omega | (simp; omega)) | (with_reducible refine Ext.trans ?_ (by with_reducible assumption))))
    have c0 : (w.alloc (.cells #[.int .i64 (N : Int), .slice a l.length cap] 24)).cell? ⟨w.heap.size, 0, none⟩ = some (.int .i64 (N : Int)) := by go_simp
    have c1 : (w.alloc (.cells #[.int .i64 (N : Int), .slice a l.length cap] 24)).cell? ⟨w.heap.size, 1, none⟩ = some (.slice a l.length cap) := by go_simp
    generalize w.alloc (.cells #[.int .i64 (N : Int), .slice a l.length cap] 24) = W at E1 c0 c1 ⊢
    refine (CheckR_any (N : Int) l a cap _ HL.out (HC.out.ext E1)).mono ?_
    rintro e w1 ⟨rfl, hE⟩
    rw [HCK.out]
    have E2 := E1.trans hE
    have c0 := hE.cell c0
    have c1 := hE.cell c1
    clear hE E1
    go_wp2
    have zw : w.heap.size < w1.heap.size := cell_lt c0
    go_loopw [6, 5] (fun i v wr => ∃ k : Nat, k ≤ l.length ∧ i = .int .i64 k ∧ (∃ vv, v = vv ∧ Hid (OwnsI wr vv (pausesK ((N : Int), l) k) ∧ ∀ b, vv.ownBlock = some b → w1.heap.size ≤ b)) ∧ Ext w1 wr) (fun i _ _ => l.length - (intOf i).toNat)
    case atStart => exact ⟨0, Nat.zero_le _, rfl, ⟨_, rfl, OwnsI.nil _, fun b hb => by cases hb⟩, Ext.refl _⟩
    case round =>
      obtain ⟨k, hkl, rfl, ⟨vv, hvv, hO⟩, he⟩ := hrel
      obtain rfl := hvv.symm
      have d0 := he.cell c0
      have d1 := he.cell c1
      by_cases hlt : k < l.length
      · have hq := pausesK_len ((N : Int), l) k
        have hsz := he.size
        go_wp2_with fail
        refine (RestsR_any N l k a cap _ HL.out (HC.out.ext (E2.trans he)) (by omega) (by omega) hkl HFI.out).mono ?_
        rintro e w2 ⟨rfl, hE2⟩
        have F2 := he.trans hE2
        have O2 := Lib.hid (hO.out.1.ext hE2)
        have OB := Lib.hid hO.out.2
        have hsz2 := hE2.size
        have d0 := hE2.cell d0
        have d1 := hE2.cell d1
        clear hO
        cases hr : restsAt ((N : Int), l) k
        · have HR : Hid (pausesK ((N : Int), l) (k + 1) = pausesK ((N : Int), l) k) := by show _ = _; rw [pausesK_succ, hr]; simp
          clear hr
          go_wp2
          refine ⟨⟨k + 1, by omega, by go_num, ⟨vv, rfl, by rw [HR.out]; exact O2.out, OB.out⟩, F2⟩, by simp [intOf]; omega⟩
        · have HR : Hid (pausesK ((N : Int), l) (k + 1) = pausesK ((N : Int), l) k ++ [(k : Int)]) := by show _ = _; rw [pausesK_succ, hr]; simp
          clear hr
          generalize hP : pausesK ((N : Int), l) k = P at HR O2 hq
          clear hP
          go_wp2_with (at_builtin; refine wpList_append1 _ rfl _ _ 27 rfl 3 i0 (.int .i64 0) 1 8 Tryz.underlying27 hi hi0 hi1 hi2 rfl (by decide) vv P.length (P.map (Value.int .i64)) rfl ?ho ⟨w2.heap.size, 0, none⟩ 1 1 (by decide) [.int .i64 (k : Int)] rfl rfl ?hn ?c1 ?c2 ?c3 ?c4)
          case ho => exact O2.out.ext ((Ext.refl _).alloc _)
          case hn => exact cells_one _ _ _
          case c1 => intro u hu; simp at hu; subst hu; rfl
          case c2 => unfold maxLen; omega
          case c3 => omega
          case c4 =>
            intro v' w5 hown5 hend5
            have O5 : Hid (OwnsI w5 v' (pausesK ((N : Int), l) (k + 1))) := by show OwnsI _ _ _; rw [HR.out]; exact ownsI_succ hown5
            have B5 : Ext w1 w5 := (F2.trans ((Ext.refl _).alloc _)).trans' (hend5.below (n := w1.heap.size) (by simp; omega) OB.out) (Nat.le_refl _)
            have OB5 : Hid (∀ b, v'.ownBlock = some b → w1.heap.size ≤ b) := hend5.ge (n := w1.heap.size) (by simp; omega) OB.out
            clear hown5 hend5 O2 OB
            go_wp2
            refine ⟨⟨k + 1, by omega, by go_num, ⟨v', rfl, O5.out, OB5.out⟩, B5⟩, by simp [intOf]; omega⟩
      · have hke : k = l.length := by omega
        subst hke
        go_wp2
        go_ret2
        obtain ⟨ra, rc, hrv, hrc, hrl⟩ := hO.out.1.reads
        rw [HCK.out]
        exact ⟨ra, rc, by rw [hrv]; rfl, hrc, hrl, E2.trans he⟩
  · rw [if_neg hk]
    have hk' : (ckSeq (n, l) != 0) = true := by simp [hk]
    clear hk
    generalize hx : ckSeq (n, l) = x at hk'
    have HX := Lib.hid hx
    clear hx
    go_enter Tryz.func14, Tryz.ntmps14
    go_wp2_with fail
    have E1 : Ext w (w.alloc (.cells #[.int .i64 n, .slice a l.length cap] 24)) := (by repeat (first | with_reducible exact Ext.refl _ | with_reducible assumption | with_reducible apply Ext.drewN | with_reducible apply Ext.drew | with_reducible apply Ext.alloc | ((with_reducible refine Ext.set ?_ ?_ _); rotate_left; first | omega | (simp; omega)) | (with_reducible refine Ext.trans ?_ (by with_reducible assumption))))
    refine (CheckR_any n l a cap _ HL.out (HC.out.ext E1)).mono ?_
    rintro e w1 ⟨rfl, hE⟩
    rw [HX.out]
    go_wp2
    go_ret2
    exact ⟨none, 0, rfl, CellsI.nil _ _, by simp, E1.trans hE⟩
end Go.Proofs.YtnhbogmihnnpjaaGreat
/- The reference's Turned. -/
namespace Go.Proofs.YtnhbogmihnnpjaaGreat
open Go.RowKit

/-- a sequence is returned: it outlives whatever befalls the memory made since w0 -/
def SeqPost0 (w0 : World) (s : Sq) (w : World) (e : Ending) (w' : World) : Prop := ∃ v, e = .returned v ∧ (∀ B, Chg (fun b => w0.heap.size ≤ b ∧ b < w.heap.size) w' B → SeqV B v s) ∧ Ext w w'
structure TrSt (X : Nat → Prop) (o : Nat) (W0 wr : World) (n : Int) (ys : List Stp) : Prop where
  be : Below o W0 wr
  c0 : wr.cell? ⟨o, 0, none⟩ = some (.int .i64 n)
  f1 : wr.frozen? ⟨o, 1, none⟩ = false
  v : ∃ v, wr.cell? ⟨o, 1, none⟩ = some v ∧ OwnsP X wr v ys ∧ ∀ b, v.ownBlock = some b → o < b
def turnK (l : List Stp) (q k : Nat) : List Stp := (List.range k).map fun i => l.getD ((q + i) % l.length) stp0
theorem turnK_succ (l : List Stp) (q k : Nat) : turnK l q (k + 1) = turnK l q k ++ [l.getD ((q + k) % l.length) stp0] := by
  unfold turnK; rw [List.range_succ, List.map_append]; rfl
theorem turnK_len (l : List Stp) (q k : Nat) : (turnK l q k).length = k := by simp [turnK]
theorem turnK_end (l : List Stp) {q : Nat} (hq : q < l.length) : turnK l q l.length = l.drop q ++ l.take q := by
  apply list_ext_getD stp0
  · rw [turnK_len, List.length_append, List.length_drop, List.length_take]; omega
  · intro j hj
    rw [turnK_len] at hj
    have e1 : (turnK l q l.length).getD j stp0 = l.getD ((q + j) % l.length) stp0 := by simp [turnK, List.getD, hj]
    rw [e1]
    by_cases h : q + j < l.length
    · rw [Nat.mod_eq_of_lt h, List.getD_eq_getElem?_getD, List.getD_eq_getElem?_getD, List.getElem?_append_left (by rw [List.length_drop]; omega), List.getElem?_drop]
    · have e2 : (q + j) % l.length = q + j - l.length := by rw [Nat.mod_eq_sub_mod (by omega), Nat.mod_eq_of_lt (by omega)]
      rw [e2, List.getD_eq_getElem?_getD, List.getD_eq_getElem?_getD, List.getElem?_append_right (by rw [List.length_drop]; omega), List.length_drop, List.getElem?_take_of_lt (by omega)]
      congr 2
      omega

set_option maxHeartbeats 8000000 in
set_option maxRecDepth 100000 in
theorem TurnedR_any (n : Int) (l : List Stp) (q : Nat) (a : Option Addr) (cap : Nat) (w0 w : World) (hl : l.length ≤ 200) (hc : CellsP w0 a l) (E0 : Ext w0 w) (hq : q < l.length) :
    Calls Tryz.prog 52 #[.agg #[.int .i64 n, .slice a l.length cap], .int .i64 (q : Int)] w (SeqPost0 w0 (turned (n, l) q) w) := by
  have HC := Lib.hid hc
  clear hc
  obtain ⟨i0, hi, hi0, hi1, hi2⟩ := info_parts infoStp
  go_enter Tryz.func52, Tryz.ntmps52
  go_wp2
  have E1 : Ext w (((w.alloc (.cells #[.int .i64 n, .slice a l.length cap] 24)).alloc (.cells #[.int .i64 0, .slice none 0 0] 24)).alloc (.cells #[.int .i64 n, .slice none 0 0] 24)) := (by repeat (first | with_reducible exact Ext.refl _ | with_reducible assumption | with_reducible apply Ext.drewN | with_reducible apply Ext.drew | with_reducible apply Ext.alloc | ((with_reducible refine Ext.set ?_ ?_ _); rotate_left; first | omega | (simp; omega)) | (with_reducible refine Ext.trans ?_ (by with_reducible assumption))))
  have c1 : (((w.alloc (.cells #[.int .i64 n, .slice a l.length cap] 24)).alloc (.cells #[.int .i64 0, .slice none 0 0] 24)).alloc (.cells #[.int .i64 n, .slice none 0 0] 24)).cell? ⟨w.heap.size + 1, 0, none⟩ = some (.int .i64 0) := by go_simp
  have c2 : (((w.alloc (.cells #[.int .i64 n, .slice a l.length cap] 24)).alloc (.cells #[.int .i64 0, .slice none 0 0] 24)).alloc (.cells #[.int .i64 n, .slice none 0 0] 24)).cell? ⟨w.heap.size + 1, 1, none⟩ = some (.slice none 0 0) := by go_simp
  have c3 : (((w.alloc (.cells #[.int .i64 n, .slice a l.length cap] 24)).alloc (.cells #[.int .i64 0, .slice none 0 0] 24)).alloc (.cells #[.int .i64 n, .slice none 0 0] 24)).cell? ⟨w.heap.size + 1 + 1, 0, none⟩ = some (.int .i64 n) := by go_simp
  have c4 : (((w.alloc (.cells #[.int .i64 n, .slice a l.length cap] 24)).alloc (.cells #[.int .i64 0, .slice none 0 0] 24)).alloc (.cells #[.int .i64 n, .slice none 0 0] 24)).cell? ⟨w.heap.size + 1 + 1, 1, none⟩ = some (.slice none 0 0) := by go_simp
  have c5 : (((w.alloc (.cells #[.int .i64 n, .slice a l.length cap] 24)).alloc (.cells #[.int .i64 0, .slice none 0 0] 24)).alloc (.cells #[.int .i64 n, .slice none 0 0] 24)).cell? ⟨w.heap.size, 1, none⟩ = some (.slice a l.length cap) := by go_simp
  have f1 : (((w.alloc (.cells #[.int .i64 n, .slice a l.length cap] 24)).alloc (.cells #[.int .i64 0, .slice none 0 0] 24)).alloc (.cells #[.int .i64 n, .slice none 0 0] 24)).frozen? ⟨w.heap.size + 1, 0, none⟩ = false := by go_simp
  have f2 : (((w.alloc (.cells #[.int .i64 n, .slice a l.length cap] 24)).alloc (.cells #[.int .i64 0, .slice none 0 0] 24)).alloc (.cells #[.int .i64 n, .slice none 0 0] 24)).frozen? ⟨w.heap.size + 1, 1, none⟩ = false := by go_simp
  have f4 : (((w.alloc (.cells #[.int .i64 n, .slice a l.length cap] 24)).alloc (.cells #[.int .i64 0, .slice none 0 0] 24)).alloc (.cells #[.int .i64 n, .slice none 0 0] 24)).frozen? ⟨w.heap.size + 1 + 1, 1, none⟩ = false := by go_simp
  generalize (((w.alloc (.cells #[.int .i64 n, .slice a l.length cap] 24)).alloc (.cells #[.int .i64 0, .slice none 0 0] 24)).alloc (.cells #[.int .i64 n, .slice none 0 0] 24)) = W at E1 c1 c2 c3 c4 c5 f1 f2 f4 ⊢
  obtain ⟨o, ho⟩ : ∃ o, o = w.heap.size + 1 + 1 := ⟨_, rfl⟩
  have ho1 : w.heap.size + 1 < o := by omega
  have hoW : o < W.heap.size := by rw [ho]; exact cell_lt c3
  rw [← ho] at c3 c4 f4 ⊢
  have hw0 := E0.size
  have M0 : Hid (TrSt (fun b => w0.heap.size ≤ b ∧ b ≤ o) o W W n (turnK l q 0)) := ⟨Below.refl _ _, c3, f4, _, c4, OwnsP.nil _ _, fun b hb => by cases hb⟩
  clear c3 c4 f4 ho
  go_loopw [6] (fun i wr => ∃ k : Nat, k ≤ l.length ∧ i = .int .i64 k ∧ Hid (TrSt (fun b => w0.heap.size ≤ b ∧ b ≤ o) o W wr n (turnK l q k))) (fun i _ => l.length - (intOf i).toNat)
  case atStart => exact ⟨0, Nat.zero_le _, rfl, M0⟩
  case round =>
    obtain ⟨k, hk, rfl, M⟩ := hrel
    clear M0
    have hbe := M.out.be
    have E2 : Ext w wr := E1.trans' hbe (by omega)
    have hsz := hbe.size
    have how : o < wr.heap.size := by omega
    have d5 := cellB hbe (p := ⟨w.heap.size, 1, none⟩) (by show w.heap.size < _; omega) c5
    by_cases hlt : k < l.length
    · have hjl : (q + k) % l.length < l.length := Nat.mod_lt _ (by omega)
      obtain ⟨b, off, v, ha, p1, hv, p2⟩ := HC.out ((q + k) % l.length) hjl
      subst ha
      obtain ⟨sa, sc, rfl, hcs, hls⟩ := hv
      have p1 := E2.cell (E0.cell p1)
      have p2 := E2.cell (E0.cell p2)
      have HMS := Lib.hid (turnK_succ l q k)
      have hmk := turnK_len l q k
      have HCS := Lib.hid hcs
      have HLS := Lib.hid hls
      clear hcs hls
      generalize l.getD ((q + k) % l.length) stp0 = x at p1 p2 HCS HLS HMS
      obtain ⟨st, wait⟩ := x
      dsimp only at p1 p2 HCS HLS HMS
      obtain ⟨j, hj⟩ : ∃ j, j = (q + k) % l.length := ⟨_, rfl⟩
      rw [← hj] at p1 p2 hjl
      have hmod2 : ((q : Int) + (k : Int)) % (l.length : Int) = (j : Int) := by rw [hj, ← Int.natCast_add]; rfl
      have hmod : ((q : Int) + (k : Int)).tmod (l.length : Int) = (j : Int) := by rw [Int.tmod_eq_emod_of_nonneg (by omega)]; exact hmod2
      have hne : ¬ l = [] := by rintro rfl; simp at hlt
      have HJ := Lib.hid hj
      clear hj
      obtain ⟨ov, m1, m2, m3⟩ := M.out.v
      have m0 := M.out.c0
      have mf := M.out.f1
      have HM2 := Lib.hid m2
      have HM3 := Lib.hid m3
      clear m2 m3 M
      have EX : Ext wr wr.drew := (by repeat (first | with_reducible exact Ext.refl _ | with_reducible assumption | with_reducible apply Ext.drewN | with_reducible apply Ext.drew | with_reducible apply Ext.alloc | ((with_reducible refine Ext.set ?_ ?_ _); rotate_left; first | omega | (simp; omega)) | (with_reducible refine Ext.trans ?_ (by with_reducible assumption))))
      go_wp2
      refine wp_region_heldE 16 (fun w' => w'.cell? ⟨o, 1, none⟩ = some ov ∧ w'.cell? ⟨w.heap.size, 1, none⟩ = some (.slice (some ⟨b, off, none⟩) l.length cap) ∧ w'.cell? ⟨b, off + j * 2, none⟩ = some (.slice sa st.length sc) ∧ w'.cell? ⟨b, off + j * 2 + 1, none⟩ = some (.int .i64 wait)) (by kernel_rfl) ?_
      generalize wr.drew = W2 at EX ⊢
      have q1 := EX.cell m1
      have q0 := EX.cell m0
      have qf := (Below.frozen (p := ⟨o, 1, none⟩) EX (cell_lt m1)).trans mf
      have hS : W2.cell? ⟨o, 1, none⟩ = some ov ∧ W2.cell? ⟨w.heap.size, 1, none⟩ = some (.slice (some ⟨b, off, none⟩) l.length cap) ∧ W2.cell? ⟨b, off + j * 2, none⟩ = some (.slice sa st.length sc) ∧ W2.cell? ⟨b, off + j * 2 + 1, none⟩ = some (.int .i64 wait) := ⟨q1, EX.cell d5, EX.cell p1, EX.cell p2⟩
      have hwr : IntKind.i64.wrap ((q : Int) + (k : Int)) = (q : Int) + (k : Int) := IntWalk.i64_in _ (by omega)
      have hwj : IntKind.i64.wrap (j : Int) = (j : Int) := IntWalk.i64_in _ (by omega)
      have hj0 : (0 : Int) ≤ (j : Int) := by omega
      ((refine wpAnyE_take (i := 0) (oi := ?_) (v := ?_) ?_ (by kernel_rfl) ?_ ?_ (by assumption) ?_; rotate_left 2; (focus ((simp only [List.getElem?_toArray, List.getElem?_cons_zero]; exact rfl))); (focus (exact fun _ _ _ h => h)); (focus (refine Or.inl ⟨by rfl, ?_⟩; intro w hSw; (try dsimp only at hSw); (first | (go_simp; done) | (go_simp; with_reducible rfl)))); (try simp only [Act.put, List.setIfInBounds_toArray, List.set_cons_zero, List.set_cons_succ])); (refine wpAnyE_take (i := 1) (oi := ?_) (v := ?_) ?_ (by kernel_rfl) ?_ ?_ (by assumption) ?_; rotate_left 2; (focus ((simp only [List.getElem?_toArray, List.getElem?_cons_succ, List.getElem?_cons_zero]; exact rfl))); (focus (exact fun _ _ _ h => h)); (focus (refine Or.inl ⟨by rfl, ?_⟩; intro w hSw; (try dsimp only at hSw); (first | (go_simp; done) | (go_simp; with_reducible rfl)))); (try simp only [Act.put, List.setIfInBounds_toArray, List.set_cons_zero, List.set_cons_succ])); (refine wpAnyE_take (i := 2) (oi := ?_) (v := ?_) ?_ (by kernel_rfl) ?_ ?_ (by assumption) ?_; rotate_left 2; (focus ((simp only [List.getElem?_toArray, List.getElem?_cons_succ, List.getElem?_cons_zero]; exact rfl))); (focus (exact fun _ _ _ h => h)); (focus (refine Or.inl ⟨by rfl, ?_⟩; intro w hSw; (try dsimp only at hSw); (first | (go_simp; done) | (go_simp; with_reducible rfl)))); (try simp only [Act.put, List.setIfInBounds_toArray, List.set_cons_zero, List.set_cons_succ])); (refine wpAnyE_take (i := 3) (oi := ?_) (v := ?_) ?_ (by kernel_rfl) ?_ ?_ (by assumption) ?_; rotate_left 2; (focus ((simp only [List.getElem?_toArray, List.getElem?_cons_succ, List.getElem?_cons_zero]; exact rfl))); (focus (exact fun _ _ _ h => h)); (focus (refine Or.inl ⟨by rfl, ?_⟩; intro w hSw; (try dsimp only at hSw); (first | (go_simp; done) | (go_simp; with_reducible rfl)))); (try simp only [Act.put, List.setIfInBounds_toArray, List.set_cons_zero, List.set_cons_succ])); (refine wpAnyE_take (i := 4) (oi := ?_) (v := ?_) ?_ (by kernel_rfl) ?_ ?_ (by assumption) ?_; rotate_left 2; (focus ((simp only [List.getElem?_toArray, List.getElem?_cons_succ, List.getElem?_cons_zero]; exact rfl))); (focus (exact fun _ _ _ h => h)); (focus (refine Or.inl ⟨by rfl, ?_⟩; intro w hSw; (try dsimp only at hSw); (first | (go_simp; done) | (go_simp; with_reducible rfl)))); (try simp only [Act.put, List.setIfInBounds_toArray, List.set_cons_zero, List.set_cons_succ])); (refine wpAnyE_take (i := 5) (oi := ?_) (v := ?_) ?_ (by kernel_rfl) ?_ ?_ (by assumption) ?_; rotate_left 2; (focus ((simp only [List.getElem?_toArray, List.getElem?_cons_succ, List.getElem?_cons_zero]; exact rfl))); (focus (exact fun _ _ _ h => h)); (focus (refine Or.inl ⟨by rfl, ?_⟩; intro w hSw; (try dsimp only at hSw); (first | (go_simp; done) | (go_simp; with_reducible rfl)))); (try simp only [Act.put, List.setIfInBounds_toArray, List.set_cons_zero, List.set_cons_succ])); (refine wpAnyE_take (i := 6) (oi := ?_) (v := ?_) ?_ (by kernel_rfl) ?_ ?_ (by assumption) ?_; rotate_left 2; (focus ((simp only [List.getElem?_toArray, List.getElem?_cons_succ, List.getElem?_cons_zero]; exact rfl))); (focus (exact fun _ _ _ h => h)); (focus (refine Or.inl ⟨by rfl, ?_⟩; intro w hSw; (try dsimp only at hSw); (first | (go_simp; done) | (go_simp; with_reducible rfl)))); (try simp only [Act.put, List.setIfInBounds_toArray, List.set_cons_zero, List.set_cons_succ])); (refine wpAnyE_take (i := 7) (oi := ?_) (v := ?_) ?_ (by kernel_rfl) ?_ ?_ (by assumption) ?_; rotate_left 2; (focus ((simp only [List.getElem?_toArray, List.getElem?_cons_succ, List.getElem?_cons_zero]; exact rfl))); (focus (exact fun _ _ _ h => h)); (focus (refine Or.inl ⟨by rfl, ?_⟩; intro w hSw; (try dsimp only at hSw); (first | (go_simp; done) | (go_simp; with_reducible rfl)))); (try simp only [Act.put, List.setIfInBounds_toArray, List.set_cons_zero, List.set_cons_succ])); (refine wpAnyE_take (i := 8) (oi := ?_) (v := ?_) ?_ (by kernel_rfl) ?_ ?_ (by assumption) ?_; rotate_left 2; (focus ((simp only [List.getElem?_toArray, List.getElem?_cons_succ, List.getElem?_cons_zero]; exact rfl))); (focus (exact fun _ _ _ h => h)); (focus (refine Or.inl ⟨by rfl, ?_⟩; intro w hSw; (try dsimp only at hSw); (first | (go_simp; done) | (go_simp; with_reducible rfl)))); (try simp only [Act.put, List.setIfInBounds_toArray, List.set_cons_zero, List.set_cons_succ])); (refine wpAnyE_take (i := 9) (oi := ?_) (v := ?_) ?_ (by kernel_rfl) ?_ ?_ (by assumption) ?_; rotate_left 2; (focus ((simp only [List.getElem?_toArray, List.getElem?_cons_succ, List.getElem?_cons_zero]; exact rfl))); (focus (exact fun _ _ _ h => h)); (focus (refine Or.inl ⟨by rfl, ?_⟩; intro w hSw; (try dsimp only at hSw); (first | (go_simp; done) | (go_simp; with_reducible rfl)))); (try simp only [Act.put, List.setIfInBounds_toArray, List.set_cons_zero, List.set_cons_succ])); (refine wpAnyE_take (i := 10) (oi := ?_) (v := ?_) ?_ (by kernel_rfl) ?_ ?_ (by assumption) ?_; rotate_left 2; (focus ((simp only [List.getElem?_toArray, List.getElem?_cons_succ, List.getElem?_cons_zero]; exact rfl))); (focus (exact fun _ _ _ h => h)); (focus (refine Or.inl ⟨by rfl, ?_⟩; intro w hSw; (try dsimp only at hSw); (first | (go_simp; done) | (go_simp; with_reducible rfl)))); (try simp only [Act.put, List.setIfInBounds_toArray, List.set_cons_zero, List.set_cons_succ])); (refine wpAnyE_take (i := 11) (oi := ?_) (v := ?_) ?_ (by kernel_rfl) ?_ ?_ (by assumption) ?_; rotate_left 2; (focus ((simp only [List.getElem?_toArray, List.getElem?_cons_succ, List.getElem?_cons_zero]; exact rfl))); (focus (exact fun _ _ _ h => h)); (focus (refine Or.inl ⟨by rfl, ?_⟩; intro w hSw; (try dsimp only at hSw); (first | (go_simp; done) | (go_simp; with_reducible rfl)))); (try simp only [Act.put, List.setIfInBounds_toArray, List.set_cons_zero, List.set_cons_succ])); (refine wpAnyE_take (i := 12) (oi := ?_) (v := ?_) ?_ (by kernel_rfl) ?_ ?_ (by assumption) ?_; rotate_left 2; (focus ((simp only [List.getElem?_toArray, List.getElem?_cons_succ, List.getElem?_cons_zero]; exact rfl))); (focus (exact fun _ _ _ h => h)); (focus (refine Or.inl ⟨by rfl, ?_⟩; intro w hSw; (try dsimp only at hSw); (first | (go_simp; done) | (go_simp; with_reducible rfl)))); (try simp only [Act.put, List.setIfInBounds_toArray, List.set_cons_zero, List.set_cons_succ])))
      clear hwr hwj hj0 hmod hmod2 hne
      have E6 : Ext W2 (W2.alloc (.cells #[.slice sa st.length sc, .int .i64 wait] 87)) := (by repeat (first | with_reducible exact Ext.refl _ | with_reducible assumption | with_reducible apply Ext.drewN | with_reducible apply Ext.drew | with_reducible apply Ext.alloc | ((with_reducible refine Ext.set ?_ ?_ _); rotate_left; first | omega | (simp; omega)) | (with_reducible refine Ext.trans ?_ (by with_reducible assumption))))
      (refine wpAnyE_one (i := 13) (o := ?_) ?_ (by kernel_rfl) (fun K hK => ?_); rotate_left; (focus ((simp only [List.getElem?_toArray, List.getElem?_cons_succ, List.getElem?_cons_zero]; exact rfl))); go_simp; refine hK.out _ _ ?_ (fun hHeld => ?_); rotate_left; clear hK K; (try simp only [Act.put, List.setIfInBounds_toArray, List.set_cons_zero, List.set_cons_succ]))
      rotate_left
      · exact ⟨E6.cell hS.1, E6.cell hS.2.1, E6.cell hS.2.2.1, E6.cell hS.2.2.2⟩
      have ho6 : OwnsP (fun b => w0.heap.size ≤ b ∧ b ≤ o) (W2.alloc (.cells #[.slice sa st.length sc, .int .i64 wait] 87)) ov (turnK l q k) := HM2.out.chg (Chg.ext (EX.trans E6)) (fun b hb e => by have := HM3.out b hb; omega)
      have HO6 := Lib.hid ho6
      clear ho6 hS
      have hl6 : (turnK l q k).length = k := turnK_len l q k
      refine wpAnyE_one (i := 14) (o := ?_) ?_ (by kernel_rfl) (fun K hK => ?_)
      rotate_left
      · simp only [List.getElem?_toArray, List.getElem?_cons_succ, List.getElem?_cons_zero]; exact rfl
      refine step_append1 rfl _ _ 22 rfl 87 i0 (.agg #[.slice none 0 0, .int .i64 0]) 2 32 Tryz.underlying22 hi hi0 hi1 hi2 rfl (by decide) ov (turnK l q k).length _ rfl (Classical.choose_spec HO6.out).2.1 ⟨W2.heap.size, 0, none⟩ 1 1 (by decide) [.slice sa st.length sc, .int .i64 wait] rfl rfl (cells_one _ _ _) (by intro u hu; simp at hu; rcases hu with rfl | rfl <;> rfl) (by unfold maxLen; omega) (by omega) (fun v' w7 hown7 hend7 => ?_)
      have hw2 := EX.size
      have O7 : OwnsP (fun b => w0.heap.size ≤ b ∧ b ≤ o) w7 v' (turnK l q k ++ [(st, wait)]) := by
        refine OwnsP.app HO6.out ?_ (fun b hb => by have := E6.size; omega) hown7 hend7
        refine ⟨sa, sc, rfl, (HCS.out.ext E0).ext ((E2.trans EX).trans E6), HLS.out, fun b1 o1 hb1 hne hx => ?_⟩
        subst hb1
        obtain ⟨b2, o2, e2, g2, _⟩ := HCS.out 0 (List.length_pos_iff.2 hne)
        cases e2
        have hz := cell_lt g2
        dsimp only at hz
        rcases hx with hx | hx
        · omega
        · have := HM3.out _ hx; omega
      have hgr := hend7.chg
      have B7 : Below o (W2.alloc (.cells #[.slice sa st.length sc, .int .i64 wait] 87)) w7 := hend7.below (n := o) (by have := E6.size; omega) (fun b hb => by have := HM3.out b hb; omega)
      have V7 := hend7.ge (n := o + 1) (by have := E6.size; omega) (fun b hb => HM3.out b hb)
      have same7 : ∀ (p : Addr) (v : Value), p.block = o → (W2.alloc (.cells #[.slice sa st.length sc, .int .i64 wait] 87)).cell? p = some v → w7.cell? p = some v ∧ w7.frozen? p = (W2.alloc (.cells #[.slice sa st.length sc, .int .i64 wait] 87)).frozen? p := fun p v hp hc => by
        have h1 := hgr.1 p.block (cell_lt hc) (fun e => by have := HM3.out _ e; omega)
        exact ⟨(World.cell?_of_block (w := W2.alloc (.cells #[.slice sa st.length sc, .int .i64 wait] 87)) h1).trans hc, World.frozen?_of_block (w := W2.alloc (.cells #[.slice sa st.length sc, .int .i64 wait] 87)) h1⟩
      have zb : b < o := by
        obtain ⟨b2, o2, _, e2, g2, _⟩ := HC.out 0 (by omega)
        cases e2
        have hz := cell_lt g2
        dsimp only at hz
        omega
      refine hK.out _ _ ⟨(same7 ⟨o, 1, none⟩ _ rfl hHeld.1).1, cellB B7 (by show w.heap.size < _; omega) hHeld.2.1, cellB B7 zb hHeld.2.2.1, cellB B7 zb hHeld.2.2.2⟩ (fun hHeld => ?_)
      clear hK K
      (try simp only [Act.put, List.setIfInBounds_toArray, List.set_cons_zero, List.set_cons_succ])
      (refine wpAnyE_take (i := 15) (oi := ?_) (v := ?_) ?_ (by kernel_rfl) ?_ ?_ (by assumption) ?_; rotate_left 2; (focus ((simp only [List.getElem?_toArray, List.getElem?_cons_succ, List.getElem?_cons_zero]; exact rfl))); (focus (exact fun _ _ _ h => h)); (focus (refine Or.inl ⟨by rfl, ?_⟩; intro w hSw; (try dsimp only at hSw); (first | (go_simp; done) | (go_simp; with_reducible rfl)))); (try simp only [Act.put, List.setIfInBounds_toArray, List.set_cons_zero, List.set_cons_succ]))
      have HO7 := Lib.hid O7
      have HV7 := Lib.hid V7
      obtain ⟨va, vc, hvv, _, _⟩ := O7.reads
      have hlen : (turnK l q k ++ [(st, wait)]).length = k + 1 := by rw [List.length_append, hl6]; rfl
      rw [hlen] at hvv
      subst hvv
      clear O7 V7 hown7 hend7 hgr hlen
      have r0 := (same7 ⟨o, 0, none⟩ _ rfl (E6.cell q0)).1
      obtain ⟨r1, rf0⟩ := same7 ⟨o, 1, none⟩ _ rfl (E6.cell q1)
      have rf := (rf0.trans (Below.frozen (p := ⟨o, 1, none⟩) E6 (cell_lt q1))).trans qf
      clear rf0 hHeld same7
      (refine wpAnyE_free (i := 16) (o := ?_) ?_ (by kernel_rfl) (by kernel_rfl) (fun K hK => ?_); rotate_left; (focus ((simp only [List.getElem?_toArray, List.getElem?_cons_succ, List.getElem?_cons_zero]; exact rfl))); go_simp; refine hK.out _ _ ?_; clear hK K; (try simp only [Act.put, List.setIfInBounds_toArray, List.set_cons_zero, List.set_cons_succ]))
      refine wpAnyE_done (by kernel_rfl) ?_ _
      have MN : Hid (TrSt (fun b => w0.heap.size ≤ b ∧ b ≤ o) o W (w7.setCell ⟨o, 1, none⟩ (.slice va (k + 1) vc)) n (turnK l q (k + 1))) := by
        show TrSt _ _ _ _ _ _
        rw [HMS.out]
        have BB : Below o W w7 := (hbe.trans ((EX.trans E6).mono (by omega))).trans B7
        refine ⟨BB.setCell (p := ⟨o, 1, none⟩) (Nat.le_refl _) _, ?_, by rw [World.frozen?_setCell]; exact rf, _, World.cell?_setCell_same _ _ _ r1, HO7.out.chg (Chg.setCell (B := fun b => w0.heap.size ≤ b ∧ b ≤ o) ⟨o, 1, none⟩ _ ⟨by show w0.heap.size ≤ o; omega, Nat.le_refl _⟩) (fun b hb e => by have := HV7.out b hb; omega), fun b hb => by have := HV7.out b hb; omega⟩
        rw [World.cell?_setCell_other _ _ _ _ (fun h => by simp only [Addr.mk.injEq] at h; omega)]
        exact r0
      generalize w7.setCell ⟨o, 1, none⟩ (.slice va (k + 1) vc) = w8 at MN ⊢
      go_wp2
      refine ⟨⟨k + 1, by omega, by go_num, MN⟩, by simp [intOf]; omega⟩
    · have hke : k = l.length := by omega
      subst hke
      obtain ⟨v, m1, m2, m3⟩ := M.out.v
      have m0 := M.out.c0
      have HTE := Lib.hid (turnK_end l hq)
      have hmk := turnK_len l q l.length
      obtain ⟨va, vc, hvv, _, _⟩ := m2.reads
      rw [hmk] at hvv
      subst hvv
      have d1 := cellB hbe (p := ⟨w.heap.size + 1, 0, none⟩) ho1 c1
      have d2 := cellB hbe (p := ⟨w.heap.size + 1, 1, none⟩) ho1 c2
      have g1 := (Below.frozen (p := ⟨w.heap.size + 1, 0, none⟩) hbe ho1).trans f1
      have g2 := (Below.frozen (p := ⟨w.heap.size + 1, 1, none⟩) hbe ho1).trans f2
      have HFIN : Hid (∀ B, Chg (fun b => w0.heap.size ≤ b ∧ b < w.heap.size) ((wr.setCell ⟨w.heap.size + 1, 0, none⟩ (.int .i64 n)).setCell ⟨w.heap.size + 1, 1, none⟩ (.slice va l.length vc)) B → SliceP B (.slice va l.length vc) (l.drop q ++ l.take q)) := by
        intro B hB
        have hc : Chg (fun b => w0.heap.size ≤ b ∧ b ≤ o) wr ((wr.setCell ⟨w.heap.size + 1, 0, none⟩ (.int .i64 n)).setCell ⟨w.heap.size + 1, 1, none⟩ (.slice va l.length vc)) :=
          (Chg.setCell (B := fun b => w0.heap.size ≤ b ∧ b ≤ o) ⟨w.heap.size + 1, 0, none⟩ _ ⟨by show w0.heap.size ≤ w.heap.size + 1; omega, by show w.heap.size + 1 ≤ o; omega⟩).trans (Chg.setCell (B := fun b => w0.heap.size ≤ b ∧ b ≤ o) ⟨w.heap.size + 1, 1, none⟩ _ ⟨by show w0.heap.size ≤ w.heap.size + 1; omega, by show w.heap.size + 1 ≤ o; omega⟩)
        have h9 := (m2.chg (hc.trans (hB.mono (fun b hb => ⟨hb.1, by omega⟩))) (fun b hb e => by have := m3 b hb; omega)).reads
        rw [HTE.out] at h9
        exact h9
      have EF : Ext w ((wr.setCell ⟨w.heap.size + 1, 0, none⟩ (.int .i64 n)).setCell ⟨w.heap.size + 1, 1, none⟩ (.slice va l.length vc)) := (by repeat (first | with_reducible exact Ext.refl _ | with_reducible assumption | with_reducible apply Ext.drewN | with_reducible apply Ext.drew | with_reducible apply Ext.alloc | ((with_reducible refine Ext.set ?_ ?_ _); rotate_left; first | omega | (simp; omega)) | (with_reducible refine Ext.trans ?_ (by with_reducible assumption))))
      clear m2 m3 M hmk
      go_wp2
      refine bodyPost_ret (v := .agg #[.int .i64 n, .slice va l.length vc]) (by rw [results_cell1 rfl]; go_simp) rfl ⟨_, rfl, fun B hB => ⟨_, rfl, HFIN.out B hB⟩, EF⟩
end Go.Proofs.YtnhbogmihnnpjaaGreat
/- The reference's From. -/
namespace Go.Proofs.YtnhbogmihnnpjaaGreat
open Go.RowKit

set_option maxHeartbeats 4000000 in
set_option maxRecDepth 100000 in
theorem FromR_any (n : Int) (l : List Stp) (k : Int) (a : Option Addr) (cap : Nat) (w : World) (hl : l.length ≤ maxLen) (hc : CellsP w a l) :
    Calls Tryz.prog 16 #[.agg #[.int .i64 n, .slice a l.length cap], .int .i64 k] w (SeqErr (if fromE (n, l) k = 0 then turned (n, l) k.toNat else sq0) (fromE (n, l) k) w) := by
  have HC := Lib.hid hc
  have HL := Lib.hid hl
  have hl' := hl
  unfold maxLen at hl'
  clear hc hl
  have hzs : ∀ w, (zeroValue 24).run Tryz.prog w = .ok (.agg #[.int .i64 0, .slice none 0 0]) w := fun _ => by kernel_rfl
  obtain ⟨E, hE0⟩ : ∃ E, E = fromE (n, l) k := ⟨_, rfl⟩
  obtain ⟨R, hR0⟩ : ∃ R, R = (if fromE (n, l) k = 0 then turned (n, l) k.toNat else sq0) := ⟨_, rfl⟩
  rw [← hR0, ← hE0]
  have HE := Lib.hid hE0
  have HR := Lib.hid hR0
  clear hE0 hR0
  go_enter Tryz.func16, Tryz.ntmps16
  go_wp2_with fail
  have E1 : Ext w ((w.alloc (.cells #[.int .i64 n, .slice a l.length cap] 24)).alloc (.cells #[.int .i64 0, .slice none 0 0] 24)) := (by repeat (first | with_reducible exact Ext.refl _ | with_reducible assumption | with_reducible apply Ext.drewN | with_reducible apply Ext.drew | with_reducible apply Ext.alloc | ((with_reducible refine Ext.set ?_ ?_ _); rotate_left; first | omega | (simp; omega)) | (with_reducible refine Ext.trans ?_ (by with_reducible assumption))))
  have c0 : ((w.alloc (.cells #[.int .i64 n, .slice a l.length cap] 24)).alloc (.cells #[.int .i64 0, .slice none 0 0] 24)).cell? ⟨w.heap.size, 0, none⟩ = some (.int .i64 n) := by go_simp
  have c1 : ((w.alloc (.cells #[.int .i64 n, .slice a l.length cap] 24)).alloc (.cells #[.int .i64 0, .slice none 0 0] 24)).cell? ⟨w.heap.size, 1, none⟩ = some (.slice a l.length cap) := by go_simp
  have c2 : ((w.alloc (.cells #[.int .i64 n, .slice a l.length cap] 24)).alloc (.cells #[.int .i64 0, .slice none 0 0] 24)).cell? ⟨w.heap.size + 1, 0, none⟩ = some (.int .i64 0) := by go_simp
  have c3 : ((w.alloc (.cells #[.int .i64 n, .slice a l.length cap] 24)).alloc (.cells #[.int .i64 0, .slice none 0 0] 24)).cell? ⟨w.heap.size + 1, 1, none⟩ = some (.slice none 0 0) := by go_simp
  have d2 : ((w.alloc (.cells #[.int .i64 n, .slice a l.length cap] 24)).alloc (.cells #[.int .i64 0, .slice none 0 0] 24)).frozen? ⟨w.heap.size + 1, 0, none⟩ = false := by go_simp
  have d3 : ((w.alloc (.cells #[.int .i64 n, .slice a l.length cap] 24)).alloc (.cells #[.int .i64 0, .slice none 0 0] 24)).frozen? ⟨w.heap.size + 1, 1, none⟩ = false := by go_simp
  generalize ((w.alloc (.cells #[.int .i64 n, .slice a l.length cap] 24)).alloc (.cells #[.int .i64 0, .slice none 0 0] 24)) = W at E1 c0 c1 c2 c3 d2 d3 ⊢
  refine (CheckR_any n l a cap _ HL.out (HC.out.ext E1)).mono ?_
  rintro e w1 ⟨rfl, hE⟩
  have E2 := E1.trans hE
  have d2 := (Below.frozen (p := ⟨w.heap.size + 1, 0, none⟩) hE (cell_lt c2)).trans d2
  have d3 := (Below.frozen (p := ⟨w.heap.size + 1, 1, none⟩) hE (cell_lt c3)).trans d3
  have c0 := hE.cell c0
  have c1 := hE.cell c1
  have c2 := hE.cell c2
  have c3 := hE.cell c3
  have hz1 := cell_lt c2
  dsimp only at hz1
  have EF : Ext w ((w1.setCell ⟨w.heap.size + 1, 0, none⟩ (.int .i64 0)).setCell ⟨w.heap.size + 1, 1, none⟩ (.slice none 0 0)) := (E2.set (by omega) _).set (by omega) _
  clear hE E1
  by_cases h1 : ckSeq (n, l) = 0
  · obtain ⟨hN1, hN6, hl0, hl64, hwk, _, _⟩ := ckSeq_zero h1
    have HFI := Lib.hid (ckWalk_fine hwk)
    rw [h1]
    clear hwk
    by_cases h2 : k < 0 ∨ (l.length : Int) ≤ k
    · have HF : Hid (E = 2 ∧ R = sq0) := by
        have hx : fromE (n, l) k = 2 := by unfold fromE; rw [if_neg (by simp [h1]), if_pos h2]
        exact ⟨HE.out.trans hx, by rw [HR.out, hx]; rfl⟩
      clear h1
      by_cases h3 : k < 0
      · clear h2
        go_wp2
        rw [HF.out.1, HF.out.2]
        exact bodyPost_ret (v := .tuple #[.agg #[.int .i64 0, .slice none 0 0], .int .i64 2]) (by rw [results_cell_tmp1 rfl]; go_simp) rfl ⟨_, rfl, seqV_zero _, EF⟩
      · have h4 : (l.length : Int) ≤ k := by omega
        clear h2
        go_wp2
        rw [HF.out.1, HF.out.2]
        exact bodyPost_ret (v := .tuple #[.agg #[.int .i64 0, .slice none 0 0], .int .i64 2]) (by rw [results_cell_tmp1 rfl]; go_simp) rfl ⟨_, rfl, seqV_zero _, EF⟩
    · have hx : fromE (n, l) k = if restsAt (n, l) k.toNat then 0 else 14 := by unfold fromE; rw [if_neg (by simp [h1]), if_neg h2]
      have h4 : ¬ (k < 0) := by omega
      have h5 : ¬ ((l.length : Int) ≤ k) := by omega
      obtain ⟨K, rfl⟩ := Int.eq_ofNat_of_zero_le (show 0 ≤ k by omega)
      obtain ⟨N, rfl⟩ := Int.eq_ofNat_of_zero_le (show 0 ≤ n by omega)
      rw [Int.toNat_natCast] at hx HR
      have hrest := RestsR_any N l K a cap
      clear h1 h2
      go_wp2_with fail
      refine (hrest _ HL.out (HC.out.ext E2) (by omega) (by omega) (by omega) HFI.out).mono ?_
      clear hrest
      rintro e w2 ⟨rfl, hE⟩
      have E3 := E2.trans hE
      have d2 := (Below.frozen (p := ⟨w.heap.size + 1, 0, none⟩) hE (cell_lt c2)).trans d2
      have d3 := (Below.frozen (p := ⟨w.heap.size + 1, 1, none⟩) hE (cell_lt c3)).trans d3
      have c0 := hE.cell c0
      have c1 := hE.cell c1
      have c2 := hE.cell c2
      have c3 := hE.cell c3
      have hz2 := cell_lt c2
      dsimp only at hz2
      cases h3 : restsAt ((N : Int), l) K
      · have HF : Hid (E = 14 ∧ R = sq0) := by
          rw [h3] at hx
          exact ⟨HE.out.trans hx, by rw [HR.out, hx]; rfl⟩
        have EF2 : Ext w ((w2.setCell ⟨w.heap.size + 1, 0, none⟩ (.int .i64 0)).setCell ⟨w.heap.size + 1, 1, none⟩ (.slice none 0 0)) := (E3.set (by omega) _).set (by omega) _
        clear hx h3 hE
        go_wp2
        rw [HF.out.1, HF.out.2]
        exact bodyPost_ret (v := .tuple #[.agg #[.int .i64 0, .slice none 0 0], .int .i64 14]) (by rw [results_cell_tmp1 rfl]; go_simp) rfl ⟨_, rfl, seqV_zero _, EF2⟩
      · have HF : Hid (E = 0 ∧ R = turned ((N : Int), l) K) := by
          rw [h3] at hx
          exact ⟨HE.out.trans hx, by rw [HR.out, hx]; rfl⟩
        clear hx h3 hE
        go_wp2_with fail
        refine (TurnedR_any (N : Int) l K a cap w w2 (by omega) HC.out E3 (by omega)).mono ?_
        rintro e w3 ⟨rv, rfl, hrv, hE3⟩
        have HRV := Lib.hid hrv
        have hlen : (l.drop K ++ l.take K).length = l.length := by rw [List.length_append, List.length_drop, List.length_take]; omega
        obtain ⟨ru, rfl, va, vc, hru, _, _⟩ := hrv w3 (Chg.refl _ _)
        have hru' : ru = .slice va l.length vc := by rw [hru]; show Value.slice va (l.drop K ++ l.take K).length vc = _; rw [hlen]
        subst hru'
        have d2 := (Below.frozen (p := ⟨w.heap.size + 1, 0, none⟩) hE3 (cell_lt c2)).trans d2
        have d3 := (Below.frozen (p := ⟨w.heap.size + 1, 1, none⟩) hE3 (cell_lt c3)).trans d3
        have c2 := hE3.cell c2
        have c3 := hE3.cell c3
        have EF3 : Ext w ((w3.setCell ⟨w.heap.size + 1, 0, none⟩ (.int .i64 (N : Int))).setCell ⟨w.heap.size + 1, 1, none⟩ (.slice va l.length vc)) := ((E3.trans hE3).set (by omega) _).set (by omega) _
        have HSV : Hid (SeqV ((w3.setCell ⟨w.heap.size + 1, 0, none⟩ (.int .i64 (N : Int))).setCell ⟨w.heap.size + 1, 1, none⟩ (.slice va l.length vc)) (.agg #[.int .i64 (N : Int), .slice va l.length vc]) (turned ((N : Int), l) K)) :=
          HRV.out _ ((Chg.setCell (B := fun b => w.heap.size ≤ b ∧ b < w2.heap.size) ⟨w.heap.size + 1, 0, none⟩ _ ⟨by show w.heap.size ≤ w.heap.size + 1; omega, hz2⟩).trans (Chg.setCell (B := fun b => w.heap.size ≤ b ∧ b < w2.heap.size) ⟨w.heap.size + 1, 1, none⟩ _ ⟨by show w.heap.size ≤ w.heap.size + 1; omega, hz2⟩))
        clear hrv hru hlen
        have hturn : (turned ((N : Int), l) K).1 = (N : Int) := rfl
        rw [hturn]
        clear hturn
        go_wp2
        rw [HF.out.1, HF.out.2]
        exact bodyPost_ret (v := .tuple #[.agg #[.int .i64 (N : Int), .slice va l.length vc], .int .i64 0]) (by rw [results_cell_tmp1 rfl]; go_simp) rfl ⟨_, rfl, HSV.out, EF3⟩
  · have hn : (ckSeq (n, l) != 0) = true := by simp [h1]
    have HF : Hid (E = ckSeq (n, l) ∧ R = sq0) := by
      have hx : fromE (n, l) k = ckSeq (n, l) := by unfold fromE; rw [if_pos h1]
      exact ⟨HE.out.trans hx, by rw [HR.out, hx, if_neg h1]⟩
    clear h1
    generalize ckSeq (n, l) = x at hn HF ⊢
    go_wp2
    rw [HF.out.1, HF.out.2]
    exact bodyPost_ret (v := .tuple #[.agg #[.int .i64 0, .slice none 0 0], .int .i64 x]) (by rw [results_cell_tmp1 rfl]; go_simp) rfl ⟨_, rfl, seqV_zero _, EF⟩
end Go.Proofs.YtnhbogmihnnpjaaGreat
/- Sorting strokes by their actuators: the insertion sort. -/
namespace Go.Proofs.YtnhbogmihnnpjaaGreat
open Go.RowKit

def cmpI (a b : Int) : Int := if a < b then -1 else if b < a then 1 else 0
theorem isNaN_any (x : Int) (w : World) : Calls Tryz.prog 118 #[.int .i64 x] w fun e w' => e = .returned (.bool false) ∧ w = w' := by
  have h : (x != x) = false := by simp
  go_enter Tryz.func118, Tryz.ntmps118
  go_wp2
  go_ret
  exact ⟨rfl, rfl⟩
theorem Compare_any (a b : Int) (w : World) : Calls Tryz.prog 95 #[.int .i64 a, .int .i64 b] w fun e w' => e = .returned (.int .i64 (cmpI a b)) ∧ w = w' := by
  unfold cmpI
  by_cases h1 : a < b
  · have h2 : ¬ b < a := by omega
    go_enter Tryz.func95, Tryz.ntmps95
    go_wp2_with (go_at_call 118; (with_reducible refine (isNaN_any _ _).mono ?_); rintro e w' ⟨rfl, rfl⟩)
    all_goals go_ret
    all_goals exact ⟨ret_int (by first | (simp; done) | (simp; omega)), rfl⟩
  · by_cases h2 : b < a
    · go_enter Tryz.func95, Tryz.ntmps95
      go_wp2_with (go_at_call 118; (with_reducible refine (isNaN_any _ _).mono ?_); rintro e w' ⟨rfl, rfl⟩)
      all_goals go_ret
      all_goals exact ⟨ret_int (by first | (simp; done) | (simp; omega)), rfl⟩
    · go_enter Tryz.func95, Tryz.ntmps95
      go_wp2_with (go_at_call 118; (with_reducible refine (isNaN_any _ _).mono ?_); rintro e w' ⟨rfl, rfl⟩)
      all_goals go_ret
      all_goals exact ⟨ret_int (by first | (simp; done) | (simp; omega)), rfl⟩
theorem sorted1_any (x y : Stk) (w : World) : Calls Tryz.prog 94 #[.agg #[.int .i64 x.1, .bool x.2], .agg #[.int .i64 y.1, .bool y.2]] w fun e w' => e = .returned (.int .i64 (cmpI x.1 y.1)) ∧ Ext w w' := by
  go_enter Tryz.func94, Tryz.ntmps94
  go_wp2_with fail
  refine (Compare_any x.1 y.1 _).mono ?_
  rintro e w1 ⟨rfl, rfl⟩
  go_wp2
  go_ret
  exact ⟨rfl, (by repeat (first | with_reducible exact Ext.refl _ | with_reducible assumption | with_reducible apply Ext.drewN | with_reducible apply Ext.drew | with_reducible apply Ext.alloc | ((with_reducible refine Ext.set ?_ ?_ _); rotate_left; first | omega | (simp; omega)) | (with_reducible refine Ext.trans ?_ (by with_reducible assumption))))⟩

/-- strokes in a block of one's own -/
def StksAt (w : World) (b : Nat) (d : List Stk) : Prop := ∀ i, i < d.length → (w.cell? ⟨b, i * 2, none⟩ = some (.int .i64 (d.getD i stk0).1) ∧ w.cell? ⟨b, i * 2 + 1, none⟩ = some (.bool (d.getD i stk0).2)) ∧ w.frozen? ⟨b, i * 2, none⟩ = false ∧ w.frozen? ⟨b, i * 2 + 1, none⟩ = false
theorem StksAt.ext {A B : World} {b : Nat} {d : List Stk} (h : StksAt A b d) (k : Ext A B) : StksAt B b d := fun i hi => by
  obtain ⟨⟨h1, h2⟩, h3, h4⟩ := h i hi
  exact ⟨⟨k.cell h1, k.cell h2⟩, (Below.frozen (p := ⟨b, _, none⟩) k (cell_lt h1)).trans h3, (Below.frozen (p := ⟨b, _, none⟩) k (cell_lt h2)).trans h4⟩
theorem getD_set (d : List Stk) (i j : Nat) (x : Stk) (hi : i < d.length) : (d.set i x).getD j stk0 = if i = j then x else d.getD j stk0 := by
  rw [List.getD_eq_getElem?_getD, List.getD_eq_getElem?_getD, List.getElem?_set]
  by_cases h : i = j
  · subst h; rw [if_pos rfl, if_pos rfl, if_pos hi]; rfl
  · rw [if_neg h, if_neg h]
theorem StksAt.set {w : World} {b : Nat} {d : List Stk} (h : StksAt w b d) {i : Nat} (hi : i < d.length) (x : Stk) : StksAt ((w.setCell ⟨b, i * 2, none⟩ (.int .i64 x.1)).setCell ⟨b, i * 2 + 1, none⟩ (.bool x.2)) b (d.set i x) := fun j hj => by
  rw [List.length_set] at hj
  obtain ⟨⟨h1, h2⟩, h3, h4⟩ := h j hj
  obtain ⟨⟨k1, k2⟩, _, _⟩ := h i hi
  refine ⟨?_, by rw [World.frozen?_setCell, World.frozen?_setCell]; exact h3, by rw [World.frozen?_setCell, World.frozen?_setCell]; exact h4⟩
  rw [getD_set d i j x hi]
  by_cases e : i = j
  · subst e
    rw [if_pos rfl]
    refine ⟨?_, ?_⟩
    · rw [World.cell?_setCell_other _ _ _ _ (fun h => by simp only [Addr.mk.injEq] at h; omega), World.cell?_setCell_same _ _ _ k1]
    · rw [World.cell?_setCell_same _ _ (.bool x.2) (by rw [World.cell?_setCell_other _ _ _ _ (fun h => by simp only [Addr.mk.injEq] at h; omega)]; exact k2)]
  · rw [if_neg e]
    refine ⟨?_, ?_⟩
    · rw [World.cell?_setCell_other _ _ _ _ (fun h => by simp only [Addr.mk.injEq] at h; omega), World.cell?_setCell_other _ _ _ _ (fun h => by simp only [Addr.mk.injEq] at h; omega)]; exact h1
    · rw [World.cell?_setCell_other _ _ _ _ (fun h => by simp only [Addr.mk.injEq] at h; omega), World.cell?_setCell_other _ _ _ _ (fun h => by simp only [Addr.mk.injEq] at h; omega)]; exact h2

/-- insertion of x from the right into a list that is given from the right -/
def insR (x : Stk) : List Stk → List Stk
  | [] => [x]
  | y :: r => if x.1 < y.1 then y :: insR x r else x :: y :: r
/-- the list after the first k of l have been sorted -/
def sortR : List Stk → List Stk
  | [] => []
  | x :: r => insR x (sortR r)
/-- the strokes l after an insertion sort -/
def isortK (l : List Stk) : List Stk := (sortR l.reverse).reverse
theorem insR_length (x : Stk) (r : List Stk) : (insR x r).length = r.length + 1 := by
  induction r with
  | nil => rfl
  | cons y r ih => unfold insR; split <;> simp [ih]
theorem sortR_length (r : List Stk) : (sortR r).length = r.length := by
  induction r with
  | nil => rfl
  | cons x r ih => unfold sortR; rw [insR_length, ih]; rfl
theorem insR_mem (x z : Stk) (r : List Stk) : z ∈ insR x r ↔ z = x ∨ z ∈ r := by
  induction r with
  | nil => simp [insR]
  | cons y r ih =>
    unfold insR
    split
    · rw [List.mem_cons, ih, List.mem_cons]
      exact ⟨fun h => by rcases h with h | h | h <;> simp [h], fun h => by rcases h with h | h | h <;> simp [h]⟩
    · simp
theorem sortR_mem (z : Stk) (r : List Stk) : z ∈ sortR r ↔ z ∈ r := by
  induction r with
  | nil => rfl
  | cons x r ih => unfold sortR; rw [insR_mem, ih, List.mem_cons]
theorem isortK_mem (z : Stk) (l : List Stk) : z ∈ isortK l ↔ z ∈ l := by unfold isortK; rw [List.mem_reverse, sortR_mem, List.mem_reverse]
theorem isortK_length (l : List Stk) : (isortK l).length = l.length := by unfold isortK; rw [List.length_reverse, sortR_length, List.length_reverse]
/-- strictly descending -/
def Desc (r : List Stk) : Prop := r.Pairwise fun a b => b.1 < a.1
theorem insR_desc {x : Stk} {r : List Stk} (h : Desc r) (hx : ∀ y ∈ r, y.1 ≠ x.1) : Desc (insR x r) := by
  induction r with
  | nil => exact List.pairwise_singleton _ _
  | cons y r ih =>
    obtain ⟨h1, h2⟩ := List.pairwise_cons.1 h
    unfold insR
    by_cases c : x.1 < y.1
    · rw [if_pos c]
      refine List.pairwise_cons.2 ⟨fun z hz => ?_, ih h2 (fun z hz => hx z (List.mem_cons_of_mem _ hz))⟩
      rcases (insR_mem x z r).1 hz with rfl | hz
      · exact c
      · exact h1 z hz
    · rw [if_neg c]
      refine List.pairwise_cons.2 ⟨fun z hz => ?_, h⟩
      have := hx y (List.mem_cons_self ..)
      rcases List.mem_cons.1 hz with rfl | hz
      · omega
      · have := h1 z hz; omega
/-- all actuators are different -/
def Diff (l : List Stk) : Prop := l.Pairwise fun a b => a.1 ≠ b.1
theorem sortR_desc {r : List Stk} (h : Diff r) : Desc (sortR r) := by
  induction r with
  | nil => exact List.Pairwise.nil
  | cons x r ih =>
    obtain ⟨h1, h2⟩ := List.pairwise_cons.1 h
    exact insR_desc (ih h2) (fun y hy => fun e => h1 y ((sortR_mem y r).1 hy) e.symm)
def Asc (l : List Stk) : Prop := l.Pairwise fun a b => a.1 < b.1
theorem isortK_asc {l : List Stk} (h : Diff l) : Asc (isortK l) := by
  unfold isortK Asc
  rw [List.pairwise_reverse]
  exact sortR_desc (List.pairwise_reverse.2 (h.imp fun hab e => hab e.symm))
theorem asc_ext {l m : List Stk} (hl : Asc l) (hm : Asc m) (h : ∀ z, z ∈ l ↔ z ∈ m) : l = m := by
  induction l generalizing m with
  | nil =>
    cases m with
    | nil => rfl
    | cons y m => exact absurd ((h y).2 (List.mem_cons_self ..)) (by simp)
  | cons x l ih =>
    cases m with
    | nil => exact absurd ((h x).1 (List.mem_cons_self ..)) (by simp)
    | cons y m =>
      obtain ⟨l1, l2⟩ := List.pairwise_cons.1 hl
      obtain ⟨m1, m2⟩ := List.pairwise_cons.1 hm
      have hxy : x = y := by
        rcases List.mem_cons.1 ((h x).1 (List.mem_cons_self ..)) with e | hx
        · exact e
        · rcases List.mem_cons.1 ((h y).2 (List.mem_cons_self ..)) with e | hy
          · exact e.symm
          · have a1 := m1 x hx
            have a2 := l1 y hy
            omega
      subst hxy
      congr 1
      refine ih l2 m2 (fun z => ⟨fun hz => ?_, fun hz => ?_⟩)
      · rcases List.mem_cons.1 ((h z).1 (List.mem_cons_of_mem _ hz)) with e | hz'
        · have := l1 z hz; rw [e] at this; omega
        · exact hz'
      · rcases List.mem_cons.1 ((h z).2 (List.mem_cons_of_mem _ hz)) with e | hz'
        · have := m1 z hz; rw [e] at this; omega
        · exact hz'
theorem ordered_mem (z : Stk) (l : List Stk) : z ∈ ordered l ↔ z ∈ l ∧ 0 ≤ z.1 ∧ z.1 < 6 := by
  unfold ordered
  rw [List.mem_flatMap]
  refine ⟨fun ⟨a, ha, hz⟩ => ?_, fun ⟨h1, h2, h3⟩ => ⟨z.1, ?_, List.mem_filter.2 ⟨h1, by simp⟩⟩⟩
  · obtain ⟨h1, h2⟩ := List.mem_filter.1 hz
    have h2 : z.1 = a := by simpa using h2
    unfold ints at ha
    obtain ⟨i, hi, rfl⟩ := List.mem_map.1 ha
    have := List.mem_range.1 hi
    have e : z.1 = (i : Int) := h2
    exact ⟨h1, by omega, by omega⟩
  · unfold ints
    exact List.mem_map.2 ⟨z.1.toNat, List.mem_range.2 (by show z.1.toNat < 6; omega), by show ((z.1.toNat : Nat) : Int) = z.1; omega⟩
theorem ordered_asc {l : List Stk} (h : Diff l) : Asc (ordered l) := by
  have h1 : ∀ (ls : List Int), ls.Pairwise (· < ·) → Asc (ls.flatMap fun a => l.filter fun y => y.1 == a) := by
    intro ls
    induction ls with
    | nil => intro _; exact List.Pairwise.nil
    | cons a ls ih =>
      intro hp
      obtain ⟨p1, p2⟩ := List.pairwise_cons.1 hp
      rw [List.flatMap_cons]
      refine List.pairwise_append.2 ⟨?_, ih p2, fun x hx y hy => ?_⟩
      · have hd : Diff (l.filter fun y => y.1 == a) := h.sublist (List.filter_sublist)
        refine hd.imp_of_mem (fun {x y} hx hy hne => ?_)
        have e1 : x.1 = a := by simpa using (List.mem_filter.1 hx).2
        have e2 : y.1 = a := by simpa using (List.mem_filter.1 hy).2
        exact absurd (e1.trans e2.symm) hne
      · have e1 : x.1 = a := by simpa using (List.mem_filter.1 hx).2
        obtain ⟨c, hc, hy2⟩ := List.mem_flatMap.1 hy
        have e2 : y.1 = c := by simpa using (List.mem_filter.1 hy2).2
        have := p1 c hc
        omega
  exact h1 _ (by decide)
theorem isortK_ordered {l : List Stk} (h : Diff l) (hk : ∀ y ∈ l, 0 ≤ y.1 ∧ y.1 < 6) : isortK l = ordered l :=
  asc_ext (isortK_asc h) (ordered_asc h) fun z => by
    rw [isortK_mem, ordered_mem]
    exact ⟨fun hz => ⟨hz, hk z hz⟩, fun hz => hz.1⟩
end Go.Proofs.YtnhbogmihnnpjaaGreat
