/- The iterator around a cell. -/
import Derived.Test.YtfigooilhnahfaaGiven
import Derived.Test.YtfigooilhnahfaaRange
namespace Go.Proofs.Ytfigooilhnahfaa
open Go.RowKit
attribute [local go_sem] Oper.semAt_some

theorem Kept.cell {Kd : Nat → Prop} {n : Nat} {A B : World} (h : Kept Kd n A B) {p : Addr} {v : Value} (hk : Kd p.block) (hc : A.cell? p = some v) : B.cell? p = some v := by
  have hlt := cell_lt hc
  obtain ⟨o, ho⟩ : ∃ o, A.heap[p.block]? = some o := ⟨_, Array.getElem?_eq_getElem hlt⟩
  have hr : isRec o = false := by
    cases o <;> simp [World.cell?, ho] at hc <;> rfl
  exact (World.cell?_of_block (w := A) ((h.2 _ _ hk ho (.inl hr)).trans ho.symm)).trans hc
theorem Cells2.kept {Kd : Nat → Prop} {n : Nat} {A B : World} {a : Option Addr} {l : List Pt} (h : Kept Kd n A B) (hk : ∀ b off, a = some ⟨b, off, none⟩ → l ≠ [] → Kd b) (hc : Cells2 A a l) : Cells2 B a l := fun i hi => by
  obtain ⟨b, off, h1, h2, h3⟩ := hc i hi
  have hne : l ≠ [] := by intro e; simp [e] at hi
  exact ⟨b, off, h1, h.cell (hk b off h1 hne) h2, h.cell (hk b off h1 hne) h3⟩
theorem Cells2.lt {w : World} {a : Option Addr} {l : List Pt} (h : Cells2 w a l) (hne : l ≠ []) {b off : Nat} (ha : a = some ⟨b, off, none⟩) : b < w.heap.size := by
  obtain ⟨b', off', h1, h2, _⟩ := h 0 (List.length_pos_iff.2 hne)
  rw [ha] at h1
  cases h1
  exact cell_lt h2

def deltas : List Pt := [(-1, 0), (0, -1), (0, 1), (1, 0)]
theorem nbs_pt (p : Pt) (k : Nat) (h : k < 4) : (nbs p).take (k + 1) = (nbs p).take k ++ [(p.1 + (pt deltas k).1, p.2 + (pt deltas k).2)] := by
  have : k = 0 ∨ k = 1 ∨ k = 2 ∨ k = 3 := by omega
  rcases this with rfl | rfl | rfl | rfl <;> simp [nbs, deltas, pt] <;> omega
theorem deltas_bd (k : Nat) (h : k < 4) : -1 ≤ (pt deltas k).1 ∧ (pt deltas k).1 ≤ 1 ∧ -1 ≤ (pt deltas k).2 ∧ (pt deltas k).2 ≤ 1 := by
  have : k = 0 ∨ k = 1 ∨ k = 2 ∨ k = 3 := by omega
  rcases this with rfl | rfl | rfl | rfl <;> simp [deltas, pt]
theorem inside_bd {g : Gr} {p : Pt} (hr : Right g) (h : inside g p = true) : 0 ≤ p.1 ∧ p.1 < 64 ∧ 0 ≤ p.2 ∧ p.2 < 64 := by
  unfold inside at h
  simp only [Bool.and_eq_true, decide_eq_true_eq] at h
  have := hr.r2; have := hr.c2
  omega

theorem around_any (g : Gr) (p : Pt) (s : Value) (w : World) :
    Calls Try.prog 74 #[.agg #[.int .i64 g.rows, .int .i64 g.cols, s], .agg #[.int .i64 p.1, .int .i64 p.2]] w fun e w' => e = .returned (.func (.func 82) #[] #[.pointer (some ⟨w.heap.size + 1, 0, none⟩), .pointer (some ⟨w.heap.size, 0, none⟩)]) ∧
      (w.alloc (.cells #[.int .i64 g.rows, .int .i64 g.cols, s] 33)).alloc (.cells #[.int .i64 p.1, .int .i64 p.2] 26) = w' := by
  go_enter Try.func74, Try.ntmps74
  go_wp2
  go_ret
  exact ⟨rfl, rfl⟩

set_option maxHeartbeats 1000000 in
theorem around1_iter (g : Gr) (p : Pt) (ga : Option Addr) (gc : Nat) (w : World) (pb gb : Nat) (Md : Nat → Prop) (hr : Right g) (hp : inside g p = true)
    (p1 : w.cell? ⟨pb, 0, none⟩ = some (.int .i64 p.1)) (p2 : w.cell? ⟨pb, 1, none⟩ = some (.int .i64 p.2))
    (g1 : w.cell? ⟨gb, 0, none⟩ = some (.int .i64 g.rows)) (g2 : w.cell? ⟨gb, 1, none⟩ = some (.int .i64 g.cols)) (g3 : w.cell? ⟨gb, 2, none⟩ = some (.slice ga g.bl.length gc))
    (hc : Cells2 w ga g.bl) (m1 : ¬ Md pb) (m2 : ¬ Md gb) (m3 : g.bl ≠ [] → ∀ b off, ga = some ⟨b, off, none⟩ → ¬ Md b) :
    Iter Try.prog 82 #[.pointer (some ⟨pb, 0, none⟩), .pointer (some ⟨gb, 0, none⟩)] (fun q : Pt => #[.agg #[.int .i64 q.1, .int .i64 q.2]]) (near g p) (fun _ A B => Ext A B) (fun n k => (k < n ∧ ¬ Md k) ∨ k = n) 1 w := by
  intro l J Jx W hW hJ hJx hY h0
  have HR := Lib.hid hr
  have hbd := inside_bd hr hp
  have HC : Hid (Cells2 W ga g.bl) := hc.ext hW
  have p1 := hW.cell p1
  have p2 := hW.cell p2
  have g1 := hW.cell g1
  have g2 := hW.cell g2
  have g3 := hW.cell g3
  have HY := Lib.hid hY
  have HJ := Lib.hid hJ
  have HJx := Lib.hid hJx
  have Hp := Lib.hid hp
  clear hc hr hY hJ hJx hW hp
  refine callsIn_of_wp Try.func82 rfl trivial ?_ rfl
  simp only [Try.ntmps82, List.size_toArray, List.length_cons, List.length_nil, Nat.reduceAdd, Nat.reduceSub, Array.replicate_succ, Array.replicate_zero, List.push_toArray, List.append_toArray, List.nil_append, List.cons_append]
  gi_wp2
  have E0 : Ext W (W.alloc (.cells #[.int .i64 (-1), .int .i64 0, .int .i64 0, .int .i64 (-1), .int .i64 0, .int .i64 1, .int .i64 1, .int .i64 0] 26)) := (Ext.refl _).alloc _
  have D0 : Cells2 (W.alloc (.cells #[.int .i64 (-1), .int .i64 0, .int .i64 0, .int .i64 (-1), .int .i64 0, .int .i64 1, .int .i64 1, .int .i64 0] 26)) (some ⟨W.heap.size, 0, none⟩) deltas := fun i hi => by
    have : i = 0 ∨ i = 1 ∨ i = 2 ∨ i = 3 := by simp [deltas] at hi; omega
    refine ⟨W.heap.size, 0, rfl, ?_, ?_⟩ <;> (rcases this with rfl | rfl | rfl | rfl <;> simp [deltas, pt] <;> go_simp)
  have Z0 : W.heap.size + 1 ≤ (W.alloc (.cells #[.int .i64 (-1), .int .i64 0, .int .i64 0, .int .i64 (-1), .int .i64 0, .int .i64 1, .int .i64 1, .int .i64 0] 26)).heap.size := by simp
  generalize W.alloc (.cells #[.int .i64 (-1), .int .i64 0, .int .i64 0, .int .i64 (-1), .int .i64 0, .int .i64 1, .int .i64 1, .int .i64 0] 26) = W0 at E0 D0 Z0 ⊢
  have hbl : Hid (g.bl ≠ [] → ∀ b off, ga = some ⟨b, off, none⟩ → b < W.heap.size) := fun hne b off hb => HC.out.lt hne hb
  have zp : pb < W.heap.size := cell_lt p1
  have zg : gb < W.heap.size := cell_lt g1
  gi_loopw [13] (fun i wr => ∃ k : Nat, k ≤ 4 ∧ i = .int .i64 k ∧ Hid (J (((nbs p).take k).filter (opn g)) wr) ∧ W.heap.size + 1 ≤ wr.heap.size ∧
      wr.cell? ⟨pb, 0, none⟩ = some (.int .i64 p.1) ∧ wr.cell? ⟨pb, 1, none⟩ = some (.int .i64 p.2) ∧ wr.cell? ⟨gb, 0, none⟩ = some (.int .i64 g.rows) ∧ wr.cell? ⟨gb, 1, none⟩ = some (.int .i64 g.cols) ∧ wr.cell? ⟨gb, 2, none⟩ = some (.slice ga g.bl.length gc) ∧
      Hid (Cells2 wr ga g.bl) ∧ Hid (Cells2 wr (some ⟨W.heap.size, 0, none⟩) deltas)) (fun i _ => 4 - (intOf i).toNat)
  case atStart => exact ⟨0, by omega, rfl, HJ.out _ _ _ h0 E0, Z0, E0.cell p1, E0.cell p2, E0.cell g1, E0.cell g2, E0.cell g3, HC.out.ext E0, D0⟩
  case round =>
    clear p1 p2 g1 g2 g3 E0 D0 Z0 h0 HC
    obtain ⟨k, hk, rfl, hj, hz, p1, p2, g1, g2, g3, hc, hd⟩ := hrel
    have zp' : pb < wr.heap.size := by omega
    have zg' : gb < wr.heap.size := by omega
    have zd' : W.heap.size < wr.heap.size := by omega
    by_cases hlt : k < 4
    · obtain ⟨b, off, hb, e1, e2⟩ := hd.out k (by simpa [deltas] using hlt)
      cases hb
      simp only [Nat.zero_add] at e1 e2
      have db := deltas_bd k hlt
      generalize hδ : pt deltas k = δ at e1 e2 db
      have Hδ := Lib.hid hδ
      clear hδ
      have hi4 : (k : Int) < 4 := by omega
      have hnx : Hid (((nbs p).take (k + 1)).filter (opn g) = ((nbs p).take k).filter (opn g) ++ if opn g (p.1 + δ.1, p.2 + δ.2) = true then [(p.1 + δ.1, p.2 + δ.2)] else []) := by
        show _ = _
        rw [nbs_pt p k hlt, List.filter_append, Hδ.out]
        simp [List.filter_cons]
      cases hin : inside g (p.1 + δ.1, p.2 + δ.2)
      · have hno : Hid (opn g (p.1 + δ.1, p.2 + δ.2) = false) := by show _ = _; unfold opn; simp [hin]
        gi_wp2_with (refine ⟨trivial, rfl, ?_⟩; gi_at_call 64; refine (callsIn_wide.2 (inside_any g (p.1 + δ.1, p.2 + δ.2) _ _)).mono ?_; rintro e w1 ⟨rfl, hE⟩; have hX : Ext wr w1 := (((Ext.refl _).alloc _).alloc _).trans hE; have a1 := hX.cell g1; have a2 := hX.cell g2; have a3 := hX.cell g3; have q1 : w1.cell? ⟨wr.heap.size + 1, 0, none⟩ = some (.int .i64 (p.1 + δ.1)) := hE.cell (by go_simp); have q2 : w1.cell? ⟨wr.heap.size + 1, 1, none⟩ = some (.int .i64 (p.2 + δ.2)) := hE.cell (by go_simp))
        refine ⟨trivial, ?_⟩
        gi_wp2
        refine ⟨(fun _ h => by cases h), ?_⟩
        gi_wp2
        refine ⟨⟨k + 1, by omega, by go_num, by unfold Hid; rw [hnx.out, hno.out]; simpa using HJ.out _ _ _ hj hX, by have := hX.size; omega, hX.cell p1, hX.cell p2, hX.cell g1, hX.cell g2, hX.cell g3, hc.out.ext hX, hd.out.ext hX⟩, by simp [intOf]; omega⟩
      · cases hbk : blk g (p.1 + δ.1, p.2 + δ.2)
        · have hyes : Hid (opn g (p.1 + δ.1, p.2 + δ.2) = true) := by show _ = _; unfold opn; simp [hin, hbk]
          gi_wp2_with fail
          refine ⟨trivial, rfl, ?_⟩
          gi_at_call 64
          refine (callsIn_wide.2 (inside_any g (p.1 + δ.1, p.2 + δ.2) _ _)).mono ?_
          rintro e w1 ⟨rfl, hE⟩
          have hX : Ext wr w1 := (((Ext.refl _).alloc _).alloc _).trans hE
          have a1 := hX.cell g1
          have a2 := hX.cell g2
          have a3 := hX.cell g3
          have q1 : w1.cell? ⟨wr.heap.size + 1, 0, none⟩ = some (.int .i64 (p.1 + δ.1)) := hE.cell (by go_simp)
          have q2 : w1.cell? ⟨wr.heap.size + 1, 1, none⟩ = some (.int .i64 (p.2 + δ.2)) := hE.cell (by go_simp)
          gi_wp2_with fail
          refine ⟨trivial, rfl, ?_⟩
          gi_at_call 60
          refine (callsIn_wide.2 (blocked_any g (p.1 + δ.1, p.2 + δ.2) ga gc _ HR.out (hc.out.ext hX))).mono ?_
          rintro e w2 ⟨rfl, hE2⟩
          have q3 := hE2.cell q1
          have q4 := hE2.cell q2
          have hX2 : Ext wr w2 := hX.trans hE2
          obtain ⟨fn, tmps, assign, body, hy, hR⟩ := HY.out _ (p.1 + δ.1, p.2 + δ.2) w2 (by
            refine List.IsPrefix.trans ?_ (List.IsPrefix.filter (opn g) (List.take_prefix (k + 1) (nbs p)))
            rw [hnx.out, hyes.out]
            exact List.prefix_refl _) (by have := hX2.size; omega) (HJ.out _ _ _ hj hX2)
          gi_wp2
          refine ⟨rfl, hR.mono ?_⟩
          clear hy hR
          rintro e w3 (⟨rfl, hj3, hk3⟩ | ⟨rfl, hj3, hk3⟩)
          · gi_wp2
            refine ⟨⟨k + 1, by omega, by go_num, by unfold Hid; rw [hnx.out, hyes.out]; exact hj3, by have := hX2.size; have := hk3.1; omega, hk3.cell (.inl ⟨zp, m1⟩) (hX2.cell p1), hk3.cell (.inl ⟨zp, m1⟩) (hX2.cell p2), hk3.cell (.inl ⟨zg, m2⟩) (hX2.cell g1), hk3.cell (.inl ⟨zg, m2⟩) (hX2.cell g2), hk3.cell (.inl ⟨zg, m2⟩) (hX2.cell g3), ?_, ?_⟩, by simp [intOf]; omega⟩
            · exact Cells2.kept hk3 (fun b off hb hne => .inl ⟨hbl.out hne b off hb, m3 hne b off hb⟩) (hc.out.ext hX2)
            · exact Cells2.kept hk3 (fun b off hb _ => .inr (by cases hb; rfl)) (hd.out.ext hX2)
          · gi_wp2
            refine bodyPost_ret (results_none rfl _ _ _) rfl ?_
            refine ⟨⟨_, rfl⟩, .inr ⟨_, ?_, hj3⟩⟩
            refine List.IsPrefix.trans ?_ (List.IsPrefix.filter (opn g) (List.take_prefix (k + 1) (nbs p)))
            rw [hnx.out, hyes.out]
            exact List.prefix_refl _
        · have hno : Hid (opn g (p.1 + δ.1, p.2 + δ.2) = false) := by show _ = _; unfold opn; simp [hbk]
          gi_wp2_with (first | (refine ⟨trivial, rfl, ?_⟩; gi_at_call 64; refine (callsIn_wide.2 (inside_any g (p.1 + δ.1, p.2 + δ.2) _ _)).mono ?_; rintro e w1 ⟨rfl, hE⟩; have hX : Ext wr w1 := (((Ext.refl _).alloc _).alloc _).trans hE; have a1 := hX.cell g1; have a2 := hX.cell g2; have a3 := hX.cell g3; have q1 : w1.cell? ⟨wr.heap.size + 1, 0, none⟩ = some (.int .i64 (p.1 + δ.1)) := hE.cell (by go_simp); have q2 : w1.cell? ⟨wr.heap.size + 1, 1, none⟩ = some (.int .i64 (p.2 + δ.2)) := hE.cell (by go_simp)) | (refine ⟨trivial, rfl, ?_⟩; gi_at_call 60; refine (callsIn_wide.2 (blocked_any g (p.1 + δ.1, p.2 + δ.2) ga gc _ HR.out (hc.out.ext hX))).mono ?_; rintro e w2 ⟨rfl, hE2⟩; have q3 := hE2.cell q1; have q4 := hE2.cell q2; have hX2 : Ext wr w2 := hX.trans hE2))
          refine ⟨(fun _ h => by cases h), ?_⟩
          gi_wp2
          refine ⟨⟨k + 1, by omega, by go_num, by unfold Hid; rw [hnx.out, hno.out]; simpa using HJ.out _ _ _ hj hX2, by have := hX2.size; omega, hX2.cell p1, hX2.cell p2, hX2.cell g1, hX2.cell g2, hX2.cell g3, hc.out.ext hX2, hd.out.ext hX2⟩, by simp [intOf]; omega⟩
    · gi_wp2
      go_end0
      refine ⟨⟨_, rfl⟩, .inl ?_⟩
      have : k = 4 := by omega
      subst this
      exact hj
end Go.Proofs.Ytfigooilhnahfaa
