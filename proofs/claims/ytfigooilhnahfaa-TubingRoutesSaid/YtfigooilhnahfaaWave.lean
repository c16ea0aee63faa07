/- The waves: the iterator's contract. -/
import Derived.Test.YtfigooilhnahfaaWaveR

namespace Go.Proofs.Ytfigooilhnahfaa
open Go.RowKit
attribute [local go_sem] Oper.semAt_some

theorem zero_seen : Try.zeroCells121 = Array.replicate 4096 (.bool false) := by kernel_rfl

theorem wave_any (g : Gr) (p : Pt) (s : Value) (w : World) :
    Calls Try.prog 61 #[.agg #[.int .i64 g.rows, .int .i64 g.cols, s], .agg #[.int .i64 p.1, .int .i64 p.2]] w fun e w' => e = .returned (.func (.func 78) #[] #[.pointer (some ⟨w.heap.size + 1, 0, none⟩), .pointer (some ⟨w.heap.size, 0, none⟩)]) ∧
      (w.alloc (.cells #[.int .i64 g.rows, .int .i64 g.cols, s] 33)).alloc (.cells #[.int .i64 p.1, .int .i64 p.2] 26) = w' := by
  go_enter Try.func61, Try.ntmps61
  go_wp2
  go_ret
  exact ⟨rfl, rfl⟩

/-- what stays of the world through all waves -/
structure WFix (g : Gr) (p : Pt) (ga : Option Addr) (gc pb gb n : Nat) (seen : List Pt) (w : World) : Prop where
  p1 : w.cell? ⟨pb, 0, none⟩ = some (.int .i64 p.1)
  p2 : w.cell? ⟨pb, 1, none⟩ = some (.int .i64 p.2)
  g1 : w.cell? ⟨gb, 0, none⟩ = some (.int .i64 g.rows)
  g2 : w.cell? ⟨gb, 1, none⟩ = some (.int .i64 g.cols)
  g3 : w.cell? ⟨gb, 2, none⟩ = some (.slice ga g.bl.length gc)
  hc : Cells2 w ga g.bl
  sn : SeenAt w n seen

/-- at the head of a wave -/
structure WOut (g : Gr) (p : Pt) (ga : Option Addr) (gc pb gb n : Nat) (J : List (Pt × Nat) → World → Prop) (f far : Nat) (seen now : List Pt) (pre : List (Pt × Nat)) (an : Option Addr) (ds : List Deferred) (w : World) : Prop where
  eq : wave g p = pre ++ waves g f seen now far
  fu : far + f = 4097
  gr : now ≠ [] → far + 1 ≤ seen.length
  wi : WI g seen now
  nl : now.length ≤ 4096
  j : J pre w
  fx : WFix g p ga gc pb gb n seen w
  cn : Cells2 w an now
  ab : ∀ b off, an = some ⟨b, off, none⟩ → n < b
  ms : Marks n ds w
def WOutA (g : Gr) (p : Pt) (ga : Option Addr) (gc l pb gb n : Nat) (J : List (Pt × Nat) → World → Prop) (a : Act) (w : World) : Prop :=
  ∃ (f far : Nat) (seen now : List Pt) (pre : List (Pt × Nat)) (an : Option Addr) (cn : Nat) (ds : List Deferred) (u3 u7 u8 u9 u10 u11 u12 u13 u14 u15 u16 u17 u18 u19 u20 u21 u22 u23 u24 u25 u26 u27 u28 u29 u30 u31 u32 u33 u34 u35 u36 u37 u38 u39 u40 u41 u42 u43 u44 u45 u46 u47 u48 u49 u50 u51 u52 u53 u54 u55 u56 u57 u58 : Value),
    a = { tmps := #[.func (.yield l) #[] #[], .pointer (some ⟨pb, 0, none⟩), .pointer (some ⟨gb, 0, none⟩), u3, .pointer (some ⟨n, 0, none⟩), .slice an now.length cn, .int .i64 far, u7, u8, u9, u10, u11, u12, u13, u14, u15, u16, u17, u18, u19, u20, u21, u22, u23, u24, u25, u26, u27, u28, u29, u30, u31, u32, u33, u34, u35, u36, u37, u38, u39, u40, u41, u42, u43, u44, u45, u46, u47, u48, u49, u50, u51, u52, u53, u54, u55, u56, u57, u58], defers := ds } ∧ WOut g p ga gc pb gb n J f far seen now pre an ds w
/-- within a wave -/
structure WIn (g : Gr) (p : Pt) (ga : Option Addr) (gc pb gb n nb : Nat) (J : List (Pt × Nat) → World → Prop) (far : Nat) (seen now : List Pt) (pre : List (Pt × Nat)) (an : Option Addr) (k : Nat) (ds : List Deferred) (w : World) : Prop where
  le : k ≤ now.length
  j : J (pre ++ (now.take k).map (fun q => (q, far))) w
  fx : WFix g p ga gc pb gb n (expand g seen [] (now.take k)).1 w
  cn : Cells2 w an now
  nx : ∃ v, w.cell? ⟨nb, 0, none⟩ = some v ∧ w.frozen? ⟨nb, 0, none⟩ = false ∧ Owns w v (expand g seen [] (now.take k)).2 ∧ (∀ b, v.ownBlock = some b → nb < b)
  ms : Marks n ds w
def WInA (g : Gr) (p : Pt) (ga : Option Addr) (gc l pb gb n nb : Nat) (J : List (Pt × Nat) → World → Prop) (far : Nat) (seen now : List Pt) (pre : List (Pt × Nat)) (an : Option Addr) (cn : Nat) (a : Act) (w : World) : Prop :=
  ∃ (k : Nat) (ds : List Deferred) (u3 u8 u9 u10 u11 u12 u13 u14 u15 u16 u17 u18 u19 u20 u21 u22 u23 u27 u28 u29 u30 u31 u32 u33 u34 u35 u36 u37 u38 u39 u40 u41 u42 u43 u44 u45 u46 u47 u48 u49 u50 u51 u52 u53 u54 u55 u56 u57 u58 : Value), a = { tmps := #[.func (.yield l) #[] #[], .pointer (some ⟨pb, 0, none⟩), .pointer (some ⟨gb, 0, none⟩), u3, .pointer (some ⟨n, 0, none⟩), .slice an now.length cn, .int .i64 far, .pointer (some ⟨nb, 0, none⟩), u8, u9, u10, u11, u12, u13, u14, u15, u16, u17, u18, u19, u20, u21, u22, u23, .slice an now.length cn, .int .i64 now.length, .int .i64 k, u27, u28, u29, u30, u31, u32, u33, u34, u35, u36, u37, u38, u39, u40, u41, u42, u43, u44, u45, u46, u47, u48, u49, u50, u51, u52, u53, u54, u55, u56, u57, u58], defers := ds } ∧ WIn g p ga gc pb gb n nb J far seen now pre an k ds w
def fuel (i : Nat) (a : Act) : Nat := 4097 - (intOf (a.tmps.getD i undef)).toNat

set_option maxHeartbeats 4000000 in
set_option maxRecDepth 100000 in
theorem wave1_iter (g : Gr) (p : Pt) (ga : Option Addr) (gc : Nat) (w : World) (pb gb : Nat) (MdC : Nat → Prop) (hr : Right g) (hp : inside g p = true)
    (p1 : w.cell? ⟨pb, 0, none⟩ = some (.int .i64 p.1)) (p2 : w.cell? ⟨pb, 1, none⟩ = some (.int .i64 p.2))
    (g1 : w.cell? ⟨gb, 0, none⟩ = some (.int .i64 g.rows)) (g2 : w.cell? ⟨gb, 1, none⟩ = some (.int .i64 g.cols)) (g3 : w.cell? ⟨gb, 2, none⟩ = some (.slice ga g.bl.length gc))
    (hc : Cells2 w ga g.bl) (m1 : ¬ MdC pb) (m2 : ¬ MdC gb) (m3 : g.bl ≠ [] → ∀ b off, ga = some ⟨b, off, none⟩ → ¬ MdC b) :
    Iter Try.prog 78 #[.pointer (some ⟨pb, 0, none⟩), .pointer (some ⟨gb, 0, none⟩)] (fun x : Pt × Nat => #[.agg #[.int .i64 (x.1).1, .int .i64 (x.1).2], .int .i64 x.2]) (wave g p) (fun n A B => Below n A B) (fun n k => (k < n ∧ ¬ MdC k) ∨ n ≤ k) 0 w := by
  intro l J Jx W hW hJ hJx hY h0
  have HR := Lib.hid hr
  obtain ⟨b1, b2, b3, b4⟩ := inside_bd hr hp
  have HC : Hid (Cells2 W ga g.bl) := hc.ext hW
  have p1 := hW.cell p1
  have p2 := hW.cell p2
  have g1 := hW.cell g1
  have g2 := hW.cell g2
  have g3 := hW.cell g3
  have HY := Lib.hid hY
  have HJ := Lib.hid hJ
  have HJx := Lib.hid hJx
  have Hp := Lib.hid hp
  have zp : pb < W.heap.size := cell_lt p1
  have zg : gb < W.heap.size := cell_lt g1
  have hbl : Hid (g.bl ≠ [] → ∀ b off, ga = some ⟨b, off, none⟩ → b < W.heap.size) := fun hne b off hb => HC.out.lt hne hb
  clear hc hr hY hJ hJx hW hp
  refine callsIn_of_wp_marks Try.func78 rfl trivial ?_
  simp only [Try.ntmps78, List.size_toArray, List.length_cons, List.length_nil, Nat.reduceAdd, Nat.reduceSub, Array.replicate_succ, Array.replicate_zero, List.push_toArray, List.append_toArray, List.nil_append, List.cons_append]
  gi_wp2
  refine wpIn_wide.2 ?_
  have E1 : Ext W (W.alloc (.cells Try.zeroCells121 121)) := (Ext.refl _).alloc _
  have S0 : Hid (SeenAt (W.alloc (.cells Try.zeroCells121 121)) W.heap.size []) := fun q hq => by
    refine ⟨?_, World.frozen?_alloc_new _ _ _ _⟩
    rw [World.cell?_alloc_new, zero_seen, Array.getElem?_replicate, if_pos (show q.1.toNat * 64 + q.2.toNat < 4096 from idx_lt hq)]
    simp
  have z1 : W.heap.size < (W.alloc (.cells Try.zeroCells121 121)).heap.size := by simp
  generalize W.alloc (.cells Try.zeroCells121 121) = W1 at E1 S0 z1 ⊢
  have q1 := E1.cell p1
  have q2 := E1.cell p2
  have s1 := (S0.out p ⟨b1, b2, b3, b4⟩).1
  have s2 := (S0.out p ⟨b1, b2, b3, b4⟩).2
  rw [show decide (p ∈ ([] : List Pt)) = false from by simp] at s1
  go_region
  have B2 : Hid (Below W.heap.size W1 (W1.setCell ⟨W.heap.size, p.1.toNat * 64 + p.2.toNat, none⟩ (.bool true)).drew) := ((Below.refl _ _).setCell (p := ⟨W.heap.size, _, none⟩) (Nat.le_refl _) _).drew
  have S2 : Hid (SeenAt (W1.setCell ⟨W.heap.size, p.1.toNat * 64 + p.2.toNat, none⟩ (.bool true)).drew W.heap.size [p]) := (S0.out.set ⟨b1, b2, b3, b4⟩).drew
  have z2 : W.heap.size < (W1.setCell ⟨W.heap.size, p.1.toNat * 64 + p.2.toNat, none⟩ (.bool true)).drew.heap.size := Nat.lt_of_lt_of_le z1 B2.out.size
  generalize (W1.setCell ⟨W.heap.size, p.1.toNat * 64 + p.2.toNat, none⟩ (.bool true)).drew = W2 at B2 S2 z2 ⊢
  have B0 : Hid (Below W.heap.size W W2) := Below.trans E1 B2.out
  have q1 : W2.cell? ⟨pb, 0, none⟩ = some (.int .i64 p.1) := (B0.out.cell (p := ⟨pb, 0, none⟩) (cell_lt p1)).trans p1
  have q2 : W2.cell? ⟨pb, 1, none⟩ = some (.int .i64 p.2) := (B0.out.cell (p := ⟨pb, 1, none⟩) (cell_lt p2)).trans p2
  clear s1 s2 S0 B2 E1
  gi_wp2
  have E3 : Ext W2 (W2.alloc (.cells #[.int .i64 p.1, .int .i64 p.2] 26)) := (Ext.refl _).alloc _
  refine wpIn_loop (WOutA g p ga gc l pb gb W.heap.size J) (fun a _ => fuel 6 a) ?_ ?_
  · refine ⟨4097, 0, [p], [p], [], some ⟨W2.heap.size, 0, none⟩, 1, [], _, _, _, _, _, _, _, _, _, _, _, _, _, _, _, _, _, _, _, _, _, _, _, _, _, _, _, _, _, _, _, _, _, _, _, _, _, _, _, _, _, _, _, _, _, _, _, _, _, _, _, _, _, rfl, ?_⟩
    exact {
      eq := by rw [List.nil_append]; unfold wave; rfl
      fu := by omega
      gr := fun _ => by simp
      wi := ⟨by simp, fun q hq => by simp at hq; subst hq; exact Hp.out, fun q hq => hq⟩
      nl := by simp
      j := HJ.out _ _ _ h0 (Below.trans B0.out (E3.mono (by omega)))
      fx := ⟨E3.cell q1, E3.cell q2, E3.cell ((B0.out.cell (p := ⟨gb, 0, none⟩) (cell_lt g1)).trans g1), E3.cell ((B0.out.cell (p := ⟨gb, 1, none⟩) (cell_lt g2)).trans g2), E3.cell ((B0.out.cell (p := ⟨gb, 2, none⟩) (cell_lt g3)).trans g3),
        Cells2.ext (Cells2.kept (Kd := fun k => k < W.heap.size) (n := 0) ⟨B0.out.size, fun k o hk ho _ => by rw [B0.out.block k hk]; exact ho⟩ (fun b off hb hne => hbl.out hne b off hb) HC.out) E3, S2.out.ext E3⟩
      cn := cells2_one (by go_simp) (by go_simp)
      ab := fun b off h => by cases h; exact z2
      ms := Marks.nil _ _ }
  · clear q1 q2 E3 S2 B0 z2 z1 g1 g2 g3 p1 p2 HC h0
    rintro a wr ⟨f, far, seen, now, pre, an, cn, ds, u3, u7, u8, u9, u10, u11, u12, u13, u14, u15, u16, u17, u18, u19, u20, u21, u22, u23, u24, u25, u26, u27, u28, u29, u30, u31, u32, u33, u34, u35, u36, u37, u38, u39, u40, u41, u42, u43, u44, u45, u46, u47, u48, u49, u50, u51, u52, u53, u54, u55, u56, u57, u58, rfl, h⟩
    by_cases hnow : now = []
    · subst hnow
      gi_wp2
      refine leaves_marks (v := .tuple #[]) (fun w => results_none rfl _ _ _) _ _ h.ms (fun w' hw' => ⟨⟨_, rfl⟩, .inl ?_⟩)
      have e := h.eq
      rw [waves_nil, List.append_nil] at e
      rw [e]
      exact HJ.out _ _ _ h.j hw'
    · have hlen : 0 < now.length := List.length_pos_iff.2 hnow
      have hsl := h.wi.len HR.out
      have hl2 : now.length ≤ 4096 := h.nl
      have hgt : (0 : Int) < (now.length : Int) := by omega
      obtain ⟨f, rfl⟩ : ∃ f', f = f' + 1 := ⟨f - 1, by have := h.fu; have := h.gr hnow; omega⟩
      have hfar : far ≤ 4096 := by have := h.fu; omega
      have hw := Lib.hid (waves_step g f seen now far hnow)
      have hn0 : W.heap.size < wr.heap.size := by
        have := (h.fx.sn (0, 0) ⟨by decide, by decide, by decide, by decide⟩).1
        exact cell_lt this
      gi_wp2
      have E4 : Ext wr (wr.alloc (.cells #[.slice none 0 0] 22)) := (Ext.refl _).alloc _
      have n1 : (wr.alloc (.cells #[.slice none 0 0] 22)).cell? ⟨wr.heap.size, 0, none⟩ = some (.slice none 0 0) := by go_simp
      have n2 : (wr.alloc (.cells #[.slice none 0 0] 22)).frozen? ⟨wr.heap.size, 0, none⟩ = false := by go_simp
      refine wpIn_loop (WInA g p ga gc l pb gb W.heap.size wr.heap.size J far seen now pre an cn) (fun a _ => fuel 26 a) ?_ ?_
      · refine ⟨0, ds, _, _, _, _, _, _, _, _, _, _, _, _, _, _, _, _, _, _, _, _, _, _, _, _, _, _, _, _, _, _, _, _, _, _, _, _, _, _, _, _, _, _, _, _, _, _, _, _, _, rfl, ?_⟩
        exact {
          le := Nat.zero_le _
          j := by simpa using HJ.out _ _ _ h.j (E4.mono (by omega))
          fx := ⟨E4.cell h.fx.p1, E4.cell h.fx.p2, E4.cell h.fx.g1, E4.cell h.fx.g2, E4.cell h.fx.g3, h.fx.hc.ext E4, h.fx.sn.ext E4⟩
          cn := h.cn.ext E4
          nx := ⟨_, n1, n2, Owns.nil _, fun b hb => by cases hb⟩
          ms := h.ms.ext E4 }
      · have HH := Lib.hid h
        have H4 := Lib.hid E4
        clear h n1 n2 E4
        generalize hnb : wr.heap.size = nb at hn0 ⊢
        have HNB := Lib.hid hnb
        clear hnb
        rintro a w1 ⟨k, ds1, u3, u8, u9, u10, u11, u12, u13, u14, u15, u16, u17, u18, u19, u20, u21, u22, u23, u27, u28, u29, u30, u31, u32, u33, u34, u35, u36, u37, u38, u39, u40, u41, u42, u43, u44, u45, u46, u47, u48, u49, u50, u51, u52, u53, u54, u55, u56, u57, u58, rfl, h⟩
        have hk := h.le
        have F1 := h.fx.p1
        have F2 := h.fx.p2
        have F3 := h.fx.g1
        have F4 := h.fx.g2
        have F5 := h.fx.g3
        obtain ⟨v, n1, n2, n3, n4⟩ := h.nx
        have hz := cell_lt n1
        dsimp only at hz
        by_cases hlt : k < now.length
        · obtain ⟨b, off, ha, e1, e2⟩ := h.cn k hlt
          subst ha
          have hlt' : (k : Int) < (now.length : Int) := by omega
          generalize hx : pt now k = x at e1 e2
          have HX := Lib.hid hx
          clear hx
          have hxn : x ∈ now := by rw [← HX.out]; unfold pt; rw [List.getD_eq_getElem?_getD, List.getElem?_eq_getElem hlt]; simp
          have hxi : Hid (inside g x = true) := HH.out.wi.ins _ (HH.out.wi.sub _ hxn)
          obtain ⟨x1, x2, x3, x4⟩ := inG_of HR.out hxi.out
          have E5 : Ext w1 (w1.alloc (.cells #[.int .i64 x.1, .int .i64 x.2] 26)) := (Ext.refl _).alloc _
          have htk : Hid (now.take (k + 1) = now.take k ++ [x]) := by
            show _ = _
            rw [List.take_succ_eq_append_getElem hlt]
            congr 2
            rw [← HX.out]; unfold pt
            rw [List.getD_eq_getElem?_getD, List.getElem?_eq_getElem hlt]; simp
          obtain ⟨fn, tmps, assign, body, hy, hR⟩ := HY.out (pre ++ (now.take k).map (fun q => (q, far))) (x, far) (w1.alloc (.cells #[.int .i64 x.1, .int .i64 x.2] 26)) (by
            rw [HH.out.eq, hw.out, List.append_assoc, List.prefix_append_right_inj]
            rw [show (now.take k).map (fun q => (q, far)) ++ [(x, far)] = (now.take (k + 1)).map (fun q => (q, far)) from by rw [htk.out]; simp]
            exact List.IsPrefix.trans (List.IsPrefix.map _ (List.take_prefix _ _)) (List.prefix_append _ _)) (by simp; omega) (HJ.out _ _ _ h.j (E5.mono (by omega)))
          dsimp only at hy
          gi_wp2
          refine ⟨rfl, hR.mono ?_⟩
          clear hy hR
          rintro e w2 (⟨rfl, hj2, hk2⟩ | ⟨rfl, hj2, hk2⟩)
          · have K2 : Hid (Kept (fun k => (k < W.heap.size ∧ ¬ MdC k) ∨ W.heap.size ≤ k) W.heap.size w1 w2) := (Kept.ext E5 _ _).trans hk2
            have F1' : w2.cell? ⟨pb, 0, none⟩ = some (.int .i64 p.1) := K2.out.cell (p := ⟨pb, 0, none⟩) (.inl ⟨zp, m1⟩) F1
            have F2' : w2.cell? ⟨pb, 1, none⟩ = some (.int .i64 p.2) := K2.out.cell (p := ⟨pb, 1, none⟩) (.inl ⟨zp, m1⟩) F2
            have F3' : w2.cell? ⟨gb, 0, none⟩ = some (.int .i64 g.rows) := K2.out.cell (p := ⟨gb, 0, none⟩) (.inl ⟨zg, m2⟩) F3
            have F4' : w2.cell? ⟨gb, 1, none⟩ = some (.int .i64 g.cols) := K2.out.cell (p := ⟨gb, 1, none⟩) (.inl ⟨zg, m2⟩) F4
            have F5' : w2.cell? ⟨gb, 2, none⟩ = some (.slice ga g.bl.length gc) := K2.out.cell (p := ⟨gb, 2, none⟩) (.inl ⟨zg, m2⟩) F5
            have X1 : w2.cell? ⟨w1.heap.size, 0, none⟩ = some (.int .i64 x.1) := hk2.cell (p := ⟨w1.heap.size, 0, none⟩) (.inr (by simp; omega)) (by go_simp)
            have X2 : w2.cell? ⟨w1.heap.size, 1, none⟩ = some (.int .i64 x.2) := hk2.cell (p := ⟨w1.heap.size, 1, none⟩) (.inr (by simp; omega)) (by go_simp)
            have HC2 : Hid (Cells2 w2 ga g.bl) := h.fx.hc.kept K2.out (fun b off hb hne => .inl ⟨hbl.out hne b off hb, m3 hne b off hb⟩)
            have CN2 : Hid (Cells2 w2 (some ⟨b, off, none⟩) now) := h.cn.kept K2.out (fun b' off' hb hne => .inr (by have := HH.out.ab b' off' (by rw [hb]); omega))
            have SN2 : Hid (SeenAt w2 W.heap.size (expand g seen [] (now.take k)).1) := h.fx.sn.kept K2.out (.inr (Nat.le_refl _))
            have N1' : w2.cell? ⟨nb, 0, none⟩ = some v := K2.out.cell (p := ⟨nb, 0, none⟩) (.inr (by simp; omega)) n1
            have N2' : w2.frozen? ⟨nb, 0, none⟩ = false := (K2.out.frozen (p := ⟨nb, 0, none⟩) (.inr (by simp; omega)) n1).trans n2
            have N3' : Hid (Owns w2 v (expand g seen [] (now.take k)).2) := n3.kept K2.out (fun b hb => .inr (by have := n4 b hb; omega))
            have MS2 : Hid (Marks W.heap.size ds1 w2) := h.ms.keptX K2.out (fun D hD _ => .inr hD)
            have HJ2 := Lib.hid hj2
            have zw : w1.heap.size < w2.heap.size := by have := hk2.1; simp at this; omega
            have n4' := Lib.hid n4
            clear hj2 hk2 h n1 n2 n3 n4 e1 e2 F1 F2 F3 F4 F5 E5 hz
            gi_wp2_with (refine ⟨trivial, rfl, ?_⟩; gi_at_call 74; refine (callsIn_wide.2 (around_any g x _ _)).mono ?_; rintro e w3 ⟨rfl, hw3⟩)
            have E6 : Ext w2 w3 := by rw [← hw3]; exact ((Ext.refl _).alloc _).alloc _
            have hz3 : w3.heap.size = w2.heap.size + 2 := by rw [← hw3]; simp
            have G1 : w3.cell? ⟨w2.heap.size, 0, none⟩ = some (.int .i64 g.rows) := by rw [← hw3, World.cell?_alloc2_first]; rfl
            have G2 : w3.cell? ⟨w2.heap.size, 1, none⟩ = some (.int .i64 g.cols) := by rw [← hw3, World.cell?_alloc2_first]; rfl
            have G3 : w3.cell? ⟨w2.heap.size, 2, none⟩ = some (.slice ga g.bl.length gc) := by rw [← hw3, World.cell?_alloc2_first]; rfl
            have P1 : w3.cell? ⟨w2.heap.size + 1, 0, none⟩ = some (.int .i64 x.1) := by rw [← hw3, World.cell?_alloc2_new]; rfl
            have P2 : w3.cell? ⟨w2.heap.size + 1, 1, none⟩ = some (.int .i64 x.2) := by rw [← hw3, World.cell?_alloc2_new]; rfl
            have XI := expand_inv (now.take k) seen [] ⟨HH.out.wi.nd, HH.out.wi.ins, fun q hq => by cases hq⟩
            have XL := XI.1.len HR.out
            have XS := XI.2
            have hvl : ∀ b, v.ownBlock = some b → nb < b ∧ b < w2.heap.size := fun b hb => ⟨n4'.out b hb, N3'.out.lt hb⟩
            have hnbz : nb < w2.heap.size := cell_lt N1'
            have HNX : ∀ D, W.heap.size ≤ D → w3.heap[D]? = some (.deferred (some [])) → ¬ inWave W.heap.size nb v D := by
              rintro D _ hD (h | h | h)
              · have := isCells_of_cell (p := ⟨W.heap.size, _, none⟩) ((SN2.out.ext E6) (0, 0) ⟨by decide, by decide, by decide, by decide⟩).1 (h ▸ hD)
                cases this
              · have := isCells_of_cell (p := ⟨nb, 0, none⟩) (E6.cell N1') (h ▸ hD)
                cases this
              · have := (N3'.out.ext E6).isCells h hD
                cases this
            have hJ3 : J (pre ++ (now.take k).map (fun q => (q, far)) ++ [(x, far)]) w3 := HJ.out _ _ _ HJ2.out (E6.mono (by omega))
            refine wpIn_wide.2 (wave1_range _ _ rfl g x ga gc w3 (w2.heap.size + 1) w2.heap.size W.heap.size nb (fun k => ((k < W.heap.size ∧ ¬ MdC k) ∨ W.heap.size ≤ k) ∧ ¬ inWave W.heap.size nb v k)
              (expand g seen [] (now.take k)).1 (expand g seen [] (now.take k)).2 v (J (pre ++ (now.take k).map (fun q => (q, far)) ++ [(x, far)]))
              HR.out hxi.out XI.1 (by simp at XS; omega) P1 P2 G1 G2 G3 (HC2.out.ext E6) ?_ ?_ ?_ (fun k h => h.2) (fun A B h hb => HJ.out _ _ _ h hb) hn0 (by omega) (fun b hb => by have := hvl b hb; omega)
              hJ3 (SN2.out.ext E6) (E6.cell N1') ((Below.frozen E6 (p := ⟨nb, 0, none⟩) (cell_lt N1')).trans N2') (N3'.out.ext E6) _ _ _ _ _ _ _ _ _ _ _ _ _ _ _ _ _ _ _ _ _ _ _ _ _ _ _ _ _ _ _ _ _ _ _ _ _ _ _ _ _ _ _ _ _ _ _ _ _ _ _ _ _ _ _ _ ds1 _ ?_)
            · rintro (h | h | h)
              · omega
              · omega
              · have := hvl _ h; omega
            · rintro (h | h | h)
              · omega
              · omega
              · have := hvl _ h; omega
            · rintro hne b' off' hb' (h | h | h)
              · have := hbl.out hne b' off' hb'; omega
              · have := hbl.out hne b' off' hb'; omega
              · have := hbl.out hne b' off' hb'; have := hvl _ h; omega
            · intro D w4 k1 k2 k3 k4
              gi_wp2
              have hD1 : ∀ k, W.heap.size ≤ k → k ≠ W.heap.size → k ≠ nb → v.ownBlock ≠ some k → ((k < W.heap.size ∧ ¬ MdC k) ∨ W.heap.size ≤ k) ∧ ¬ inWave W.heap.size nb v k := by
                intro k h1 h2 h3 h4
                exact ⟨.inr h1, by rintro (h | h | h); exact h2 h; exact h3 h; exact h4 h⟩
              have hlow : ∀ k, k < W.heap.size → ¬ MdC k → ((k < W.heap.size ∧ ¬ MdC k) ∨ W.heap.size ≤ k) ∧ ¬ inWave W.heap.size nb v k := by
                intro k h1 h2
                refine ⟨.inl ⟨h1, h2⟩, ?_⟩
                rintro (h | h | h)
                · omega
                · omega
                · have := hvl _ h; omega
              have hex : addN (expand g seen [] (now.take k)).1 (expand g seen [] (now.take k)).2 (near g x) = expand g seen [] (now.take (k + 1)) := by rw [htk.out, expand_snoc]
              have hnw : ∀ b' off', some (⟨b, off, none⟩ : Addr) = some ⟨b', off', none⟩ → now ≠ [] → b' < nb ∧ W.heap.size < b' := by
                intro b' off' hb' hne
                have h1 := HH.out.cn.lt hne hb'
                rw [HNB.out] at h1
                exact ⟨h1, HH.out.ab b' off' hb'⟩
              refine ⟨⟨k + 1, mark D :: ds1, _, _, _, _, _, _, _, _, _, _, _, _, _, _, _, _, _, _, _, _, _, _, _, _, _, _, _, _, _, _, _, _, _, _, _, _, _, _, _, _, _, _, _, _, _, _, _, _, _, rfl, ?_⟩, by simp [fuel, intOf]; omega⟩
              exact {
                le := hlt
                j := by
                  have := k3.j
                  rw [htk.out]
                  simpa using this
                fx := ⟨k3.kp.cell (p := ⟨pb, 0, none⟩) (hlow pb zp m1) (E6.cell F1'), k3.kp.cell (p := ⟨pb, 1, none⟩) (hlow pb zp m1) (E6.cell F2'), k3.kp.cell (p := ⟨gb, 0, none⟩) (hlow gb zg m2) (E6.cell F3'),
                  k3.kp.cell (p := ⟨gb, 1, none⟩) (hlow gb zg m2) (E6.cell F4'), k3.kp.cell (p := ⟨gb, 2, none⟩) (hlow gb zg m2) (E6.cell F5'),
                  (HC2.out.ext E6).kept k3.kp (fun b' off' hb' hne => hlow b' (hbl.out hne b' off' hb') (m3 hne b' off' hb')), by rw [← hex]; exact k3.sn⟩
                cn := (CN2.out.ext E6).kept k3.kp (fun b' off' hb' hne => by
                  have h1 := hnw b' off' hb' hne
                  exact hD1 b' (by omega) (by omega) (by omega) (fun h => by have := (hvl _ h).1; omega))
                nx := by
                  obtain ⟨v', y1, y2, y3, y4⟩ := k3.nx
                  refine ⟨v', y1, y2, by rw [← hex]; exact y3, fun b' hb' => ?_⟩
                  rcases y4 with y4 | ⟨c, y4, y5⟩
                  · rw [y4] at hb'; exact n4'.out b' hb'
                  · rw [y4] at hb'; cases hb'; omega
                ms := Marks.cons (MS2.out.ext E6) k1 (by omega) ((MS2.out.ext E6).keptX k3.kp (fun D' hD' hm' => ⟨.inr hD', HNX D' hD' hm'⟩)) k4 }
          · gi_wp2
            refine leaves_marks (v := .tuple #[]) (fun w => results_none rfl _ _ _) _ _ (h.ms.keptX (Kept.ext' (Kept.refl (fun k => (k < W.heap.size ∧ ¬ MdC k) ∨ W.heap.size ≤ k) _ _) E5 |>.trans hk2) (fun D hD _ => .inr hD)) (fun w' hw' => ⟨⟨_, rfl⟩, .inr ⟨_, ?_, HJx.out _ _ _ hj2 hw'⟩⟩)
            rw [HH.out.eq, hw.out, List.append_assoc, List.prefix_append_right_inj]
            rw [show (now.take k).map (fun q => (q, far)) ++ [(x, far)] = (now.take (k + 1)).map (fun q => (q, far)) from by rw [htk.out]; simp]
            exact List.IsPrefix.trans (List.IsPrefix.map _ (List.take_prefix _ _)) (List.prefix_append _ _)
        · have hkk : k = now.length := by omega
          subst hkk
          obtain ⟨av, cv, rfl, hrd, hbk⟩ := n3.reads
          have XI := expand_inv now seen [] ⟨HH.out.wi.nd, HH.out.wi.ins, fun q hq => by cases hq⟩
          have XL := XI.1.len HR.out
          have XS := XI.2
          rw [List.take_length] at hrd hbk n4
          gi_wp2
          refine ⟨⟨f, far + 1, (expand g seen [] now).1, (expand g seen [] now).2, pre ++ now.map (fun q => (q, far)), av, cv, ds1, _, _, _, _, _, _, _, _, _, _, _, _, _, _, _, _, _, _, _, _, _, _, _, _, _, _, _, _, _, _, _, _, _, _, _, _, _, _, _, _, _, _, _, _, _, _, _, _, _, _, _, _, _, by go_num, ?_⟩, by simp [fuel, intOf]; omega⟩
          exact {
            eq := by rw [HH.out.eq, hw.out, List.append_assoc]
            fu := by have := HH.out.fu; omega
            gr := fun hne => by
              have h1 := HH.out.gr hnow
              have h2 := List.length_pos_iff.2 hne
              simp at XS
              omega
            wi := XI.1
            nl := by simp at XS; omega
            j := by have := h.j; rwa [List.take_length] at this
            fx := by have := h.fx; rwa [List.take_length] at this
            cn := hrd
            ab := fun b' off' hb' => by have := n4 _ (hbk b' off' hb'); omega
            ms := h.ms }
end Go.Proofs.Ytfigooilhnahfaa
