/- Steps of the proof: Wave, DistS, DistR, Dist, Len, LawFn, Law, WayS, Meet. No conditions. -/
import Derived.Laws.ResultCell
import Derived.Test.YtechakkdcllgoaaZRows1
/- The waves: the iterator's contract. -/

namespace Go.Proofs.Ytechakkdcllgoaa
open Go.RowKit
attribute [local go_sem] Oper.semAt_some

theorem zero_seen : Try.zeroCells83 = Array.replicate 4096 (.bool false) := by kernel_rfl

theorem wave_any (g : Gr) (p : Pt) (s : Value) (w : World) :
    Calls Try.prog 17 #[.agg #[.int .i64 g.rows, .int .i64 g.cols, s], .agg #[.int .i64 p.1, .int .i64 p.2]] w fun e w' => e = .returned (.func (.func 30) #[] #[.pointer (some ⟨w.heap.size + 1, 0, none⟩), .pointer (some ⟨w.heap.size, 0, none⟩)]) ∧
      (w.alloc (.cells #[.int .i64 g.rows, .int .i64 g.cols, s] 25)).alloc (.cells #[.int .i64 p.1, .int .i64 p.2] 27) = w' := by
  go_enter Try.func17, Try.ntmps17
  go_wp2
  go_ret
  exact ⟨rfl, rfl⟩

/-- what stays of the world through all waves -/
structure WFix (g : Gr) (p : Pt) (ga : Option Addr) (gc pb gb n : Nat) (seen : List Pt) (w : World) : Prop where
  p1 : w.cell? ⟨pb, 0, none⟩ = some (.int .i64 p.1)
  p2 : w.cell? ⟨pb, 1, none⟩ = some (.int .i64 p.2)
  g1 : w.cell? ⟨gb, 0, none⟩ = some (.int .i64 g.rows)
  g2 : w.cell? ⟨gb, 1, none⟩ = some (.int .i64 g.cols)
  g3 : w.cell? ⟨gb, 2, none⟩ = some (.slice ga g.bl.length gc)
  hc : Cells2 w ga g.bl
  sn : SeenAt w n seen

/-- at the head of a wave -/
structure WOut (g : Gr) (p : Pt) (ga : Option Addr) (gc pb gb n : Nat) (J : List (Pt × Nat) → World → Prop) (f far : Nat) (seen now : List Pt) (pre : List (Pt × Nat)) (an : Option Addr) (ds : List Deferred) (w : World) : Prop where
  eq : wave g p = pre ++ waves g f seen now far
  fu : far + f = 4097
  gr : now ≠ [] → far + 1 ≤ seen.length
  wi : WI g seen now
  nl : now.length ≤ 4096
  j : J pre w
  fx : WFix g p ga gc pb gb n seen w
  cn : Cells2 w an now
  ab : ∀ b off, an = some ⟨b, off, none⟩ → n < b
  ms : Marks n ds w
def WOutA (g : Gr) (p : Pt) (ga : Option Addr) (gc l pb gb n : Nat) (J : List (Pt × Nat) → World → Prop) (a : Act) (w : World) : Prop :=
  ∃ (f far : Nat) (seen now : List Pt) (pre : List (Pt × Nat)) (an : Option Addr) (cn : Nat) (ds : List Deferred) (u3 u7 u8 u9 u10 u11 u12 u13 u14 u15 u16 u17 u18 u19 u20 u21 u22 u23 u24 u25 u26 u27 u28 u29 u30 u31 u32 u33 u34 u35 u36 u37 u38 u39 u40 u41 u42 u43 u44 u45 u46 u47 u48 u49 u50 u51 u52 u53 u54 u55 u56 u57 u58 : Value),
    a = { tmps := #[.func (.yield l) #[] #[], .pointer (some ⟨pb, 0, none⟩), .pointer (some ⟨gb, 0, none⟩), u3, .pointer (some ⟨n, 0, none⟩), .slice an now.length cn, .int .i64 far, u7, u8, u9, u10, u11, u12, u13, u14, u15, u16, u17, u18, u19, u20, u21, u22, u23, u24, u25, u26, u27, u28, u29, u30, u31, u32, u33, u34, u35, u36, u37, u38, u39, u40, u41, u42, u43, u44, u45, u46, u47, u48, u49, u50, u51, u52, u53, u54, u55, u56, u57, u58], defers := ds } ∧ WOut g p ga gc pb gb n J f far seen now pre an ds w
/-- within a wave -/
structure WIn (g : Gr) (p : Pt) (ga : Option Addr) (gc pb gb n nb : Nat) (J : List (Pt × Nat) → World → Prop) (far : Nat) (seen now : List Pt) (pre : List (Pt × Nat)) (an : Option Addr) (k : Nat) (ds : List Deferred) (w : World) : Prop where
  le : k ≤ now.length
  j : J (pre ++ (now.take k).map (fun q => (q, far))) w
  fx : WFix g p ga gc pb gb n (expand g seen [] (now.take k)).1 w
  cn : Cells2 w an now
  nx : ∃ v, w.cell? ⟨nb, 0, none⟩ = some v ∧ w.frozen? ⟨nb, 0, none⟩ = false ∧ Owns w v (expand g seen [] (now.take k)).2 ∧ (∀ b, v.ownBlock = some b → nb < b)
  ms : Marks n ds w
def WInA (g : Gr) (p : Pt) (ga : Option Addr) (gc l pb gb n nb : Nat) (J : List (Pt × Nat) → World → Prop) (far : Nat) (seen now : List Pt) (pre : List (Pt × Nat)) (an : Option Addr) (cn : Nat) (a : Act) (w : World) : Prop :=
  ∃ (k : Nat) (ds : List Deferred) (u3 u8 u9 u10 u11 u12 u13 u14 u15 u16 u17 u18 u19 u20 u21 u22 u23 u27 u28 u29 u30 u31 u32 u33 u34 u35 u36 u37 u38 u39 u40 u41 u42 u43 u44 u45 u46 u47 u48 u49 u50 u51 u52 u53 u54 u55 u56 u57 u58 : Value), a = { tmps := #[.func (.yield l) #[] #[], .pointer (some ⟨pb, 0, none⟩), .pointer (some ⟨gb, 0, none⟩), u3, .pointer (some ⟨n, 0, none⟩), .slice an now.length cn, .int .i64 far, .pointer (some ⟨nb, 0, none⟩), u8, u9, u10, u11, u12, u13, u14, u15, u16, u17, u18, u19, u20, u21, u22, u23, .slice an now.length cn, .int .i64 now.length, .int .i64 k, u27, u28, u29, u30, u31, u32, u33, u34, u35, u36, u37, u38, u39, u40, u41, u42, u43, u44, u45, u46, u47, u48, u49, u50, u51, u52, u53, u54, u55, u56, u57, u58], defers := ds } ∧ WIn g p ga gc pb gb n nb J far seen now pre an k ds w
def fuel (i : Nat) (a : Act) : Nat := 4097 - (intOf (a.tmps.getD i undef)).toNat

set_option maxHeartbeats 4000000 in
set_option maxRecDepth 100000 in
theorem wave1_iter (g : Gr) (p : Pt) (ga : Option Addr) (gc : Nat) (w : World) (pb gb : Nat) (MdC : Nat → Prop) (hr : Right g) (hp : inside g p = true)
    (p1 : w.cell? ⟨pb, 0, none⟩ = some (.int .i64 p.1)) (p2 : w.cell? ⟨pb, 1, none⟩ = some (.int .i64 p.2))
    (g1 : w.cell? ⟨gb, 0, none⟩ = some (.int .i64 g.rows)) (g2 : w.cell? ⟨gb, 1, none⟩ = some (.int .i64 g.cols)) (g3 : w.cell? ⟨gb, 2, none⟩ = some (.slice ga g.bl.length gc))
    (hc : Cells2 w ga g.bl) (m1 : ¬ MdC pb) (m2 : ¬ MdC gb) (m3 : g.bl ≠ [] → ∀ b off, ga = some ⟨b, off, none⟩ → ¬ MdC b) :
    Iter Try.prog 30 #[.pointer (some ⟨pb, 0, none⟩), .pointer (some ⟨gb, 0, none⟩)] (fun x : Pt × Nat => #[.agg #[.int .i64 (x.1).1, .int .i64 (x.1).2], .int .i64 x.2]) (wave g p) (fun n A B => Below n A B) (fun n k => (k < n ∧ ¬ MdC k) ∨ n ≤ k) 0 w := by
  intro l J Jx W hW hJ hJx hY h0
  have HR := Lib.hid hr
  obtain ⟨b1, b2, b3, b4⟩ := inside_bd hr hp
  have HC : Hid (Cells2 W ga g.bl) := hc.ext hW
  have p1 := hW.cell p1
  have p2 := hW.cell p2
  have g1 := hW.cell g1
  have g2 := hW.cell g2
  have g3 := hW.cell g3
  have HY := Lib.hid hY
  have HJ := Lib.hid hJ
  have HJx := Lib.hid hJx
  have Hp := Lib.hid hp
  have zp : pb < W.heap.size := cell_lt p1
  have zg : gb < W.heap.size := cell_lt g1
  have hbl : Hid (g.bl ≠ [] → ∀ b off, ga = some ⟨b, off, none⟩ → b < W.heap.size) := fun hne b off hb => HC.out.lt hne hb
  clear hc hr hY hJ hJx hW hp
  refine callsIn_of_wp_marks Try.func30 rfl trivial ?_
  simp only [Try.ntmps30, List.size_toArray, List.length_cons, List.length_nil, Nat.reduceAdd, Nat.reduceSub, Array.replicate_succ, Array.replicate_zero, List.push_toArray, List.append_toArray, List.nil_append, List.cons_append]
  gi_wp2
  refine wpIn_wide.2 ?_
  have E1 : Ext W (W.alloc (.cells Try.zeroCells83 83)) := (Ext.refl _).alloc _
  have S0 : Hid (SeenAt (W.alloc (.cells Try.zeroCells83 83)) W.heap.size []) := fun q hq => by
    refine ⟨?_, World.frozen?_alloc_new _ _ _ _⟩
    rw [World.cell?_alloc_new, zero_seen, Array.getElem?_replicate, if_pos (show q.1.toNat * 64 + q.2.toNat < 4096 from idx_lt hq)]
    simp
  have z1 : W.heap.size < (W.alloc (.cells Try.zeroCells83 83)).heap.size := by simp
  generalize W.alloc (.cells Try.zeroCells83 83) = W1 at E1 S0 z1 ⊢
  have q1 := E1.cell p1
  have q2 := E1.cell p2
  have s1 := (S0.out p ⟨b1, b2, b3, b4⟩).1
  have s2 := (S0.out p ⟨b1, b2, b3, b4⟩).2
  rw [show decide (p ∈ ([] : List Pt)) = false from by simp] at s1
  go_region
  have B2 : Hid (Below W.heap.size W1 (W1.setCell ⟨W.heap.size, p.1.toNat * 64 + p.2.toNat, none⟩ (.bool true)).drew) := ((Below.refl _ _).setCell (p := ⟨W.heap.size, _, none⟩) (Nat.le_refl _) _).drew
  have S2 : Hid (SeenAt (W1.setCell ⟨W.heap.size, p.1.toNat * 64 + p.2.toNat, none⟩ (.bool true)).drew W.heap.size [p]) := (S0.out.set ⟨b1, b2, b3, b4⟩).drew
  have z2 : W.heap.size < (W1.setCell ⟨W.heap.size, p.1.toNat * 64 + p.2.toNat, none⟩ (.bool true)).drew.heap.size := Nat.lt_of_lt_of_le z1 B2.out.size
  generalize (W1.setCell ⟨W.heap.size, p.1.toNat * 64 + p.2.toNat, none⟩ (.bool true)).drew = W2 at B2 S2 z2 ⊢
  have B0 : Hid (Below W.heap.size W W2) := Below.trans E1 B2.out
  have q1 : W2.cell? ⟨pb, 0, none⟩ = some (.int .i64 p.1) := (B0.out.cell (p := ⟨pb, 0, none⟩) (cell_lt p1)).trans p1
  have q2 : W2.cell? ⟨pb, 1, none⟩ = some (.int .i64 p.2) := (B0.out.cell (p := ⟨pb, 1, none⟩) (cell_lt p2)).trans p2
  clear s1 s2 S0 B2 E1
  gi_wp2
  have E3 : Ext W2 (W2.alloc (.cells #[.int .i64 p.1, .int .i64 p.2] 27)) := (Ext.refl _).alloc _
  refine wpIn_loop (WOutA g p ga gc l pb gb W.heap.size J) (fun a _ => fuel 6 a) ?_ ?_
  · refine ⟨4097, 0, [p], [p], [], some ⟨W2.heap.size, 0, none⟩, 1, [], _, _, _, _, _, _, _, _, _, _, _, _, _, _, _, _, _, _, _, _, _, _, _, _, _, _, _, _, _, _, _, _, _, _, _, _, _, _, _, _, _, _, _, _, _, _, _, _, _, _, _, _, _, rfl, ?_⟩
    exact {
      eq := by rw [List.nil_append]; unfold wave; rfl
      fu := by omega
      gr := fun _ => by simp
      wi := ⟨by simp, fun q hq => by simp at hq; subst hq; exact Hp.out, fun q hq => hq⟩
      nl := by simp
      j := HJ.out _ _ _ h0 (Below.trans B0.out (E3.mono (by omega)))
      fx := ⟨E3.cell q1, E3.cell q2, E3.cell ((B0.out.cell (p := ⟨gb, 0, none⟩) (cell_lt g1)).trans g1), E3.cell ((B0.out.cell (p := ⟨gb, 1, none⟩) (cell_lt g2)).trans g2), E3.cell ((B0.out.cell (p := ⟨gb, 2, none⟩) (cell_lt g3)).trans g3),
        Cells2.ext (Cells2.kept (Kd := fun k => k < W.heap.size) (n := 0) ⟨B0.out.size, fun k o hk ho _ => by rw [B0.out.block k hk]; exact ho⟩ (fun b off hb hne => hbl.out hne b off hb) HC.out) E3, S2.out.ext E3⟩
      cn := cells2_one (by go_simp) (by go_simp)
      ab := fun b off h => by cases h; exact z2
      ms := Marks.nil _ _ }
  · clear q1 q2 E3 S2 B0 z2 z1 g1 g2 g3 p1 p2 HC h0
    rintro a wr ⟨f, far, seen, now, pre, an, cn, ds, u3, u7, u8, u9, u10, u11, u12, u13, u14, u15, u16, u17, u18, u19, u20, u21, u22, u23, u24, u25, u26, u27, u28, u29, u30, u31, u32, u33, u34, u35, u36, u37, u38, u39, u40, u41, u42, u43, u44, u45, u46, u47, u48, u49, u50, u51, u52, u53, u54, u55, u56, u57, u58, rfl, h⟩
    by_cases hnow : now = []
    · subst hnow
      gi_wp2
      refine leaves_marks (v := .tuple #[]) (fun w => results_none rfl _ _ _) _ _ h.ms (fun w' hw' => ⟨⟨_, rfl⟩, .inl ?_⟩)
      have e := h.eq
      rw [waves_nil, List.append_nil] at e
      rw [e]
      exact HJ.out _ _ _ h.j hw'
    · have hlen : 0 < now.length := List.length_pos_iff.2 hnow
      have hsl := h.wi.len HR.out
      have hl2 : now.length ≤ 4096 := h.nl
      have hgt : (0 : Int) < (now.length : Int) := by omega
      obtain ⟨f, rfl⟩ : ∃ f', f = f' + 1 := ⟨f - 1, by have := h.fu; have := h.gr hnow; omega⟩
      have hfar : far ≤ 4096 := by have := h.fu; omega
      have hw := Lib.hid (waves_step g f seen now far hnow)
      have hn0 : W.heap.size < wr.heap.size := by
        have := (h.fx.sn (0, 0) ⟨by decide, by decide, by decide, by decide⟩).1
        exact cell_lt this
      gi_wp2
      have E4 : Ext wr (wr.alloc (.cells #[.slice none 0 0] 23)) := (Ext.refl _).alloc _
      have n1 : (wr.alloc (.cells #[.slice none 0 0] 23)).cell? ⟨wr.heap.size, 0, none⟩ = some (.slice none 0 0) := by go_simp
      have n2 : (wr.alloc (.cells #[.slice none 0 0] 23)).frozen? ⟨wr.heap.size, 0, none⟩ = false := by go_simp
      refine wpIn_loop (WInA g p ga gc l pb gb W.heap.size wr.heap.size J far seen now pre an cn) (fun a _ => fuel 26 a) ?_ ?_
      · refine ⟨0, ds, _, _, _, _, _, _, _, _, _, _, _, _, _, _, _, _, _, _, _, _, _, _, _, _, _, _, _, _, _, _, _, _, _, _, _, _, _, _, _, _, _, _, _, _, _, _, _, _, _, rfl, ?_⟩
        exact {
          le := Nat.zero_le _
          j := by simpa using HJ.out _ _ _ h.j (E4.mono (by omega))
          fx := ⟨E4.cell h.fx.p1, E4.cell h.fx.p2, E4.cell h.fx.g1, E4.cell h.fx.g2, E4.cell h.fx.g3, h.fx.hc.ext E4, h.fx.sn.ext E4⟩
          cn := h.cn.ext E4
          nx := ⟨_, n1, n2, Owns.nil _, fun b hb => by cases hb⟩
          ms := h.ms.ext E4 }
      · have HH := Lib.hid h
        have H4 := Lib.hid E4
        clear h n1 n2 E4
        generalize hnb : wr.heap.size = nb at hn0 ⊢
        have HNB := Lib.hid hnb
        clear hnb
        rintro a w1 ⟨k, ds1, u3, u8, u9, u10, u11, u12, u13, u14, u15, u16, u17, u18, u19, u20, u21, u22, u23, u27, u28, u29, u30, u31, u32, u33, u34, u35, u36, u37, u38, u39, u40, u41, u42, u43, u44, u45, u46, u47, u48, u49, u50, u51, u52, u53, u54, u55, u56, u57, u58, rfl, h⟩
        have hk := h.le
        have F1 := h.fx.p1
        have F2 := h.fx.p2
        have F3 := h.fx.g1
        have F4 := h.fx.g2
        have F5 := h.fx.g3
        obtain ⟨v, n1, n2, n3, n4⟩ := h.nx
        have hz := cell_lt n1
        dsimp only at hz
        by_cases hlt : k < now.length
        · obtain ⟨b, off, ha, e1, e2⟩ := h.cn k hlt
          subst ha
          have hlt' : (k : Int) < (now.length : Int) := by omega
          generalize hx : pt now k = x at e1 e2
          have HX := Lib.hid hx
          clear hx
          have hxn : x ∈ now := by rw [← HX.out]; unfold pt; rw [List.getD_eq_getElem?_getD, List.getElem?_eq_getElem hlt]; simp
          have hxi : Hid (inside g x = true) := HH.out.wi.ins _ (HH.out.wi.sub _ hxn)
          obtain ⟨x1, x2, x3, x4⟩ := inG_of HR.out hxi.out
          have E5 : Ext w1 (w1.alloc (.cells #[.int .i64 x.1, .int .i64 x.2] 27)) := (Ext.refl _).alloc _
          have htk : Hid (now.take (k + 1) = now.take k ++ [x]) := by
            show _ = _
            rw [List.take_succ_eq_append_getElem hlt]
            congr 2
            rw [← HX.out]; unfold pt
            rw [List.getD_eq_getElem?_getD, List.getElem?_eq_getElem hlt]; simp
          obtain ⟨fn, tmps, assign, body, hy, hR⟩ := HY.out (pre ++ (now.take k).map (fun q => (q, far))) (x, far) (w1.alloc (.cells #[.int .i64 x.1, .int .i64 x.2] 27)) (by
            rw [HH.out.eq, hw.out, List.append_assoc, List.prefix_append_right_inj]
            rw [show (now.take k).map (fun q => (q, far)) ++ [(x, far)] = (now.take (k + 1)).map (fun q => (q, far)) from by rw [htk.out]; simp]
            exact List.IsPrefix.trans (List.IsPrefix.map _ (List.take_prefix _ _)) (List.prefix_append _ _)) (by simp; omega) (HJ.out _ _ _ h.j (E5.mono (by omega)))
          dsimp only at hy
          gi_wp2
          refine ⟨rfl, hR.mono ?_⟩
          clear hy hR
          rintro e w2 (⟨rfl, hj2, hk2⟩ | ⟨rfl, hj2, hk2⟩)
          · have K2 : Hid (Kept (fun k => (k < W.heap.size ∧ ¬ MdC k) ∨ W.heap.size ≤ k) W.heap.size w1 w2) := (Kept.ext E5 _ _).trans hk2
            have F1' : w2.cell? ⟨pb, 0, none⟩ = some (.int .i64 p.1) := K2.out.cell (p := ⟨pb, 0, none⟩) (.inl ⟨zp, m1⟩) F1
            have F2' : w2.cell? ⟨pb, 1, none⟩ = some (.int .i64 p.2) := K2.out.cell (p := ⟨pb, 1, none⟩) (.inl ⟨zp, m1⟩) F2
            have F3' : w2.cell? ⟨gb, 0, none⟩ = some (.int .i64 g.rows) := K2.out.cell (p := ⟨gb, 0, none⟩) (.inl ⟨zg, m2⟩) F3
            have F4' : w2.cell? ⟨gb, 1, none⟩ = some (.int .i64 g.cols) := K2.out.cell (p := ⟨gb, 1, none⟩) (.inl ⟨zg, m2⟩) F4
            have F5' : w2.cell? ⟨gb, 2, none⟩ = some (.slice ga g.bl.length gc) := K2.out.cell (p := ⟨gb, 2, none⟩) (.inl ⟨zg, m2⟩) F5
            have X1 : w2.cell? ⟨w1.heap.size, 0, none⟩ = some (.int .i64 x.1) := hk2.cell (p := ⟨w1.heap.size, 0, none⟩) (.inr (by simp; omega)) (by go_simp)
            have X2 : w2.cell? ⟨w1.heap.size, 1, none⟩ = some (.int .i64 x.2) := hk2.cell (p := ⟨w1.heap.size, 1, none⟩) (.inr (by simp; omega)) (by go_simp)
            have HC2 : Hid (Cells2 w2 ga g.bl) := h.fx.hc.kept K2.out (fun b off hb hne => .inl ⟨hbl.out hne b off hb, m3 hne b off hb⟩)
            have CN2 : Hid (Cells2 w2 (some ⟨b, off, none⟩) now) := h.cn.kept K2.out (fun b' off' hb hne => .inr (by have := HH.out.ab b' off' (by rw [hb]); omega))
            have SN2 : Hid (SeenAt w2 W.heap.size (expand g seen [] (now.take k)).1) := h.fx.sn.kept K2.out (.inr (Nat.le_refl _))
            have N1' : w2.cell? ⟨nb, 0, none⟩ = some v := K2.out.cell (p := ⟨nb, 0, none⟩) (.inr (by simp; omega)) n1
            have N2' : w2.frozen? ⟨nb, 0, none⟩ = false := (K2.out.frozen (p := ⟨nb, 0, none⟩) (.inr (by simp; omega)) n1).trans n2
            have N3' : Hid (Owns w2 v (expand g seen [] (now.take k)).2) := n3.kept K2.out (fun b hb => .inr (by have := n4 b hb; omega))
            have MS2 : Hid (Marks W.heap.size ds1 w2) := h.ms.keptX K2.out (fun D hD _ => .inr hD)
            have HJ2 := Lib.hid hj2
            have zw : w1.heap.size < w2.heap.size := by have := hk2.1; simp at this; omega
            have n4' := Lib.hid n4
            clear hj2 hk2 h n1 n2 n3 n4 e1 e2 F1 F2 F3 F4 F5 E5 hz
            gi_wp2_with (refine ⟨trivial, rfl, ?_⟩; gi_at_call 20; refine (callsIn_wide.2 (around_any g x _ _)).mono ?_; rintro e w3 ⟨rfl, hw3⟩)
            have E6 : Ext w2 w3 := by rw [← hw3]; exact ((Ext.refl _).alloc _).alloc _
            have hz3 : w3.heap.size = w2.heap.size + 2 := by rw [← hw3]; simp
            have G1 : w3.cell? ⟨w2.heap.size, 0, none⟩ = some (.int .i64 g.rows) := by rw [← hw3, World.cell?_alloc2_first]; rfl
            have G2 : w3.cell? ⟨w2.heap.size, 1, none⟩ = some (.int .i64 g.cols) := by rw [← hw3, World.cell?_alloc2_first]; rfl
            have G3 : w3.cell? ⟨w2.heap.size, 2, none⟩ = some (.slice ga g.bl.length gc) := by rw [← hw3, World.cell?_alloc2_first]; rfl
            have P1 : w3.cell? ⟨w2.heap.size + 1, 0, none⟩ = some (.int .i64 x.1) := by rw [← hw3, World.cell?_alloc2_new]; rfl
            have P2 : w3.cell? ⟨w2.heap.size + 1, 1, none⟩ = some (.int .i64 x.2) := by rw [← hw3, World.cell?_alloc2_new]; rfl
            have XI := expand_inv (now.take k) seen [] ⟨HH.out.wi.nd, HH.out.wi.ins, fun q hq => by cases hq⟩
            have XL := XI.1.len HR.out
            have XS := XI.2
            have hvl : ∀ b, v.ownBlock = some b → nb < b ∧ b < w2.heap.size := fun b hb => ⟨n4'.out b hb, N3'.out.lt hb⟩
            have hnbz : nb < w2.heap.size := cell_lt N1'
            have HNX : ∀ D, W.heap.size ≤ D → w3.heap[D]? = some (.deferred (some [])) → ¬ inWave W.heap.size nb v D := by
              rintro D _ hD (h | h | h)
              · have := isCells_of_cell (p := ⟨W.heap.size, _, none⟩) ((SN2.out.ext E6) (0, 0) ⟨by decide, by decide, by decide, by decide⟩).1 (h ▸ hD)
                cases this
              · have := isCells_of_cell (p := ⟨nb, 0, none⟩) (E6.cell N1') (h ▸ hD)
                cases this
              · have := (N3'.out.ext E6).isCells h hD
                cases this
            have hJ3 : J (pre ++ (now.take k).map (fun q => (q, far)) ++ [(x, far)]) w3 := HJ.out _ _ _ HJ2.out (E6.mono (by omega))
            refine wpIn_wide.2 (wave1_range _ _ rfl g x ga gc w3 (w2.heap.size + 1) w2.heap.size W.heap.size nb (fun k => ((k < W.heap.size ∧ ¬ MdC k) ∨ W.heap.size ≤ k) ∧ ¬ inWave W.heap.size nb v k)
              (expand g seen [] (now.take k)).1 (expand g seen [] (now.take k)).2 v (J (pre ++ (now.take k).map (fun q => (q, far)) ++ [(x, far)]))
              HR.out hxi.out XI.1 (by simp at XS; omega) P1 P2 G1 G2 G3 (HC2.out.ext E6) ?_ ?_ ?_ (fun k h => h.2) (fun A B h hb => HJ.out _ _ _ h hb) hn0 (by omega) (fun b hb => by have := hvl b hb; omega)
              hJ3 (SN2.out.ext E6) (E6.cell N1') ((Below.frozen E6 (p := ⟨nb, 0, none⟩) (cell_lt N1')).trans N2') (N3'.out.ext E6) _ _ _ _ _ _ _ _ _ _ _ _ _ _ _ _ _ _ _ _ _ _ _ _ _ _ _ _ _ _ _ _ _ _ _ _ _ _ _ _ _ _ _ _ _ _ _ _ _ _ _ _ _ _ _ _ ds1 _ ?_)
            · rintro (h | h | h)
              · omega
              · omega
              · have := hvl _ h; omega
            · rintro (h | h | h)
              · omega
              · omega
              · have := hvl _ h; omega
            · rintro hne b' off' hb' (h | h | h)
              · have := hbl.out hne b' off' hb'; omega
              · have := hbl.out hne b' off' hb'; omega
              · have := hbl.out hne b' off' hb'; have := hvl _ h; omega
            · intro D w4 k1 k2 k3 k4
              gi_wp2
              have hD1 : ∀ k, W.heap.size ≤ k → k ≠ W.heap.size → k ≠ nb → v.ownBlock ≠ some k → ((k < W.heap.size ∧ ¬ MdC k) ∨ W.heap.size ≤ k) ∧ ¬ inWave W.heap.size nb v k := by
                intro k h1 h2 h3 h4
                exact ⟨.inr h1, by rintro (h | h | h); exact h2 h; exact h3 h; exact h4 h⟩
              have hlow : ∀ k, k < W.heap.size → ¬ MdC k → ((k < W.heap.size ∧ ¬ MdC k) ∨ W.heap.size ≤ k) ∧ ¬ inWave W.heap.size nb v k := by
                intro k h1 h2
                refine ⟨.inl ⟨h1, h2⟩, ?_⟩
                rintro (h | h | h)
                · omega
                · omega
                · have := hvl _ h; omega
              have hex : addN (expand g seen [] (now.take k)).1 (expand g seen [] (now.take k)).2 (near g x) = expand g seen [] (now.take (k + 1)) := by rw [htk.out, expand_snoc]
              have hnw : ∀ b' off', some (⟨b, off, none⟩ : Addr) = some ⟨b', off', none⟩ → now ≠ [] → b' < nb ∧ W.heap.size < b' := by
                intro b' off' hb' hne
                have h1 := HH.out.cn.lt hne hb'
                rw [HNB.out] at h1
                exact ⟨h1, HH.out.ab b' off' hb'⟩
              refine ⟨⟨k + 1, mark D :: ds1, _, _, _, _, _, _, _, _, _, _, _, _, _, _, _, _, _, _, _, _, _, _, _, _, _, _, _, _, _, _, _, _, _, _, _, _, _, _, _, _, _, _, _, _, _, _, _, _, _, rfl, ?_⟩, by simp [fuel, intOf]; omega⟩
              exact {
                le := hlt
                j := by
                  have := k3.j
                  rw [htk.out]
                  simpa using this
                fx := ⟨k3.kp.cell (p := ⟨pb, 0, none⟩) (hlow pb zp m1) (E6.cell F1'), k3.kp.cell (p := ⟨pb, 1, none⟩) (hlow pb zp m1) (E6.cell F2'), k3.kp.cell (p := ⟨gb, 0, none⟩) (hlow gb zg m2) (E6.cell F3'),
                  k3.kp.cell (p := ⟨gb, 1, none⟩) (hlow gb zg m2) (E6.cell F4'), k3.kp.cell (p := ⟨gb, 2, none⟩) (hlow gb zg m2) (E6.cell F5'),
                  (HC2.out.ext E6).kept k3.kp (fun b' off' hb' hne => hlow b' (hbl.out hne b' off' hb') (m3 hne b' off' hb')), by rw [← hex]; exact k3.sn⟩
                cn := (CN2.out.ext E6).kept k3.kp (fun b' off' hb' hne => by
                  have h1 := hnw b' off' hb' hne
                  exact hD1 b' (by omega) (by omega) (by omega) (fun h => by have := (hvl _ h).1; omega))
                nx := by
                  obtain ⟨v', y1, y2, y3, y4⟩ := k3.nx
                  refine ⟨v', y1, y2, by rw [← hex]; exact y3, fun b' hb' => ?_⟩
                  rcases y4 with y4 | ⟨c, y4, y5⟩
                  · rw [y4] at hb'; exact n4'.out b' hb'
                  · rw [y4] at hb'; cases hb'; omega
                ms := Marks.cons (MS2.out.ext E6) k1 (by omega) ((MS2.out.ext E6).keptX k3.kp (fun D' hD' hm' => ⟨.inr hD', HNX D' hD' hm'⟩)) k4 }
          · gi_wp2
            refine leaves_marks (v := .tuple #[]) (fun w => results_none rfl _ _ _) _ _ (h.ms.keptX (Kept.ext' (Kept.refl (fun k => (k < W.heap.size ∧ ¬ MdC k) ∨ W.heap.size ≤ k) _ _) E5 |>.trans hk2) (fun D hD _ => .inr hD)) (fun w' hw' => ⟨⟨_, rfl⟩, .inr ⟨_, ?_, HJx.out _ _ _ hj2 hw'⟩⟩)
            rw [HH.out.eq, hw.out, List.append_assoc, List.prefix_append_right_inj]
            rw [show (now.take k).map (fun q => (q, far)) ++ [(x, far)] = (now.take (k + 1)).map (fun q => (q, far)) from by rw [htk.out]; simp]
            exact List.IsPrefix.trans (List.IsPrefix.map _ (List.take_prefix _ _)) (List.prefix_append _ _)
        · have hkk : k = now.length := by omega
          subst hkk
          obtain ⟨av, cv, rfl, hrd, hbk⟩ := n3.reads
          have XI := expand_inv now seen [] ⟨HH.out.wi.nd, HH.out.wi.ins, fun q hq => by cases hq⟩
          have XL := XI.1.len HR.out
          have XS := XI.2
          rw [List.take_length] at hrd hbk n4
          gi_wp2
          refine ⟨⟨f, far + 1, (expand g seen [] now).1, (expand g seen [] now).2, pre ++ now.map (fun q => (q, far)), av, cv, ds1, _, _, _, _, _, _, _, _, _, _, _, _, _, _, _, _, _, _, _, _, _, _, _, _, _, _, _, _, _, _, _, _, _, _, _, _, _, _, _, _, _, _, _, _, _, _, _, _, _, _, _, _, _, by go_num, ?_⟩, by simp [fuel, intOf]; omega⟩
          exact {
            eq := by rw [HH.out.eq, hw.out, List.append_assoc]
            fu := by have := HH.out.fu; omega
            gr := fun hne => by
              have h1 := HH.out.gr hnow
              have h2 := List.length_pos_iff.2 hne
              simp at XS
              omega
            wi := XI.1
            nl := by simp at XS; omega
            j := by have := h.j; rwa [List.take_length] at this
            fx := by have := h.fx; rwa [List.take_length] at this
            cn := hrd
            ab := fun b' off' hb' => by have := n4 _ (hbk b' off' hb'); omega
            ms := h.ms }
end Go.Proofs.Ytechakkdcllgoaa
/- The table of distances, in plain Lean; and how it lies in memory. -/
namespace Go.Proofs.Ytechakkdcllgoaa
open Go.RowKit

/-- what the last pair says of a cell, -1 if none does -/
def far (l : List (Pt × Nat)) (q : Pt) : Int := l.foldl (fun d x => if x.1 = q then (x.2 : Int) else d) (-1)
theorem far_snoc (l : List (Pt × Nat)) (x : Pt × Nat) (q : Pt) : far (l ++ [x]) q = if x.1 = q then (x.2 : Int) else far l q := by
  unfold far
  rw [List.foldl_append]
  rfl
/-- the distance from a cell, -1 where there is no route -/
def dst (g : Gr) (p q : Pt) : Int := far (wave g p) q

theorem waves_inside (g : Gr) : ∀ (f : Nat) (seen now : List Pt) (n : Nat), WI g seen now → ∀ x ∈ waves g f seen now n, inside g x.1 = true := by
  intro f
  induction f with
  | zero => intro seen now n _ x hx; cases hx
  | succ f ih =>
    intro seen now n h x hx
    unfold waves at hx
    split at hx
    · cases hx
    · rcases List.mem_append.1 hx with hx | hx
      · obtain ⟨q, hq, rfl⟩ := List.mem_map.1 hx
        exact h.ins _ (h.sub _ hq)
      · exact ih _ _ _ (expand_inv now seen [] ⟨h.nd, h.ins, fun q hq => by cases hq⟩).1 x hx
theorem wave_inside {g : Gr} {p : Pt} (hp : inside g p = true) : ∀ x ∈ wave g p, inside g x.1 = true := by
  unfold wave
  exact waves_inside g _ _ _ _ ⟨by simp, fun q hq => by simp at hq; subst hq; exact hp, fun q hq => hq⟩

/-- the first i cells of a table are -1, the others 0 -/
def FillAt (w : World) (tb i : Nat) : Prop := ∀ k, k < 4096 → w.cell? ⟨tb, k, none⟩ = some (.int .i64 (if k < i then -1 else 0)) ∧ w.frozen? ⟨tb, k, none⟩ = false
theorem FillAt.set {w : World} {tb i : Nat} (h : FillAt w tb i) (hi : i < 4096) : FillAt (w.setCell ⟨tb, i, none⟩ (.int .i64 (-1))) tb (i + 1) := fun k hk => by
  refine ⟨?_, by rw [World.frozen?_setCell]; exact (h k hk).2⟩
  by_cases e : k = i
  · subst e
    rw [World.cell?_setCell_same _ _ _ (h k hk).1, if_pos (by omega)]
  · rw [World.cell?_setCell_other _ _ _ _ (fun h => by simp only [Addr.mk.injEq] at h; omega), (h k hk).1]
    by_cases h1 : k < i
    · rw [if_pos h1, if_pos (by omega)]
    · rw [if_neg h1, if_neg (by omega)]
theorem FillAt.below {m tb i : Nat} {A B : World} (hs : FillAt A tb i) (h : Below m A B) (hm : tb < m) : FillAt B tb i := fun k hk =>
  ⟨(h.cell (p := ⟨tb, _, none⟩) hm).trans (hs k hk).1, (h.frozen (p := ⟨tb, _, none⟩) hm).trans (hs k hk).2⟩

/-- a table says D -/
def TabAt (w : World) (tb : Nat) (D : Pt → Int) : Prop :=
  ∀ q : Pt, InG q → w.cell? ⟨tb, q.1.toNat * 64 + q.2.toNat, none⟩ = some (.int .i64 (D q)) ∧ w.frozen? ⟨tb, q.1.toNat * 64 + q.2.toNat, none⟩ = false
theorem TabAt.below {m tb : Nat} {D : Pt → Int} {A B : World} (hs : TabAt A tb D) (h : Below m A B) (hm : tb < m) : TabAt B tb D := fun q hq =>
  ⟨(h.cell (p := ⟨tb, _, none⟩) hm).trans (hs q hq).1, (h.frozen (p := ⟨tb, _, none⟩) hm).trans (hs q hq).2⟩
theorem TabAt.lt {w : World} {tb : Nat} {D : Pt → Int} (h : TabAt w tb D) : tb < w.heap.size := cell_lt (h (0, 0) ⟨by decide, by decide, by decide, by decide⟩).1
theorem TabAt.ext {tb : Nat} {D : Pt → Int} {A B : World} (hs : TabAt A tb D) (h : Ext A B) : TabAt B tb D := hs.below h hs.lt
theorem TabAt.set {tb : Nat} {A : World} {l : List (Pt × Nat)} (hs : TabAt A tb (far l)) {x : Pt × Nat} (hp : InG x.1) :
    TabAt (A.setCell ⟨tb, x.1.1.toNat * 64 + x.1.2.toNat, none⟩ (.int .i64 x.2)) tb (far (l ++ [x])) := fun q hq => by
  refine ⟨?_, by rw [World.frozen?_setCell]; exact (hs q hq).2⟩
  rw [far_snoc]
  by_cases e : x.1 = q
  · subst e
    rw [World.cell?_setCell_same A _ _ (hs x.1 hq).1, if_pos rfl]
  · rw [World.cell?_setCell_other A _ _ _ (by
      intro h
      simp only [Addr.mk.injEq, true_and, and_true] at h
      exact e (idx_inj hp hq h)), (hs q hq).1, if_neg e]
theorem FillAt.tab {w : World} {tb : Nat} (h : FillAt w tb 4096) : TabAt w tb (far []) := fun q hq => by
  have hl := idx_lt hq
  have := h (q.1.toNat * 64 + q.2.toNat) hl
  rw [if_pos (show q.1.toNat * 64 + q.2.toNat < 4096 from hl)] at this
  exact this
end Go.Proofs.Ytechakkdcllgoaa
/- The table of distances: the loop over the wave. -/
namespace Go.Proofs.Ytechakkdcllgoaa
open Go.RowKit
attribute [local go_sem] Oper.semAt_some

set_option maxHeartbeats 4000000 in
set_option maxRecDepth 100000 in
theorem dist_range (cas cbd : Code) (hcode : rngOf (Try.f10.body.getD .skip) = [(cas, cbd)]) (g : Gr) (p : Pt) (ga : Option Addr) (gc : Nat) (w3 : World) (pb gb ob tb : Nat)
    (hr : Right g) (hp : inside g p = true)
    (p1 : w3.cell? ⟨pb, 0, none⟩ = some (.int .i64 p.1)) (p2 : w3.cell? ⟨pb, 1, none⟩ = some (.int .i64 p.2))
    (g1 : w3.cell? ⟨gb, 0, none⟩ = some (.int .i64 g.rows)) (g2 : w3.cell? ⟨gb, 1, none⟩ = some (.int .i64 g.cols)) (g3 : w3.cell? ⟨gb, 2, none⟩ = some (.slice ga g.bl.length gc))
    (hc : Cells2 w3 ga g.bl) (m1 : pb ≠ tb) (m2 : gb ≠ tb) (m3 : g.bl ≠ [] → ∀ b off, ga = some ⟨b, off, none⟩ → b ≠ tb) (hob : ob ≠ tb)
    (o1 : w3.cell? ⟨ob, 0, none⟩ = some (.pointer (some ⟨tb, 0, none⟩))) (t0 : TabAt w3 tb (far []))
    (u0 u1 u2 u3 u4 u6 u7 u8 u9 u10 u11 u12 u13 u14 u15 u16 u17 u18 u19 u20 u21 u22 u23 u24 u25 u26 u27 u29 u30 u31 u32 u33 u34 u35 u36 u37 u38 u39 u40 : Value) (ds : List Deferred) (Q : Exit → Act → World → Prop)
    (hdone : ∀ (D : Nat) (W : World), w3.heap.size ≤ D → D < W.heap.size → TabAt W tb (dst g p) → Below tb w3 W → W.cell? ⟨ob, 0, none⟩ = some (.pointer (some ⟨tb, 0, none⟩)) → W.heap[D]? = some (.deferred (some [])) →
      Q .normal { tmps := #[u0, u1, u2, u3, u4, .pointer (some ⟨ob, 0, none⟩), u6, u7, u8, u9, u10, u11, u12, u13, u14, u15, u16, u17, u18, u19, u20, u21, u22, u23, u24, u25, u26, u27, .func (.func 30) #[] #[.pointer (some ⟨pb, 0, none⟩), .pointer (some ⟨gb, 0, none⟩)], u29, u30, u31, u32, u33, u34, u35, u36, u37, u38, u39, u40], defers := mark D :: ds } W) :
    (Code.rangeFunc (.tmp 28) #[29, 30] cas cbd).wp Try.prog Q { tmps := #[u0, u1, u2, u3, u4, .pointer (some ⟨ob, 0, none⟩), u6, u7, u8, u9, u10, u11, u12, u13, u14, u15, u16, u17, u18, u19, u20, u21, u22, u23, u24, u25, u26, u27, .func (.func 30) #[] #[.pointer (some ⟨pb, 0, none⟩), .pointer (some ⟨gb, 0, none⟩)], u29, u30, u31, u32, u33, u34, u35, u36, u37, u38, u39, u40], defers := ds } w3 := by
  have HC := Lib.hid hcode
  have HR := Lib.hid hr
  have HP := Lib.hid hp
  have ht := t0.lt
  have hz := cell_lt o1
  dsimp only at hz
  refine wp_range (n := 0) (gf := 30) (lb := #[.pointer (some ⟨pb, 0, none⟩), .pointer (some ⟨gb, 0, none⟩)]) rfl (enters_of Try.func30 (by kernel_rfl) rfl)
    (wave1_iter g p ga gc w3 pb gb (fun k => k = tb) hr hp p1 p2 g1 g2 g3 hc m1 m2 m3) (fun q => rfl)
    (fun A B h k o hk ho => by rw [Below.block h k hk]; exact ho)
    (fun pre W => TabAt W tb (far pre) ∧ Below tb w3 W ∧ W.cell? ⟨ob, 0, none⟩ = some (.pointer (some ⟨tb, 0, none⟩))) (fun _ _ _ => False)
    (fun pre A B h k => ⟨h.1.below k (by omega), h.2.1.trans (k.mono (by omega)), (k.cell (p := ⟨ob, 0, none⟩) (by show ob < _; omega)).trans h.2.2⟩) (fun _ _ _ _ h _ => h.elim)
    (fun pre A B h k => ⟨h.1.below k.1 ht, h.2.1.trans (k.1.mono (by omega)), (k.1.cell (p := ⟨ob, 0, none⟩) hz).trans h.2.2⟩) (fun _ _ _ _ h _ => h.elim)
    ⟨t0, Below.refl _ _, o1⟩
    (fun (x : Pt × Nat) a' W => ∃ qb, w3.heap.size + 2 ≤ qb ∧ W.cell? ⟨qb, 0, none⟩ = some (.int .i64 x.1.1) ∧ W.cell? ⟨qb, 1, none⟩ = some (.int .i64 x.1.2) ∧ a' = { tmps := #[u0, u1, u2, u3, u4, .pointer (some ⟨ob, 0, none⟩), u6, u7, .pointer (some ⟨qb, 0, none⟩), .int .i64 x.2, u10, u11, u12, u13, u14, u15, u16, u17, u18, u19, u20, u21, u22, u23, u24, u25, u26, u27, .func (.func 30) #[] #[.pointer (some ⟨pb, 0, none⟩), .pointer (some ⟨gb, 0, none⟩)], .agg #[.int .i64 x.1.1, .int .i64 x.1.2], .int .i64 x.2, u31, u32, u33, u34, u35, u36, u37, u38, u39, u40], defers := [] })
    ?hax ?assign ?body (fun pre A B h k => ⟨h.1.ext k, h.2.1.trans (k.mono (by have := h.2.1.size; omega)), k.cell h.2.2⟩) ?done (fun _ _ _ _ _ _ _ h _ => h.elim)
  case hax =>
    rintro q a' A B ⟨qb, h1, h2, h3, h4⟩ hk
    exact ⟨qb, h1, hk.cell h2, hk.cell h3, h4⟩
  case assign =>
    simp only [Try.f10, rngOf, Option.getD, List.nil_append, List.append_nil] at hcode
    cases hcode
    intro l pre x W K hm hI hK
    clear HC
    gi_wp2
    exact hK _ _ ((Ext.refl _).alloc _) ⟨W.heap.size, by omega, by go_simp, by go_simp, rfl⟩
  case body =>
    simp only [Try.f10, rngOf, Option.getD, List.nil_append, List.append_nil] at hcode
    cases hcode
    rintro l pre x a' W hpre hm hI ⟨qb, hqb, q1, q2, rfl⟩
    have hxi : inside g x.1 = true := wave_inside hp x (hpre.subset (by simp))
    obtain ⟨r1, r2, r3, r4⟩ := inG_of HR.out hxi
    obtain ⟨hT, hB, hO⟩ := hI
    have c1 := (hT x.1 ⟨r1, r2, r3, r4⟩).1
    have c2 := (hT x.1 ⟨r1, r2, r3, r4⟩).2
    have HT := Lib.hid hT
    have HB := Lib.hid hB
    clear HC hT hB hp hr hxi hpre m3 hc t0 o1 p1 p2 g1 g2 g3
    gi_wp2
    refine round_tail 9 (by kernel_rfl) (by kernel_rfl) (by kernel_rfl) (fun ⟨_, _, h⟩ => h) ?_
    simp only [List.take_succ_cons, List.take_zero, List.drop_succ_cons, List.drop_zero]
    repeat still_step
    refine wpStill_nil ?_
    go_wp2
    have C : Chg (fun k => k = tb) W (W.setCell ⟨tb, x.1.1.toNat * 64 + x.1.2.toNat, none⟩ (.int .i64 x.2)).drew := (Chg.setCell (B := fun k => k = tb) ⟨tb, _, none⟩ _ rfl).trans (Chg.ext (Ext.refl _).drew)
    refine ⟨C.kept ?_, (C.others ?_).from _, (HT.out.set ⟨r1, r2, r3, r4⟩).ext (Ext.refl _).drew, (HB.out.setCell (p := ⟨tb, _, none⟩) (Nat.le_refl _) _).drew, ?_⟩
    · rintro k (⟨_, h⟩ | h) _ e
      · exact h e
      · omega
    · rintro k rfl o ho
      exact isCells_of_cell c1 ho
    · refine (Ext.refl _).drew.cell ?_
      rw [World.cell?_setCell_other _ _ _ _ (fun h => by simp only [Addr.mk.injEq] at h; omega)]
      exact hO
  case done =>
    rintro D W h1 h2 ⟨h3, h4, h5⟩ h6
    exact hdone D W h1 h2 h3 h4 h5 h6
end Go.Proofs.Ytechakkdcllgoaa
/- The table of distances. -/
namespace Go.Proofs.Ytechakkdcllgoaa
open Go.RowKit
attribute [local go_sem] Oper.semAt_some

theorem zero_tab : Try.zeroCells60 = Array.replicate 4096 (.int .i64 0) := by kernel_rfl

set_option maxHeartbeats 4000000 in
set_option maxRecDepth 100000 in
theorem distances_any (g : Gr) (p : Pt) (ga : Option Addr) (gc : Nat) (w : World) (hr : Right g) (hp : inside g p = true) (hc : Cells2 w ga g.bl) :
    Calls Try.prog 10 #[.agg #[.int .i64 g.rows, .int .i64 g.cols, .slice ga g.bl.length gc], .agg #[.int .i64 p.1, .int .i64 p.2]] w fun e w' => ∃ tb, e = .returned (.pointer (some ⟨tb, 0, none⟩)) ∧ TabAt w' tb (dst g p) ∧ Ext w w' := by
  have HR := Lib.hid hr
  have HC : Hid (Cells2 w ga g.bl) := hc
  have HP := Lib.hid hp
  clear hc hr hp
  refine (callsIn_wide (n := 0)).1 ?_
  refine callsIn_of_wp_marks Try.func10 rfl trivial ?_
  simp only [Try.ntmps10, List.size_toArray, List.length_cons, List.length_nil, Nat.reduceAdd, Nat.reduceSub, Array.replicate_succ, Array.replicate_zero, List.push_toArray, List.append_toArray, List.nil_append, List.cons_append]
  gi_wp2
  have E0 : Ext w ((((w.alloc (.cells #[.int .i64 g.rows, .int .i64 g.cols, .slice ga g.bl.length gc] 25)).alloc (.cells #[.int .i64 p.1, .int .i64 p.2] 27)).alloc (.cells Try.zeroCells60 60)).alloc (.cells #[.pointer (some ⟨w.heap.size + 1 + 1, 0, none⟩)] 44)) := ((((Ext.refl _).alloc _).alloc _).alloc _).alloc _
  have g1 : ((((w.alloc (.cells #[.int .i64 g.rows, .int .i64 g.cols, .slice ga g.bl.length gc] 25)).alloc (.cells #[.int .i64 p.1, .int .i64 p.2] 27)).alloc (.cells Try.zeroCells60 60)).alloc (.cells #[.pointer (some ⟨w.heap.size + 1 + 1, 0, none⟩)] 44)).cell? ⟨w.heap.size, 0, none⟩ = some (.int .i64 g.rows) := by go_simp
  have g2 : ((((w.alloc (.cells #[.int .i64 g.rows, .int .i64 g.cols, .slice ga g.bl.length gc] 25)).alloc (.cells #[.int .i64 p.1, .int .i64 p.2] 27)).alloc (.cells Try.zeroCells60 60)).alloc (.cells #[.pointer (some ⟨w.heap.size + 1 + 1, 0, none⟩)] 44)).cell? ⟨w.heap.size, 1, none⟩ = some (.int .i64 g.cols) := by go_simp
  have g3 : ((((w.alloc (.cells #[.int .i64 g.rows, .int .i64 g.cols, .slice ga g.bl.length gc] 25)).alloc (.cells #[.int .i64 p.1, .int .i64 p.2] 27)).alloc (.cells Try.zeroCells60 60)).alloc (.cells #[.pointer (some ⟨w.heap.size + 1 + 1, 0, none⟩)] 44)).cell? ⟨w.heap.size, 2, none⟩ = some (.slice ga g.bl.length gc) := by go_simp
  have p1 : ((((w.alloc (.cells #[.int .i64 g.rows, .int .i64 g.cols, .slice ga g.bl.length gc] 25)).alloc (.cells #[.int .i64 p.1, .int .i64 p.2] 27)).alloc (.cells Try.zeroCells60 60)).alloc (.cells #[.pointer (some ⟨w.heap.size + 1 + 1, 0, none⟩)] 44)).cell? ⟨w.heap.size + 1, 0, none⟩ = some (.int .i64 p.1) := by go_simp
  have p2 : ((((w.alloc (.cells #[.int .i64 g.rows, .int .i64 g.cols, .slice ga g.bl.length gc] 25)).alloc (.cells #[.int .i64 p.1, .int .i64 p.2] 27)).alloc (.cells Try.zeroCells60 60)).alloc (.cells #[.pointer (some ⟨w.heap.size + 1 + 1, 0, none⟩)] 44)).cell? ⟨w.heap.size + 1, 1, none⟩ = some (.int .i64 p.2) := by go_simp
  have o1 : ((((w.alloc (.cells #[.int .i64 g.rows, .int .i64 g.cols, .slice ga g.bl.length gc] 25)).alloc (.cells #[.int .i64 p.1, .int .i64 p.2] 27)).alloc (.cells Try.zeroCells60 60)).alloc (.cells #[.pointer (some ⟨w.heap.size + 1 + 1, 0, none⟩)] 44)).cell? ⟨w.heap.size + 1 + 1 + 1, 0, none⟩ = some (.pointer (some ⟨w.heap.size + 1 + 1, 0, none⟩)) := by go_simp
  have F0 : Hid (FillAt ((((w.alloc (.cells #[.int .i64 g.rows, .int .i64 g.cols, .slice ga g.bl.length gc] 25)).alloc (.cells #[.int .i64 p.1, .int .i64 p.2] 27)).alloc (.cells Try.zeroCells60 60)).alloc (.cells #[.pointer (some ⟨w.heap.size + 1 + 1, 0, none⟩)] 44)) (w.heap.size + 1 + 1) 0) := fun k hk => by
    have h1 : (((w.alloc (.cells #[.int .i64 g.rows, .int .i64 g.cols, .slice ga g.bl.length gc] 25)).alloc (.cells #[.int .i64 p.1, .int .i64 p.2] 27)).alloc (.cells Try.zeroCells60 60)).cell? ⟨w.heap.size + 1 + 1, k, none⟩ = some (.int .i64 0) := by
      have := World.cell?_alloc_new ((w.alloc (.cells #[.int .i64 g.rows, .int .i64 g.cols, .slice ga g.bl.length gc] 25)).alloc (.cells #[.int .i64 p.1, .int .i64 p.2] 27)) Try.zeroCells60 60 k
      rw [World.size_alloc, World.size_alloc] at this
      rw [this, zero_tab, Array.getElem?_replicate, if_pos hk]
    refine ⟨?_, ?_⟩
    · rw [if_neg (by omega)]
      exact ((Ext.refl _).alloc _).cell h1
    · refine (Below.frozen ((Ext.refl _).alloc _) (p := ⟨w.heap.size + 1 + 1, k, none⟩) (cell_lt h1)).trans ?_
      have := World.frozen?_alloc_new ((w.alloc (.cells #[.int .i64 g.rows, .int .i64 g.cols, .slice ga g.bl.length gc] 25)).alloc (.cells #[.int .i64 p.1, .int .i64 p.2] 27)) Try.zeroCells60 60 k
      rwa [World.size_alloc, World.size_alloc] at this
  generalize (((w.alloc (.cells #[.int .i64 g.rows, .int .i64 g.cols, .slice ga g.bl.length gc] 25)).alloc (.cells #[.int .i64 p.1, .int .i64 p.2] 27)).alloc (.cells Try.zeroCells60 60)).alloc (.cells #[.pointer (some ⟨w.heap.size + 1 + 1, 0, none⟩)] 44) = W at E0 g1 g2 g3 p1 p2 o1 F0 ⊢
  have HB : Hid (g.bl ≠ [] → ∀ b off, ga = some ⟨b, off, none⟩ → b < w.heap.size) := fun hne b off hb => HC.out.lt hne hb
  have zo : w.heap.size + 1 + 1 + 1 < W.heap.size := cell_lt o1
  gi_loopw [12] (fun i wr => ∃ r : Nat, r ≤ 64 ∧ i = .int .i64 r ∧ Hid (FillAt wr (w.heap.size + 1 + 1) (r * 64)) ∧ Hid (Below (w.heap.size + 1 + 1) W wr) ∧ wr.cell? ⟨w.heap.size + 1 + 1 + 1, 0, none⟩ = some (.pointer (some ⟨w.heap.size + 1 + 1, 0, none⟩))) (fun i _ => 64 - (intOf i).toNat)
  case atStart => exact ⟨0, by omega, rfl, F0, Below.refl _ _, o1⟩
  case round =>
    obtain ⟨r, hr, rfl, hf, hb, ho⟩ := hrel
    by_cases hlt : r < 64
    · have hlt' : (r : Int) < 64 := by omega
      gi_wp2
      gi_loopw [15] (fun i wr => ∃ c : Nat, c ≤ 64 ∧ i = .int .i64 c ∧ Hid (FillAt wr (w.heap.size + 1 + 1) (r * 64 + c)) ∧ Hid (Below (w.heap.size + 1 + 1) W wr) ∧ wr.cell? ⟨w.heap.size + 1 + 1 + 1, 0, none⟩ = some (.pointer (some ⟨w.heap.size + 1 + 1, 0, none⟩))) (fun i _ => 64 - (intOf i).toNat)
      case atStart => exact ⟨0, by omega, rfl, hf, hb, ho⟩
      case round =>
        clear hf hb ho
        obtain ⟨c, hc, rfl, hf, hb, ho⟩ := hrel
        by_cases hlc : c < 64
        · have hlc' : (c : Int) < 64 := by omega
          have k1 := (hf.out (r * 64 + c) (by omega)).1
          have k2 := (hf.out (r * 64 + c) (by omega)).2
          gi_wp2
          have HS : FillAt (wr.setCell ⟨w.heap.size + 1 + 1, r * 64 + c, none⟩ (.int .i64 (-1))) (w.heap.size + 1 + 1) (r * 64 + (c + 1)) := by
            have := hf.out.set (show r * 64 + c < 4096 by omega)
            rwa [show r * 64 + c + 1 = r * 64 + (c + 1) from by omega] at this
          refine ⟨⟨c + 1, by omega, by go_num, HS, hb.out.setCell (p := ⟨_, _, none⟩) (Nat.le_refl _) _, ?_⟩, by simp [intOf]; omega⟩
          rw [World.cell?_setCell_other _ _ _ _ (fun h => by simp only [Addr.mk.injEq] at h; omega)]
          exact ho
        · have hlc' : ¬ (c : Int) < 64 := by omega
          gi_wp2
          have hc64 : c = 64 := by omega
          subst hc64
          refine ⟨⟨r + 1, by omega, by go_num, by unfold Hid; rw [show (r + 1) * 64 = r * 64 + 64 from by omega]; exact hf.out, hb, ho⟩, by simp [intOf]; omega⟩
    · have hlt' : ¬ (r : Int) < 64 := by omega
      have hr64 : r = 64 := by omega
      subst hr64
      have g1' : wr.cell? ⟨w.heap.size, 0, none⟩ = some (.int .i64 g.rows) := (hb.out.cell (p := ⟨_, 0, none⟩) (by dsimp only; omega)).trans g1
      have g2' : wr.cell? ⟨w.heap.size, 1, none⟩ = some (.int .i64 g.cols) := (hb.out.cell (p := ⟨_, 1, none⟩) (by dsimp only; omega)).trans g2
      have g3' : wr.cell? ⟨w.heap.size, 2, none⟩ = some (.slice ga g.bl.length gc) := (hb.out.cell (p := ⟨_, 2, none⟩) (by dsimp only; omega)).trans g3
      have p1' : wr.cell? ⟨w.heap.size + 1, 0, none⟩ = some (.int .i64 p.1) := (hb.out.cell (p := ⟨_, 0, none⟩) (by dsimp only; omega)).trans p1
      have p2' : wr.cell? ⟨w.heap.size + 1, 1, none⟩ = some (.int .i64 p.2) := (hb.out.cell (p := ⟨_, 1, none⟩) (by dsimp only; omega)).trans p2
      have HCr : Hid (Cells2 wr ga g.bl) := Cells2.kept (Kd := fun k => k < w.heap.size + 1 + 1) (n := 0) ⟨hb.out.size, fun k o hk ho _ => by rw [hb.out.block k hk]; exact ho⟩ (fun b off hb hne => by have := HB.out hne b off hb; show _ < _; omega) (HC.out.ext E0)
      have TT := Lib.hid hf.out.tab
      have zr : w.heap.size + 1 + 1 + 1 < wr.heap.size := cell_lt ho
      clear g1 g2 g3 p1 p2 o1 F0
      gi_wp2_with (refine ⟨trivial, rfl, ?_⟩; gi_at_call 17; refine (callsIn_wide.2 (wave_any g p _ _)).mono ?_; rintro e w3 ⟨rfl, hw3⟩)
      have E6 : Ext wr w3 := by rw [← hw3]; exact ((Ext.refl _).alloc _).alloc _
      have G1 : w3.cell? ⟨wr.heap.size, 0, none⟩ = some (.int .i64 g.rows) := by rw [← hw3, World.cell?_alloc2_first]; rfl
      have G2 : w3.cell? ⟨wr.heap.size, 1, none⟩ = some (.int .i64 g.cols) := by rw [← hw3, World.cell?_alloc2_first]; rfl
      have G3 : w3.cell? ⟨wr.heap.size, 2, none⟩ = some (.slice ga g.bl.length gc) := by rw [← hw3, World.cell?_alloc2_first]; rfl
      have P1 : w3.cell? ⟨wr.heap.size + 1, 0, none⟩ = some (.int .i64 p.1) := by rw [← hw3, World.cell?_alloc2_new]; rfl
      have P2 : w3.cell? ⟨wr.heap.size + 1, 1, none⟩ = some (.int .i64 p.2) := by rw [← hw3, World.cell?_alloc2_new]; rfl
      refine wpIn_wide.2 (dist_range _ _ rfl g p ga gc w3 (wr.heap.size + 1) wr.heap.size (w.heap.size + 1 + 1 + 1) (w.heap.size + 1 + 1) HR.out HP.out P1 P2 G1 G2 G3 (HCr.out.ext E6) (by omega) (by omega)
        (fun hne b off h => by have := HB.out hne b off h; omega) (by omega) (E6.cell ho) (TT.out.ext E6) _ _ _ _ _ _ _ _ _ _ _ _ _ _ _ _ _ _ _ _ _ _ _ _ _ _ _ _ _ _ _ _ _ _ _ _ _ _ _ [] _ ?_)
      intro D w4 k1 k2 k3 k4 k5 k6
      gi_wp2
      refine leaves_marks (n := w3.heap.size) (v := .pointer (some ⟨w.heap.size + 1 + 1, 0, none⟩)) (fun w => (results_tmp (t := 4) rfl _ _ _).trans rfl) _ _ (Marks.cons (A := w3) (Marks.nil _ _) k1 k1 (Marks.nil _ _) k6) (fun w' hw' => ?_)
      have hz3 : w.heap.size + 1 + 1 < w3.heap.size := by have := E6.size; omega
      refine ⟨_, rfl, k3.below hw' hz3, ?_⟩
      have hzw : w.heap.size ≤ w.heap.size + 1 + 1 := by omega
      refine Below.trans E0 ?_
      refine Below.trans (hb.out.mono hzw) ?_
      refine Below.trans (E6.mono (by omega)) ?_
      exact Below.trans (k4.mono hzw) (hw'.mono (by omega))
end Go.Proofs.Ytechakkdcllgoaa
/- Length. -/
namespace Go.Proofs.Ytechakkdcllgoaa
open Go.RowKit

theorem cells_ok {g : Gr} : ∀ {l : List Pt}, cellsErr g l = 0 → ∀ p ∈ l, opn g p = true := by
  intro l
  induction l with
  | nil => intro _ p hp; cases hp
  | cons a l ih =>
    intro h p hp
    unfold cellsErr at h
    split at h
    · omega
    · split at h
      · omega
      · rename_i h1 h2
        rcases List.mem_cons.1 hp with rfl | hp
        · unfold opn; simp at h1 h2; simp [h1, h2]
        · exact ih h p hp
theorem given_ok {g : Gr} {l : List Pt} (h : givenErr g l = 0) : Right g ∧ ∀ p ∈ l, opn g p = true := by
  unfold givenErr at h
  split at h
  · rename_i h1; exact absurd h h1
  · rename_i h1
    exact ⟨right_of_chk (by simpa using h1), cells_ok h⟩
theorem opn_inside {g : Gr} {p : Pt} (h : opn g p = true) : inside g p = true := by
  unfold opn at h
  simp only [Bool.and_eq_true] at h
  exact h.1
theorem cells2_two {w : World} {b : Nat} {p q : Pt} (h1 : w.cell? ⟨b, 0, none⟩ = some (.int .i64 p.1)) (h2 : w.cell? ⟨b, 1, none⟩ = some (.int .i64 p.2)) (h3 : w.cell? ⟨b, 2, none⟩ = some (.int .i64 q.1)) (h4 : w.cell? ⟨b, 3, none⟩ = some (.int .i64 q.2)) :
    Cells2 w (some ⟨b, 0, none⟩) [p, q] := fun i hi => by
  have : i = 0 ∨ i = 1 := by simp at hi; omega
  rcases this with rfl | rfl
  · exact ⟨b, 0, rfl, by simpa [pt] using h1, by simpa [pt] using h2⟩
  · exact ⟨b, 0, rfl, by simpa [pt] using h3, by simpa [pt] using h4⟩

def lenN (g : Gr) (p q : Pt) : Int := if givenErr g [p, q] ≠ 0 then 0 else if dst g q p < 0 then 0 else dst g q p
def lenE (g : Gr) (p q : Pt) : Int := if givenErr g [p, q] ≠ 0 then givenErr g [p, q] else if dst g q p < 0 then 6 else 0

theorem len_ok {g : Gr} {p q : Pt} (h : givenErr g [p, q] = 0) {neg : Bool} (hn : decide (dst g q p < 0) = neg) : lenN g p q = (if neg = true then 0 else dst g q p) ∧ lenE g p q = (if neg = true then 6 else 0) := by
  unfold lenN lenE
  rw [h]
  cases neg
  · have hn' : ¬ dst g q p < 0 := by simpa using hn
    rw [if_neg hn', if_neg hn']
    exact ⟨rfl, rfl⟩
  · have hn' : dst g q p < 0 := by simpa using hn
    rw [if_pos hn', if_pos hn']
    exact ⟨rfl, rfl⟩

set_option maxHeartbeats 4000000 in
set_option maxRecDepth 100000 in
theorem Length_any (g : Gr) (p q : Pt) (ga : Option Addr) (gc : Nat) (w : World) (hg : g.bl.length ≤ maxLen) (hc : Cells2 w ga g.bl) :
    Calls Try.prog 5 #[.agg #[.int .i64 g.rows, .int .i64 g.cols, .slice ga g.bl.length gc], .agg #[.int .i64 p.1, .int .i64 p.2], .agg #[.int .i64 q.1, .int .i64 q.2]] w fun e w' => e = .returned (.tuple #[.int .i64 (lenN g p q), .int .i64 (lenE g p q)]) ∧ Ext w w' := by
  have HC : Hid (Cells2 w ga g.bl) := hc
  have HG := Lib.hid hg
  clear hc hg
  by_cases h0 : givenErr g [p, q] = 0
  · obtain ⟨hr, ho⟩ := given_ok h0
    have HR := Lib.hid hr
    have HQ : Hid (inside g q = true) := opn_inside (ho q (by simp))
    have HP : Hid (inside g p = true) := opn_inside (ho p (by simp))
    obtain ⟨r1, r2, r3, r4⟩ := inG_of hr HP.out
    have H0 := Lib.hid h0
    clear hr ho h0
    have main : ∀ (neg : Bool), Hid (decide (dst g q p < 0) = neg) → Calls Try.prog 5 #[.agg #[.int .i64 g.rows, .int .i64 g.cols, .slice ga g.bl.length gc], .agg #[.int .i64 p.1, .int .i64 p.2], .agg #[.int .i64 q.1, .int .i64 q.2]] w fun e w' => e = .returned (.tuple #[.int .i64 (if neg then 0 else dst g q p), .int .i64 (if neg then 6 else 0)]) ∧ Ext w w' := by
      intro neg hneg
      have E0 : Ext w ((( (( ((w).alloc (.cells #[.int .i64 g.rows, .int .i64 g.cols, .slice ga g.bl.length gc] 25))).alloc (.cells #[.int .i64 p.1, .int .i64 p.2] 27))).alloc (.cells #[.int .i64 q.1, .int .i64 q.2] 27))) := (((Ext.refl _).alloc _).alloc _).alloc _
      have a1 : ((( (( ((w).alloc (.cells #[.int .i64 g.rows, .int .i64 g.cols, .slice ga g.bl.length gc] 25))).alloc (.cells #[.int .i64 p.1, .int .i64 p.2] 27))).alloc (.cells #[.int .i64 q.1, .int .i64 q.2] 27))).cell? ⟨w.heap.size, 0, none⟩ = some (.int .i64 g.rows) := by go_simp
      have a2 : ((( (( ((w).alloc (.cells #[.int .i64 g.rows, .int .i64 g.cols, .slice ga g.bl.length gc] 25))).alloc (.cells #[.int .i64 p.1, .int .i64 p.2] 27))).alloc (.cells #[.int .i64 q.1, .int .i64 q.2] 27))).cell? ⟨w.heap.size, 1, none⟩ = some (.int .i64 g.cols) := by go_simp
      have a3 : ((( (( ((w).alloc (.cells #[.int .i64 g.rows, .int .i64 g.cols, .slice ga g.bl.length gc] 25))).alloc (.cells #[.int .i64 p.1, .int .i64 p.2] 27))).alloc (.cells #[.int .i64 q.1, .int .i64 q.2] 27))).cell? ⟨w.heap.size, 2, none⟩ = some (.slice ga g.bl.length gc) := by go_simp
      have a4 : ((( (( ((w).alloc (.cells #[.int .i64 g.rows, .int .i64 g.cols, .slice ga g.bl.length gc] 25))).alloc (.cells #[.int .i64 p.1, .int .i64 p.2] 27))).alloc (.cells #[.int .i64 q.1, .int .i64 q.2] 27))).cell? ⟨w.heap.size + 1, 0, none⟩ = some (.int .i64 p.1) := by go_simp
      have a5 : ((( (( ((w).alloc (.cells #[.int .i64 g.rows, .int .i64 g.cols, .slice ga g.bl.length gc] 25))).alloc (.cells #[.int .i64 p.1, .int .i64 p.2] 27))).alloc (.cells #[.int .i64 q.1, .int .i64 q.2] 27))).cell? ⟨w.heap.size + 1, 1, none⟩ = some (.int .i64 p.2) := by go_simp
      have a6 : ((( (( ((w).alloc (.cells #[.int .i64 g.rows, .int .i64 g.cols, .slice ga g.bl.length gc] 25))).alloc (.cells #[.int .i64 p.1, .int .i64 p.2] 27))).alloc (.cells #[.int .i64 q.1, .int .i64 q.2] 27))).cell? ⟨w.heap.size + 1 + 1, 0, none⟩ = some (.int .i64 q.1) := by go_simp
      have a7 : ((( (( ((w).alloc (.cells #[.int .i64 g.rows, .int .i64 g.cols, .slice ga g.bl.length gc] 25))).alloc (.cells #[.int .i64 p.1, .int .i64 p.2] 27))).alloc (.cells #[.int .i64 q.1, .int .i64 q.2] 27))).cell? ⟨w.heap.size + 1 + 1, 1, none⟩ = some (.int .i64 q.2) := by go_simp
      go_enter Try.func5, Try.ntmps5
      go_wp2_with fail
      refine (given_any g [p, q] ga gc _ _ _ HG.out (HC.out.ext (E0.alloc _)) (by simp [maxLen]) (cells2_two (by go_simp) (by go_simp) (by go_simp) (by go_simp))).mono ?_
      rintro e w1 ⟨rfl, hE⟩
      rw [H0.out]
      have E1 : Ext ((( (( ((w).alloc (.cells #[.int .i64 g.rows, .int .i64 g.cols, .slice ga g.bl.length gc] 25))).alloc (.cells #[.int .i64 p.1, .int .i64 p.2] 27))).alloc (.cells #[.int .i64 q.1, .int .i64 q.2] 27))) w1 := ((Ext.refl _).alloc _).trans hE
      have b1 := E1.cell a1
      have b2 := E1.cell a2
      have b3 := E1.cell a3
      have b4 := E1.cell a4
      have b5 := E1.cell a5
      have b6 := E1.cell a6
      have b7 := E1.cell a7
      have E2 : Ext w w1 := E0.trans E1
      have z1 : w.heap.size < w1.heap.size := cell_lt b1
      have z2 : w.heap.size + 1 < w1.heap.size := cell_lt b4
      have z3 : w.heap.size + 1 + 1 < w1.heap.size := cell_lt b6
      clear hE E1 E0 a1 a2 a3 a4 a5 a6 a7
      go_wp2_with fail
      refine wp_region_held_drew (S := fun w' => Sees w1 w') (by kernel_rfl) (by repeat (first | exact Sees.refl _ | assumption | apply Sees.drew)) (fun hHeld => ?_)
      ((refine wpAnyH_take (i := 0) (oi := ?_) (v := ?_) ?_ (by kernel_rfl) (by kernel_rfl) (by kernel_rfl) ?_ ?_ (by assumption) ?_; rotate_left 2; (focus ((simp only [List.getElem?_toArray, List.getElem?_cons_zero]; exact rfl))); (focus (exact fun _ _ _ h => h)); (focus (refine Or.inl ⟨by rfl, ?_⟩; intro w hSw; (try dsimp only at hSw); (first | (go_simp; done) | (go_simp; with_reducible rfl)))); (try simp only [Act.put, List.setIfInBounds_toArray, List.set_cons_zero, List.set_cons_succ])); (refine wpAnyH_take (i := 1) (oi := ?_) (v := ?_) ?_ (by kernel_rfl) (by kernel_rfl) (by kernel_rfl) ?_ ?_ (by assumption) ?_; rotate_left 2; (focus ((simp only [List.getElem?_toArray, List.getElem?_cons_succ, List.getElem?_cons_zero]; exact rfl))); (focus (exact fun _ _ _ h => h)); (focus (refine Or.inl ⟨by rfl, ?_⟩; intro w hSw; (try dsimp only at hSw); (first | (go_simp; done) | (go_simp; with_reducible rfl)))); (try simp only [Act.put, List.setIfInBounds_toArray, List.set_cons_zero, List.set_cons_succ])); (refine wpAnyH_take (i := 3) (oi := ?_) (v := ?_) ?_ (by kernel_rfl) (by kernel_rfl) (by kernel_rfl) ?_ ?_ (by assumption) ?_; rotate_left 2; (focus ((simp only [List.getElem?_toArray, List.getElem?_cons_succ, List.getElem?_cons_zero]; exact rfl))); (focus (exact fun _ _ _ h => h)); (focus (refine Or.inl ⟨by rfl, ?_⟩; intro w hSw; (try dsimp only at hSw); (first | (go_simp; done) | (go_simp; with_reducible rfl)))); (try simp only [Act.put, List.setIfInBounds_toArray, List.set_cons_zero, List.set_cons_succ])); (refine wpAnyH_take (i := 4) (oi := ?_) (v := ?_) ?_ (by kernel_rfl) (by kernel_rfl) (by kernel_rfl) ?_ ?_ (by assumption) ?_; rotate_left 2; (focus ((simp only [List.getElem?_toArray, List.getElem?_cons_succ, List.getElem?_cons_zero]; exact rfl))); (focus (exact fun _ _ _ h => h)); (focus (refine Or.inl ⟨by rfl, ?_⟩; intro w hSw; (try dsimp only at hSw); (first | (go_simp; done) | (go_simp; with_reducible rfl)))); (try simp only [Act.put, List.setIfInBounds_toArray, List.set_cons_zero, List.set_cons_succ])); (refine wpAnyH_take (i := 5) (oi := ?_) (v := ?_) ?_ (by kernel_rfl) (by kernel_rfl) (by kernel_rfl) ?_ ?_ (by assumption) ?_; rotate_left 2; (focus ((simp only [List.getElem?_toArray, List.getElem?_cons_succ, List.getElem?_cons_zero]; exact rfl))); (focus (exact fun _ _ _ h => h)); (focus (refine Or.inl ⟨by rfl, ?_⟩; intro w hSw; (try dsimp only at hSw); (first | (go_simp; done) | (go_simp; with_reducible rfl)))); (try simp only [Act.put, List.setIfInBounds_toArray, List.set_cons_zero, List.set_cons_succ])); (refine wpAnyH_take (i := 6) (oi := ?_) (v := ?_) ?_ (by kernel_rfl) (by kernel_rfl) (by kernel_rfl) ?_ ?_ (by assumption) ?_; rotate_left 2; (focus ((simp only [List.getElem?_toArray, List.getElem?_cons_succ, List.getElem?_cons_zero]; exact rfl))); (focus (exact fun _ _ _ h => h)); (focus (refine Or.inl ⟨by rfl, ?_⟩; intro w hSw; (try dsimp only at hSw); (first | (go_simp; done) | (go_simp; with_reducible rfl)))); (try simp only [Act.put, List.setIfInBounds_toArray, List.set_cons_zero, List.set_cons_succ])))
      (refine wpAnyH_ready (rs := [2]) (by kernel_rfl) (by simp) ?_; refine AllReadyH.cons (o := ?_) ?_ (fun K hK => ?_) AllReadyH.nil; rotate_left; (focus ((simp only [List.getElem?_toArray, List.getElem?_cons_succ, List.getElem?_cons_zero]; exact rfl))); go_simp; go_at_call 10; refine (distances_any g q ga gc _ HR.out HQ.out (HC.out.ext (E2.trans (by exact (show Sees w1 _ by assumption).2.2)))).mono ?_; rintro e w' ⟨tb, rfl, hT, hE2⟩; have c1 := (hT p ⟨r1, r2, r3, r4⟩).1; go_wp2_with fail; refine hK.out _ _ (by repeat (first | exact Sees.refl _ | assumption | apply Sees.drew | (refine Sees.ext ?_ (by assumption)))) (fun hHeld => ?_); clear hK K; (try simp only [Act.put, List.setIfInBounds_toArray, List.set_cons_zero, List.set_cons_succ]))
      ((refine wpAnyH_take (i := 7) (oi := ?_) (v := ?_) ?_ (by kernel_rfl) (by kernel_rfl) (by kernel_rfl) ?_ ?_ (by assumption) ?_; rotate_left 2; (focus ((simp only [List.getElem?_toArray, List.getElem?_cons_succ, List.getElem?_cons_zero]; exact rfl))); (focus (exact fun _ _ _ h => h)); (focus (refine Or.inl ⟨by rfl, ?_⟩; intro w hSw; (try dsimp only at hSw); (first | (go_simp; done) | (go_simp; with_reducible rfl)))); (try simp only [Act.put, List.setIfInBounds_toArray, List.set_cons_zero, List.set_cons_succ])); (refine wpAnyH_take (i := 8) (oi := ?_) (v := ?_) ?_ (by kernel_rfl) (by kernel_rfl) (by kernel_rfl) ?_ ?_ (by assumption) ?_; rotate_left 2; (focus ((simp only [List.getElem?_toArray, List.getElem?_cons_succ, List.getElem?_cons_zero]; exact rfl))); (focus (exact fun _ _ _ h => h)); (focus (refine Or.inl ⟨by rfl, ?_⟩; intro w hSw; (try dsimp only at hSw); (first | (go_simp; done) | (go_simp; with_reducible rfl)))); (try simp only [Act.put, List.setIfInBounds_toArray, List.set_cons_zero, List.set_cons_succ])); (refine wpAnyH_take (i := 9) (oi := ?_) (v := ?_) ?_ (by kernel_rfl) (by kernel_rfl) (by kernel_rfl) ?_ ?_ (by assumption) ?_; rotate_left 2; (focus ((simp only [List.getElem?_toArray, List.getElem?_cons_succ, List.getElem?_cons_zero]; exact rfl))); (focus (exact fun _ _ _ h => h)); (focus (refine Or.inl ⟨by rfl, ?_⟩; intro w hSw; (try dsimp only at hSw); (first | (go_simp; done) | (go_simp; with_reducible rfl)))); (try simp only [Act.put, List.setIfInBounds_toArray, List.set_cons_zero, List.set_cons_succ])))
      (refine wpAnyH_ready (rs := [10]) (by kernel_rfl) (by simp) ?_; refine AllReadyH.cons (o := ?_) ?_ (fun K hK => ?_) AllReadyH.nil; rotate_left; (focus ((simp only [List.getElem?_toArray, List.getElem?_cons_succ, List.getElem?_cons_zero]; exact rfl))); go_simp; refine hK.out _ _ (by repeat (first | exact Sees.refl _ | assumption | apply Sees.drew | (refine Sees.ext ?_ (by assumption)))) (fun hHeld => ?_); clear hK K; (try simp only [Act.put, List.setIfInBounds_toArray, List.set_cons_zero, List.set_cons_succ]))
      ((refine wpAnyH_take (i := 11) (oi := ?_) (v := ?_) ?_ (by kernel_rfl) (by kernel_rfl) (by kernel_rfl) ?_ ?_ (by assumption) ?_; rotate_left 2; (focus ((simp only [List.getElem?_toArray, List.getElem?_cons_succ, List.getElem?_cons_zero]; exact rfl))); (focus (exact fun _ _ _ h => h)); (focus (refine Or.inl ⟨by rfl, ?_⟩; intro w hSw; (try dsimp only at hSw); (first | (go_simp; done) | (go_simp; with_reducible rfl)))); (try simp only [Act.put, List.setIfInBounds_toArray, List.set_cons_zero, List.set_cons_succ])))
      refine wpAnyH_done (by kernel_rfl) ?_ _
      have hS := (show Sees w1 _ by assumption).2.2
      cases neg
      · have hd : ¬ dst g q p < 0 := by simpa using hneg.out
        go_wp2
        go_ret2
        exact ⟨rfl, E2.trans hS⟩
      · have hd : dst g q p < 0 := by simpa using hneg.out
        go_wp2
        go_ret2
        exact ⟨rfl, E2.trans hS⟩
    obtain ⟨e1, e2⟩ := len_ok H0.out (neg := decide (dst g q p < 0)) rfl
    rw [e1, e2]
    exact main _ rfl
  · have hn : Hid (lenN g p q = 0 ∧ lenE g p q = givenErr g [p, q]) := by
      show _ ∧ _
      unfold lenN lenE
      rw [if_pos h0, if_pos h0]
      exact ⟨rfl, rfl⟩
    have hb : (givenErr g [p, q] != 0) = true := by simp [h0]
    have hb2 : (givenErr g [p, q] == 0) = false := by simp [h0]
    clear h0
    go_enter Try.func5, Try.ntmps5
    go_wp2_with fail
    have E0 : Ext w (((( (( ((w).alloc (.cells #[.int .i64 g.rows, .int .i64 g.cols, .slice ga g.bl.length gc] 25))).alloc (.cells #[.int .i64 p.1, .int .i64 p.2] 27))).alloc (.cells #[.int .i64 q.1, .int .i64 q.2] 27))).alloc (.cells #[.int .i64 p.1, .int .i64 p.2, .int .i64 q.1, .int .i64 q.2] 27)) := ((((Ext.refl _).alloc _).alloc _).alloc _).alloc _
    refine (given_any g [p, q] ga gc _ _ _ HG.out (HC.out.ext E0) (by simp [maxLen]) (cells2_two (by go_simp) (by go_simp) (by go_simp) (by go_simp))).mono ?_
    rintro e w1 ⟨rfl, hE⟩
    go_wp2
    go_ret2
    rw [hn.out.1, hn.out.2]
    exact ⟨rfl, E0.trans hE⟩
end Go.Proofs.Ytechakkdcllgoaa
/- at, sent, Wall of the law's package; results that lie in memory. -/
namespace Go.Proofs.Ytechakkdcllgoaa
open Go.RowKit

theorem results_cell1 {fn : Func} {p : Tmp} {ty : TypeId} (h : fn.results = #[.cell p ty]) (tmps : Array Value) (P : Program) (w : World) :
    (results fn tmps).run P w = ((asAddr (tmps.getD p undef)).run P w).andThen fun a w₁ => (loadVar ty a).run P w₁ := by
  simp only [results, h]
  simp [Sem.run_bind, Result.andThen]
theorem results_cell_tmp2 {fn : Func} {p u v : Tmp} {ty : TypeId} (h : fn.results = #[.cell p ty, .tmp u, .tmp v]) (tmps : Array Value) (P : Program) (w : World) :
    (results fn tmps).run P w =
      ((asAddr (tmps.getD p undef)).run P w).andThen fun a w₁ => ((loadVar ty a).run P w₁).andThen fun x w₂ => .ok (.tuple #[x, tmps.getD u undef, tmps.getD v undef]) w₂ := by
  simp only [results, h]
  simp [Sem.run_bind, Result.andThen]

theorem Ext.frozen {w w' : World} (h : Ext w w') {p : Addr} (hp : p.block < w.heap.size) : w'.frozen? p = w.frozen? p := Below.frozen h hp

theorem Sees.store {W w' X : World} (h : Sees W w') (hx : Sees W X) (o : Nat) (v : Value) : Sees W (w'.setCell ⟨X.heap.size, o, none⟩ v) := sees (Below.setCell (p := ⟨X.heap.size, o, none⟩) h.2.2 hx.2.2.size v)
theorem new2_c0 (w : World) (a b : Value) (t : TypeId) : (w.alloc (.cells #[a, b] t)).cell? ⟨w.heap.size, 0, none⟩ = some a := by rw [World.cell?_alloc_new]; rfl
theorem new2_c1 (w : World) (a b : Value) (t : TypeId) : (w.alloc (.cells #[a, b] t)).cell? ⟨w.heap.size, 1, none⟩ = some b := by rw [World.cell?_alloc_new]; rfl
theorem new2_f (w : World) (a b : Value) (t : TypeId) (i : Nat) : (w.alloc (.cells #[a, b] t)).frozen? ⟨w.heap.size, i, none⟩ = false := World.frozen?_alloc_new _ _ _ _
/-- a new block of two cells is there behind a call -/
structure New2 (w : World) (pb : Nat) (a b : Value) : Prop where
  c0 : w.cell? ⟨pb, 0, none⟩ = some a
  c1 : w.cell? ⟨pb, 1, none⟩ = some b
  f0 : w.frozen? ⟨pb, 0, none⟩ = false
  f1 : w.frozen? ⟨pb, 1, none⟩ = false
theorem New2.ext {A B : World} {pb : Nat} {a b : Value} (h : New2 A pb a b) (x : Ext A B) : New2 B pb a b :=
  ⟨x.cell h.c0, x.cell h.c1, (x.frozen (p := ⟨pb, 0, none⟩) (cell_lt h.c0)).trans h.f0, (x.frozen (p := ⟨pb, 1, none⟩) (cell_lt h.c1)).trans h.f1⟩
theorem New2.made (w : World) (a b : Value) (t : TypeId) : New2 (w.alloc (.cells #[a, b] t)) w.heap.size a b := ⟨new2_c0 _ _ _ _, new2_c1 _ _ _ _, new2_f _ _ _ _ _, new2_f _ _ _ _ _⟩
theorem New2.drew {w : World} {pb : Nat} {a b : Value} (h : New2 w pb a b) : New2 w.drew pb a b := h.ext (Ext.refl _).drew

def wallG : Gr := ⟨3, 4, [(1, 1), (1, 2)]⟩
end Go.Proofs.Ytechakkdcllgoaa
/- The distances, in plain Lean: they are those of the shortest walks. -/
namespace Go.Proofs.Ytechakkdcllgoaa

inductive Walk (g : Gr) (p : Pt) : Nat → Pt → Prop
  | nil : Walk g p 0 p
  | cons {n : Nat} {r q : Pt} : Walk g p n r → q ∈ near g r → Walk g p (n + 1) q
structure IsD (g : Gr) (p q : Pt) (n : Nat) : Prop where
  w : Walk g p n q
  l : ∀ m, m < n → ¬ Walk g p m q
theorem Walk.zero {g : Gr} {p q : Pt} (h : Walk g p 0 q) : q = p := by cases h; rfl
theorem Walk.succ {g : Gr} {p q : Pt} {n : Nat} (h : Walk g p (n + 1) q) : ∃ r, Walk g p n r ∧ q ∈ near g r := by
  cases h with
  | cons a b => exact ⟨_, a, b⟩
theorem Walk.isD {g : Gr} {p q : Pt} : ∀ {n : Nat}, Walk g p n q → ∃ m, m ≤ n ∧ IsD g p q m := by
  intro n
  induction n using Nat.strongRecOn with
  | ind n ih =>
    intro h
    by_cases hx : ∃ m, m < n ∧ Walk g p m q
    · obtain ⟨m, hm, hw⟩ := hx
      obtain ⟨k, hk, hd⟩ := ih m hm hw
      exact ⟨k, by omega, hd⟩
    · exact ⟨n, Nat.le_refl _, h, fun m hm hw => hx ⟨m, hm, hw⟩⟩
theorem IsD.unique {g : Gr} {p q : Pt} {m n : Nat} (h : IsD g p q m) (k : IsD g p q n) : m = n := by
  rcases Nat.lt_trichotomy m n with h1 | h1 | h1
  · exact absurd h.w (k.l _ h1)
  · exact h1
  · exact absurd k.w (h.l _ h1)
theorem IsD.pred {g : Gr} {p q : Pt} {n : Nat} (h : IsD g p q (n + 1)) : ∃ r, IsD g p r n ∧ q ∈ near g r := by
  obtain ⟨r, h1, h2⟩ := h.w.succ
  refine ⟨r, ⟨h1, fun m hm hw => ?_⟩, h2⟩
  exact h.l (m + 1) (by omega) (.cons hw h2)
theorem IsD.down {g : Gr} {p q : Pt} {n m : Nat} (h : IsD g p q (m + n)) : ∃ r, IsD g p r m := by
  induction n generalizing q with
  | zero => exact ⟨q, h⟩
  | succ n ih =>
    obtain ⟨r, h1, _⟩ := IsD.pred (n := m + n) h
    exact ih h1
theorem IsD.self (g : Gr) (p : Pt) : IsD g p p 0 := ⟨.nil, fun m hm => by omega⟩

theorem addN_mem : ∀ (qs seen next : List Pt) (x : Pt), (x ∈ (addN seen next qs).1 ↔ x ∈ seen ∨ x ∈ qs) ∧ (x ∈ (addN seen next qs).2 ↔ x ∈ next ∨ (x ∉ seen ∧ x ∈ qs)) := by
  intro qs
  induction qs with
  | nil => intro seen next x; simp [addN]
  | cons a qs ih =>
    intro seen next x
    unfold addN
    split
    · rename_i h
      obtain ⟨i1, i2⟩ := ih seen next x
      rw [i1, i2]
      constructor
      · constructor
        · rintro (h1 | h1)
          · exact .inl h1
          · exact .inr (List.mem_cons_of_mem _ h1)
        · rintro (h1 | h1)
          · exact .inl h1
          · rcases List.mem_cons.1 h1 with rfl | h1
            · exact .inl h
            · exact .inr h1
      · constructor
        · rintro (h1 | ⟨h1, h2⟩)
          · exact .inl h1
          · exact .inr ⟨h1, List.mem_cons_of_mem _ h2⟩
        · rintro (h1 | ⟨h1, h2⟩)
          · exact .inl h1
          · rcases List.mem_cons.1 h2 with rfl | h2
            · exact absurd h h1
            · exact .inr ⟨h1, h2⟩
    · rename_i h
      obtain ⟨i1, i2⟩ := ih (a :: seen) (next ++ [a]) x
      rw [i1, i2]
      simp only [List.mem_cons, List.mem_append, List.not_mem_nil, or_false]
      constructor
      · constructor
        · rintro ((h1 | h1) | h1)
          · exact .inr (.inl h1)
          · exact .inl h1
          · exact .inr (.inr h1)
        · rintro (h1 | h1 | h1)
          · exact .inl (.inr h1)
          · exact .inl (.inl h1)
          · exact .inr h1
      · constructor
        · rintro ((h1 | h1) | ⟨h1, h2⟩)
          · exact .inl h1
          · subst h1; exact .inr ⟨h, .inl rfl⟩
          · exact .inr ⟨fun h3 => h1 (.inr h3), .inr h2⟩
        · rintro (h1 | ⟨h1, h2 | h2⟩)
          · exact .inl (.inl h1)
          · exact .inl (.inr h2)
          · by_cases e : x = a
            · exact .inl (.inr e)
            · exact .inr ⟨fun h3 => h3.elim e h1, h2⟩
theorem addN_nodup : ∀ (qs seen next : List Pt), next.Nodup → (∀ x ∈ next, x ∈ seen) → (addN seen next qs).2.Nodup ∧ (∀ x ∈ (addN seen next qs).2, x ∈ (addN seen next qs).1) := by
  intro qs
  induction qs with
  | nil => intro seen next h1 h2; exact ⟨h1, h2⟩
  | cons a qs ih =>
    intro seen next h1 h2
    unfold addN
    split
    · exact ih _ _ h1 h2
    · rename_i h
      refine ih _ _ ?_ ?_
      · rw [List.nodup_append]
        refine ⟨h1, by simp, ?_⟩
        intro x hx y hy e
        simp at hy
        subst hy; subst e
        exact h (h2 _ hx)
      · intro x hx
        rcases List.mem_append.1 hx with hx | hx
        · exact List.mem_cons_of_mem _ (h2 _ hx)
        · simp at hx; subst hx; exact List.mem_cons_self ..
theorem expand_mem (g : Gr) : ∀ (ps seen next : List Pt) (x : Pt), (x ∈ (expand g seen next ps).1 ↔ x ∈ seen ∨ ∃ r ∈ ps, x ∈ near g r) ∧ (x ∈ (expand g seen next ps).2 ↔ x ∈ next ∨ (x ∉ seen ∧ ∃ r ∈ ps, x ∈ near g r)) := by
  intro ps
  induction ps with
  | nil => intro seen next x; simp [expand]
  | cons a ps ih =>
    intro seen next x
    unfold expand
    obtain ⟨i1, i2⟩ := ih (addN seen next (near g a)).1 (addN seen next (near g a)).2 x
    obtain ⟨j1, j2⟩ := addN_mem (near g a) seen next x
    rw [i1, i2, j1, j2]
    constructor
    · constructor
      · rintro ((h | h) | ⟨r, h1, h2⟩)
        · exact .inl h
        · exact .inr ⟨a, List.mem_cons_self .., h⟩
        · exact .inr ⟨r, List.mem_cons_of_mem _ h1, h2⟩
      · rintro (h | ⟨r, h1, h2⟩)
        · exact .inl (.inl h)
        · rcases List.mem_cons.1 h1 with rfl | h1
          · exact .inl (.inr h2)
          · exact .inr ⟨r, h1, h2⟩
    · constructor
      · rintro ((h | ⟨h1, h2⟩) | ⟨h, r, h1, h2⟩)
        · exact .inl h
        · exact .inr ⟨h1, a, List.mem_cons_self .., h2⟩
        · exact .inr ⟨fun h3 => h (.inl h3), r, List.mem_cons_of_mem _ h1, h2⟩
      · rintro (h | ⟨h, r, h1, h2⟩)
        · exact .inl (.inl h)
        · by_cases hn : x ∈ near g a
          · exact .inl (.inr ⟨h, hn⟩)
          · rcases List.mem_cons.1 h1 with rfl | h1
            · exact absurd h2 hn
            · exact .inr ⟨fun h3 => h3.elim h hn, r, h1, h2⟩
theorem expand_nodup (g : Gr) : ∀ (ps seen next : List Pt), next.Nodup → (∀ x ∈ next, x ∈ seen) → (expand g seen next ps).2.Nodup := by
  intro ps
  induction ps with
  | nil => intro seen next h _; exact h
  | cons a ps ih =>
    intro seen next h1 h2
    unfold expand
    have := addN_nodup (near g a) seen next h1 h2
    exact ih _ _ this.1 this.2

/-- a wave of the waves from p -/
structure WV (g : Gr) (p : Pt) (seen now : List Pt) (far : Nat) : Prop where
  s : ∀ x, x ∈ seen ↔ ∃ m, m ≤ far ∧ Walk g p m x
  n : ∀ x, x ∈ now ↔ IsD g p x far
  nd : now.Nodup
theorem WV.step {g : Gr} {p : Pt} {seen now : List Pt} {far : Nat} (h : WV g p seen now far) : WV g p (expand g seen [] now).1 (expand g seen [] now).2 (far + 1) := by
  refine ⟨fun x => ?_, fun x => ?_, expand_nodup g now seen [] List.nodup_nil (fun x hx => by cases hx)⟩
  · rw [(expand_mem g now seen [] x).1, h.s]
    constructor
    · rintro (⟨m, h1, h2⟩ | ⟨r, h1, h2⟩)
      · exact ⟨m, by omega, h2⟩
      · exact ⟨far + 1, Nat.le_refl _, .cons ((h.n r).1 h1).w h2⟩
    · rintro ⟨m, h1, h2⟩
      by_cases e : m ≤ far
      · exact .inl ⟨m, e, h2⟩
      · obtain rfl : m = far + 1 := by omega
        obtain ⟨r, h3, h4⟩ := h2.succ
        obtain ⟨k, h5, h6⟩ := h3.isD
        by_cases e2 : k = far
        · subst e2; exact .inr ⟨r, (h.n r).2 h6, h4⟩
        · exact .inl ⟨k + 1, by omega, .cons h6.w h4⟩
  · rw [(expand_mem g now seen [] x).2, h.s]
    constructor
    · rintro (h1 | ⟨h1, r, h2, h3⟩)
      · cases h1
      · exact ⟨.cons ((h.n r).1 h2).w h3, fun m hm hw => h1 ⟨m, by omega, hw⟩⟩
    · intro hd
      refine .inr ⟨fun ⟨m, h1, h2⟩ => hd.l m (by omega) h2, ?_⟩
      obtain ⟨r, h1, h2⟩ := hd.pred
      exact ⟨r, (h.n r).2 h1, h2⟩
theorem waves_sound (g : Gr) (p : Pt) : ∀ (f : Nat) (seen now : List Pt) (far : Nat), WV g p seen now far → ∀ x ∈ waves g f seen now far, IsD g p x.1 x.2 ∧ far ≤ x.2 := by
  intro f
  induction f with
  | zero => intro seen now far _ x hx; cases hx
  | succ f ih =>
    intro seen now far h x hx
    unfold waves at hx
    split at hx
    · cases hx
    · rcases List.mem_append.1 hx with hx | hx
      · obtain ⟨q, hq, rfl⟩ := List.mem_map.1 hx
        exact ⟨(h.n q).1 hq, Nat.le_refl _⟩
      · obtain ⟨h1, h2⟩ := ih _ _ _ h.step x hx
        exact ⟨h1, by omega⟩
theorem waves_all (g : Gr) (hr : Right g) (p : Pt) : ∀ (f : Nat) (seen now : List Pt) (n : Nat), WV g p seen now n → WI g seen now → n + f = 4097 → (now ≠ [] → n + 1 ≤ seen.length) →
    ∀ (q : Pt) (k : Nat), IsD g p q k → n ≤ k → (q, k) ∈ waves g f seen now n := by
  intro f
  induction f with
  | zero =>
    intro seen now n h hi hf hl q k hd hk
    exfalso
    obtain ⟨r, hr'⟩ := IsD.down (m := n) (n := k - n) (by rw [show n + (k - n) = k from by omega]; exact hd)
    have hm := (h.n r).2 hr'
    have := hl (List.ne_nil_of_mem hm)
    have := hi.len hr
    omega
  | succ f ih =>
    intro seen now n h hi hf hl q k hd hk
    obtain ⟨r, hr'⟩ := IsD.down (m := n) (n := k - n) (by rw [show n + (k - n) = k from by omega]; exact hd)
    have hm := (h.n r).2 hr'
    have hne := List.ne_nil_of_mem hm
    rw [waves_step _ _ _ _ _ hne]
    by_cases e : k = n
    · subst e
      exact List.mem_append_left _ (List.mem_map.2 ⟨q, (h.n q).2 hd, rfl⟩)
    · refine List.mem_append_right _ ?_
      have hi2 := expand_inv now seen [] ⟨hi.nd, hi.ins, fun q hq => by cases hq⟩
      refine ih _ _ _ h.step hi2.1 (by omega) (fun hne2 => ?_) q k hd (by omega)
      have h1 := hl hne
      have h2 := List.length_pos_iff.2 hne2
      have h3 := hi2.2
      simp at h3
      omega
theorem waves_nodup (g : Gr) (p : Pt) : ∀ (f : Nat) (seen now : List Pt) (n : Nat), WV g p seen now n → ((waves g f seen now n).map (·.1)).Nodup := by
  intro f
  induction f with
  | zero => intro seen now n _; exact List.nodup_nil
  | succ f ih =>
    intro seen now n h
    unfold waves
    split
    · exact List.nodup_nil
    · rw [List.map_append, List.nodup_append]
      refine ⟨?_, ih _ _ _ h.step, ?_⟩
      · rw [List.map_map]
        simpa [Function.comp_def] using h.nd
      · intro a ha b hb e
        subst e
        simp only [List.map_map, List.mem_map, Function.comp_apply] at ha hb
        obtain ⟨q, hq, rfl⟩ := ha
        obtain ⟨x, hx, hxe⟩ := hb
        obtain ⟨h1, h2⟩ := waves_sound g p f _ _ _ h.step x hx
        rw [hxe] at h1
        have := h1.unique ((h.n q).1 hq)
        omega
theorem wv0 (g : Gr) (p : Pt) : WV g p [p] [p] 0 := by
  refine ⟨fun x => ?_, fun x => ?_, by simp⟩
  · constructor
    · intro h; simp at h; subst h; exact ⟨0, Nat.le_refl _, .nil⟩
    · rintro ⟨m, h1, h2⟩
      obtain rfl : m = 0 := by omega
      simp [h2.zero]
  · constructor
    · intro h; simp at h; subst h; exact IsD.self g x
    · intro h; simp [h.w.zero]
theorem wave_sound {g : Gr} {p : Pt} {x : Pt × Nat} (h : x ∈ wave g p) : IsD g p x.1 x.2 := by
  unfold wave at h
  exact (waves_sound g p _ _ _ _ (wv0 g p) x h).1
theorem wave_all {g : Gr} (hr : Right g) {p q : Pt} (hp : inside g p = true) {k : Nat} (h : IsD g p q k) : (q, k) ∈ wave g p := by
  unfold wave
  exact waves_all g hr p _ _ _ _ (wv0 g p) ⟨by simp, fun q hq => by simp at hq; subst hq; exact hp, fun q hq => hq⟩ rfl (fun _ => by simp) q k h (Nat.zero_le _)
theorem wave_nodup (g : Gr) (p : Pt) : ((wave g p).map (·.1)).Nodup := by
  unfold wave
  exact waves_nodup g p _ _ _ _ (wv0 g p)
theorem far_none : ∀ (l : List (Pt × Nat)) (q : Pt) (d : Int), (∀ x ∈ l, x.1 ≠ q) → l.foldl (fun d x => if x.1 = q then (x.2 : Int) else d) d = d := by
  intro l
  induction l with
  | nil => intro q d _; rfl
  | cons a l ih =>
    intro q d h
    rw [List.foldl_cons, if_neg (h a (List.mem_cons_self ..))]
    exact ih q d (fun x hx => h x (List.mem_cons_of_mem _ hx))
theorem far_some : ∀ (l : List (Pt × Nat)) (q : Pt) (k : Nat) (d : Int), (q, k) ∈ l → (∀ x ∈ l, x.1 = q → x.2 = k) → l.foldl (fun d x => if x.1 = q then (x.2 : Int) else d) d = k := by
  intro l
  induction l with
  | nil => intro q k d h; cases h
  | cons a l ih =>
    intro q k d h hall
    rw [List.foldl_cons]
    by_cases hl : (q, k) ∈ l
    · exact ih q k _ hl (fun x hx => hall x (List.mem_cons_of_mem _ hx))
    · rcases List.mem_cons.1 h with rfl | h
      · rw [if_pos rfl]
        refine far_none l q _ (fun x hx e => hl ?_)
        have := hall x (List.mem_cons_of_mem _ hx) e
        have hxe : x = (q, k) := Prod.ext e this
        rw [← hxe]; exact hx
      · exact absurd h hl
theorem dst_of {g : Gr} (hr : Right g) {p q : Pt} (hp : inside g p = true) {k : Nat} (h : IsD g p q k) : dst g p q = k :=
  far_some _ q k _ (wave_all hr hp h) (fun x hx e => by have := wave_sound hx; rw [e] at this; exact this.unique h)
theorem dst_none {g : Gr} {p q : Pt} (h : ∀ k, ¬ IsD g p q k) : dst g p q = -1 :=
  far_none _ q _ (fun x hx e => h x.2 (e ▸ wave_sound hx))
theorem dst_cases {g : Gr} (hr : Right g) {p : Pt} (hp : inside g p = true) (q : Pt) : (∃ k : Nat, IsD g p q k ∧ dst g p q = k) ∨ ((∀ k, ¬ IsD g p q k) ∧ dst g p q = -1) := by
  by_cases h : ∃ k, IsD g p q k
  · obtain ⟨k, h⟩ := h
    exact .inl ⟨k, h, dst_of hr hp h⟩
  · exact .inr ⟨fun k hk => h ⟨k, hk⟩, dst_none fun k hk => h ⟨k, hk⟩⟩

/-! ### Both ways -/
theorem nbs_symm {p q : Pt} (h : q ∈ nbs p) : p ∈ nbs q := by
  unfold nbs at *
  obtain ⟨a, b⟩ := p
  simp only [List.mem_cons, List.not_mem_nil, or_false] at h ⊢
  rcases h with rfl | rfl | rfl | rfl <;> simp
theorem near_symm {g : Gr} {p q : Pt} (hp : opn g p = true) (h : q ∈ near g p) : p ∈ near g q := by
  unfold near at *
  exact List.mem_filter.2 ⟨nbs_symm (List.mem_filter.1 h).1, hp⟩
theorem Walk.opn {g : Gr} {p q : Pt} {n : Nat} (hp : opn g p = true) (h : Walk g p n q) : opn g q = true := by
  cases h with
  | nil => exact hp
  | cons _ h => exact near_opn h
theorem Walk.head {g : Gr} {p r q : Pt} {n : Nat} (h1 : r ∈ near g p) (h : Walk g r n q) : Walk g p (n + 1) q := by
  induction h with
  | nil => exact .cons .nil h1
  | cons _ h2 ih => exact .cons ih h2
theorem Walk.symm {g : Gr} {p q : Pt} {n : Nat} (hp : Go.Proofs.Ytechakkdcllgoaa.opn g p = true) (h : Walk g p n q) : Walk g q n p := by
  induction h with
  | nil => exact .nil
  | cons h1 h2 ih => exact Walk.head (near_symm (h1.opn hp) h2) ih
theorem Walk.trans {g : Gr} {p q r : Pt} {m n : Nat} (h : Walk g p m q) (k : Walk g q n r) : Walk g p (m + n) r := by
  induction k with
  | nil => exact h
  | cons _ h2 ih => exact .cons ih h2
theorem IsD.symm {g : Gr} {p q : Pt} {n : Nat} (hp : opn g p = true) (hq : opn g q = true) (h : IsD g p q n) : IsD g q p n :=
  ⟨h.w.symm hp, fun m hm hw => h.l m hm (hw.symm hq)⟩
theorem dst_symm {g : Gr} (hr : Right g) {p q : Pt} (hp : opn g p = true) (hq : opn g q = true) : dst g p q = dst g q p := by
  have ip : inside g p = true := by unfold opn at hp; simp only [Bool.and_eq_true] at hp; exact hp.1
  have iq : inside g q = true := by unfold opn at hq; simp only [Bool.and_eq_true] at hq; exact hq.1
  rcases dst_cases hr ip q with ⟨k, h, e⟩ | ⟨h, e⟩
  · rw [e, dst_of hr iq (h.symm hp hq)]
  · rw [e, dst_none fun k hk => h k (hk.symm hq hp)]
end Go.Proofs.Ytechakkdcllgoaa
/- Ways, in plain Lean. -/
namespace Go.Proofs.Ytechakkdcllgoaa

def stepTo (g : Gr) (D : Pt → Int) (a : Pt) : Pt := ((near g a).find? (fun x => decide (D x = D a - 1))).getD a
def wayGo (g : Gr) (D : Pt → Int) : Nat → Pt → List Pt
  | 0, _ => []
  | n + 1, a => stepTo g D a :: wayGo g D n (stepTo g D a)
/-- the first route -/
def way (g : Gr) (p q : Pt) : List Pt := p :: wayGo g (dst g q) (dst g q p).toNat p
theorem wayGo_len (g : Gr) (D : Pt → Int) : ∀ n a, (wayGo g D n a).length = n := by
  intro n
  induction n with
  | zero => intro a; rfl
  | succ n ih => intro a; simp [wayGo, ih]
theorem stepTo_of {g : Gr} {D : Pt → Int} {a x : Pt} {pre : List Pt} (h : pre ++ [x] <+: near g a) (hn : ∀ y ∈ pre, D y ≠ D a - 1) (hx : D x = D a - 1) : stepTo g D a = x := by
  obtain ⟨post, hp⟩ := h
  unfold stepTo
  rw [← hp, List.append_assoc, List.find?_append, List.find?_eq_none.2 (fun y hy => by simpa using hn y hy)]
  simp [hx]
theorem stepTo_ex {g : Gr} (hr : Right g) {q a : Pt} {k : Nat} (hq : opn g q = true) (_ha : opn g a = true) (h : IsD g q a (k + 1)) : ∃ x ∈ near g a, dst g q x = k := by
  obtain ⟨r, h1, h2⟩ := h.pred
  refine ⟨r, near_symm (h1.w.opn hq) h2, dst_of hr ?_ h1⟩
  unfold opn at hq; simp only [Bool.and_eq_true] at hq; exact hq.1
theorem IsD.lt {g : Gr} (hr : Right g) {p q : Pt} (hp : inside g p = true) {k : Nat} (h : IsD g p q k) : k < 4097 := by
  have key : ∀ (f : Nat) (seen now : List Pt) (n : Nat), ∀ x ∈ waves g f seen now n, x.2 < n + f := by
    intro f
    induction f with
    | zero => intro seen now n x hx; cases hx
    | succ f ih =>
      intro seen now n x hx
      unfold waves at hx
      split at hx
      · cases hx
      · rcases List.mem_append.1 hx with hx | hx
        · obtain ⟨q, _, rfl⟩ := List.mem_map.1 hx
          simp
        · have := ih _ _ _ x hx
          omega
  have := wave_all hr hp h
  unfold wave at this
  have := key _ _ _ _ _ this
  simpa using this
theorem stepTo_isD {g : Gr} (hr : Right g) {q a : Pt} {k : Nat} (hq : opn g q = true) (_h : IsD g q a (k + 1)) {x : Pt} (_hx : x ∈ near g a) (hd : dst g q x = k) : IsD g q x k := by
  have iq : inside g q = true := by unfold opn at hq; simp only [Bool.and_eq_true] at hq; exact hq.1
  rcases dst_cases hr iq x with ⟨m, h1, e⟩ | ⟨_, e⟩
  · rw [hd] at e
    have : k = m := by omega
    subst this; exact h1
  · rw [hd] at e; omega
end Go.Proofs.Ytechakkdcllgoaa
/- Meet. -/
namespace Go.Proofs.Ytechakkdcllgoaa
open Go.RowKit

/-- the k-th cell, row by row -/
def cellAt (g : Gr) (k : Nat) : Pt := (((k / g.cols.toNat : Nat) : Int), ((k % g.cols.toNat : Nat) : Int))
def meetStep (A B C : Pt → Int) (s : Int × Pt) (p : Pt) : Int × Pt :=
  if A p < 0 then s else if s.1 < 0 ∨ A p + B p + C p < s.1 then (A p + B p + C p, p) else s
/-- the best place among the first k cells -/
def meetK (g : Gr) (A B C : Pt → Int) : Nat → Int × Pt
  | 0 => (-1, (0, 0))
  | k + 1 => meetStep A B C (meetK g A B C k) (cellAt g k)
def meetV (g : Gr) (p q r : Pt) : Int × Pt := meetK g (dst g p) (dst g q) (dst g r) (g.rows.toNat * g.cols.toNat)
def meetBad (g : Gr) (p q r : Pt) : Bool := decide (dst g p q < 0) || decide (dst g p r < 0)
def meetN (g : Gr) (p q r : Pt) : Int := if givenErr g [p, q, r] ≠ 0 then 0 else if meetBad g p q r = true then 0 else (meetV g p q r).1
def meetP (g : Gr) (p q r : Pt) : Pt := if givenErr g [p, q, r] ≠ 0 then (0, 0) else if meetBad g p q r = true then (0, 0) else (meetV g p q r).2
def meetE (g : Gr) (p q r : Pt) : Int := if givenErr g [p, q, r] ≠ 0 then givenErr g [p, q, r] else if meetBad g p q r = true then 6 else 0

theorem cells2_three {w : World} {b : Nat} {p q r : Pt} (h1 : w.cell? ⟨b, 0, none⟩ = some (.int .i64 p.1)) (h2 : w.cell? ⟨b, 1, none⟩ = some (.int .i64 p.2)) (h3 : w.cell? ⟨b, 2, none⟩ = some (.int .i64 q.1)) (h4 : w.cell? ⟨b, 3, none⟩ = some (.int .i64 q.2)) (h5 : w.cell? ⟨b, 4, none⟩ = some (.int .i64 r.1)) (h6 : w.cell? ⟨b, 5, none⟩ = some (.int .i64 r.2)) :
    Cells2 w (some ⟨b, 0, none⟩) [p, q, r] := fun i hi => by
  have : i = 0 ∨ i = 1 ∨ i = 2 := by simp at hi; omega
  rcases this with rfl | rfl | rfl
  · exact ⟨b, 0, rfl, by simpa [pt] using h1, by simpa [pt] using h2⟩
  · exact ⟨b, 0, rfl, by simpa [pt] using h3, by simpa [pt] using h4⟩
  · exact ⟨b, 0, rfl, by simpa [pt] using h5, by simpa [pt] using h6⟩

/-- what stands fixed while Meet runs -/
structure MtFix (g : Gr) (p q r : Pt) (ga : Option Addr) (gc n : Nat) (W : World) : Prop where
  a1 : W.cell? ⟨n, 0, none⟩ = some (.int .i64 g.rows)
  a2 : W.cell? ⟨n, 1, none⟩ = some (.int .i64 g.cols)
  a3 : W.cell? ⟨n, 2, none⟩ = some (.slice ga g.bl.length gc)
  p1 : W.cell? ⟨n + 1, 0, none⟩ = some (.int .i64 p.1)
  p2 : W.cell? ⟨n + 1, 1, none⟩ = some (.int .i64 p.2)
  p3 : W.cell? ⟨n + 1, 2, none⟩ = some (.int .i64 q.1)
  p4 : W.cell? ⟨n + 1, 3, none⟩ = some (.int .i64 q.2)
  p5 : W.cell? ⟨n + 1, 4, none⟩ = some (.int .i64 r.1)
  p6 : W.cell? ⟨n + 1, 5, none⟩ = some (.int .i64 r.2)
  c1 : W.cell? ⟨n + 1 + 1, 0, none⟩ = some (.int .i64 0)
  c2 : W.cell? ⟨n + 1 + 1, 1, none⟩ = some (.int .i64 0)
  f1 : W.frozen? ⟨n + 1 + 1, 0, none⟩ = false
  f2 : W.frozen? ⟨n + 1 + 1, 1, none⟩ = false
theorem MtFix.below {g : Gr} {p q r : Pt} {ga : Option Addr} {gc n m : Nat} {A B : World} (h : MtFix g p q r ga gc n A) (k : Below m A B) (hm : n + 1 + 1 < m) : MtFix g p q r ga gc n B :=
  ⟨(k.cell (p := ⟨n, 0, none⟩) (by show n < m; omega)).trans h.a1, (k.cell (p := ⟨n, 1, none⟩) (by show n < m; omega)).trans h.a2, (k.cell (p := ⟨n, 2, none⟩) (by show n < m; omega)).trans h.a3,
   (k.cell (p := ⟨n + 1, 0, none⟩) (by show n + 1 < m; omega)).trans h.p1, (k.cell (p := ⟨n + 1, 1, none⟩) (by show n + 1 < m; omega)).trans h.p2, (k.cell (p := ⟨n + 1, 2, none⟩) (by show n + 1 < m; omega)).trans h.p3,
   (k.cell (p := ⟨n + 1, 3, none⟩) (by show n + 1 < m; omega)).trans h.p4, (k.cell (p := ⟨n + 1, 4, none⟩) (by show n + 1 < m; omega)).trans h.p5, (k.cell (p := ⟨n + 1, 5, none⟩) (by show n + 1 < m; omega)).trans h.p6,
   (k.cell (p := ⟨n + 1 + 1, 0, none⟩) hm).trans h.c1, (k.cell (p := ⟨n + 1 + 1, 1, none⟩) hm).trans h.c2, (k.frozen (p := ⟨n + 1 + 1, 0, none⟩) hm).trans h.f1, (k.frozen (p := ⟨n + 1 + 1, 1, none⟩) hm).trans h.f2⟩
theorem MtFix.lt {g : Gr} {p q r : Pt} {ga : Option Addr} {gc n : Nat} {A : World} (h : MtFix g p q r ga gc n A) : n + 1 + 1 < A.heap.size := cell_lt h.c1
theorem MtFix.ext {g : Gr} {p q r : Pt} {ga : Option Addr} {gc n : Nat} {A B : World} (h : MtFix g p q r ga gc n A) (k : Ext A B) : MtFix g p q r ga gc n B := h.below k h.lt
/-- the three tables, and where they are named -/
structure MtFar (fb : Nat) (k : Nat) (t0 t1 t2 : Value) (W : World) : Prop where
  c0 : W.cell? ⟨fb, 0, none⟩ = some t0
  c1 : W.cell? ⟨fb, 1, none⟩ = some t1
  c2 : W.cell? ⟨fb, 2, none⟩ = some t2
  f0 : W.frozen? ⟨fb, 0, none⟩ = false
  f1 : W.frozen? ⟨fb, 1, none⟩ = false
  f2 : W.frozen? ⟨fb, 2, none⟩ = false
theorem MtFar.below {fb k m : Nat} {t0 t1 t2 : Value} {A B : World} (h : MtFar fb k t0 t1 t2 A) (x : Below m A B) (hm : fb < m) : MtFar fb k t0 t1 t2 B :=
  ⟨(x.cell (p := ⟨fb, 0, none⟩) hm).trans h.c0, (x.cell (p := ⟨fb, 1, none⟩) hm).trans h.c1, (x.cell (p := ⟨fb, 2, none⟩) hm).trans h.c2, (x.frozen (p := ⟨fb, 0, none⟩) hm).trans h.f0, (x.frozen (p := ⟨fb, 1, none⟩) hm).trans h.f1, (x.frozen (p := ⟨fb, 2, none⟩) hm).trans h.f2⟩
theorem MtFar.lt {fb k : Nat} {t0 t1 t2 : Value} {A : World} (h : MtFar fb k t0 t1 t2 A) : fb < A.heap.size := cell_lt h.c0
theorem MtFar.ext {fb k : Nat} {t0 t1 t2 : Value} {A B : World} (h : MtFar fb k t0 t1 t2 A) (x : Ext A B) : MtFar fb k t0 t1 t2 B := h.below x h.lt

theorem TabAt.ne {W : World} {fb tb : Nat} {D : Pt → Int} {x : Option Addr} (c : W.cell? ⟨fb, 0, none⟩ = some (.pointer x)) (h : TabAt W tb D) : fb ≠ tb := fun e => by
  have := (h (0, 0) ⟨by decide, by decide, by decide, by decide⟩).1
  subst e
  simp only [Int.toNat_zero, Nat.zero_mul, Nat.add_zero] at this
  rw [c] at this
  cases this
theorem TabAt.store {W : World} {tb : Nat} {D : Pt → Int} (h : TabAt W tb D) (p : Addr) (v : Value) (hne : p.block ≠ tb) : TabAt (W.setCell p v) tb D := fun q hq =>
  ⟨(World.cell?_setCell_other _ _ _ _ (fun e => hne (by rw [e]))).trans (h q hq).1, by rw [World.frozen?_setCell]; exact (h q hq).2⟩

theorem cellAt_mk {g : Gr} {i c : Nat} (hc : c < g.cols.toNat) : cellAt g (i * g.cols.toNat + c) = ((i : Int), (c : Int)) := by
  unfold cellAt
  have h0 : 0 < g.cols.toNat := by omega
  rw [Nat.mul_comm i, Nat.mul_add_div h0, Nat.mul_add_mod, Nat.div_eq_of_lt hc, Nat.mod_eq_of_lt hc, Nat.add_zero]
theorem dst_bd {g : Gr} (hr : Right g) {p : Pt} (hp : inside g p = true) (q : Pt) : -1 ≤ dst g p q ∧ dst g p q ≤ 4096 := by
  rcases dst_cases hr hp q with ⟨k, h, e⟩ | ⟨_, e⟩
  · have := IsD.lt hr hp h
    omega
  · omega
theorem meetK_bd {g : Gr} {A B C : Pt → Int} (h : ∀ x, -1 ≤ A x ∧ A x ≤ 4096 ∧ -1 ≤ B x ∧ B x ≤ 4096 ∧ -1 ≤ C x ∧ C x ≤ 4096) : ∀ k, -3 ≤ (meetK g A B C k).1 ∧ (meetK g A B C k).1 ≤ 12288 := by
  intro k
  induction k with
  | zero => simp [meetK]
  | succ k ih =>
    unfold meetK meetStep
    have := h (cellAt g k)
    split
    · exact ih
    · split
      · dsimp only; omega
      · exact ih

abbrev V3 (p q r : Pt) : Value := .agg #[.int .i64 p.1, .int .i64 p.2, .int .i64 q.1, .int .i64 q.2, .int .i64 r.1, .int .i64 r.2]

set_option maxHeartbeats 4000000 in
set_option maxRecDepth 100000 in
theorem Meet_any (g : Gr) (p q r : Pt) (ga : Option Addr) (gc : Nat) (w : World) (hg : g.bl.length ≤ maxLen) (hc : Cells2 w ga g.bl) :
    Calls Try.prog 7 #[.agg #[.int .i64 g.rows, .int .i64 g.cols, .slice ga g.bl.length gc], .agg #[.int .i64 p.1, .int .i64 p.2, .int .i64 q.1, .int .i64 q.2, .int .i64 r.1, .int .i64 r.2]] w fun e w' =>
      e = .returned (.tuple #[.agg #[.int .i64 (meetP g p q r).1, .int .i64 (meetP g p q r).2], .int .i64 (meetN g p q r), .int .i64 (meetE g p q r)]) ∧ Ext w w' := by
  have HC : Hid (Cells2 w ga g.bl) := hc
  have HG := Lib.hid hg
  clear hc hg
  obtain ⟨W0, hW0⟩ : ∃ W0, ((((w).alloc (.cells #[.int .i64 g.rows, .int .i64 g.cols, .slice ga g.bl.length gc] 25))).alloc (.cells #[.int .i64 p.1, .int .i64 p.2, .int .i64 q.1, .int .i64 q.2, .int .i64 r.1, .int .i64 r.2] 28)).alloc (.cells #[.int .i64 0, .int .i64 0] 27) = W0 := ⟨_, rfl⟩
  have E0 : Ext w W0 := by rw [← hW0]; exact (((Ext.refl _).alloc _).alloc _).alloc _
  have F0 : Hid (MtFix g p q r ga gc w.heap.size W0) := by
    rw [← hW0]; clear hW0
    exact ⟨by go_simp, by go_simp, by go_simp, by go_simp, by go_simp, by go_simp, by go_simp, by go_simp, by go_simp, by go_simp, by go_simp, by go_simp, by go_simp⟩
  obtain ⟨a1, a2, a3, p1, p2, p3, p4, p5, p6, c1, c2, f1, f2⟩ := F0.out
  have H3 : Hid (Cells2 W0 (some ⟨w.heap.size + 1, 0, none⟩) [p, q, r]) := cells2_three p1 p2 p3 p4 p5 p6
  go_enter Try.func7, Try.ntmps7
  go_wp2_with fail
  clear hW0
  have y1 := cell_lt a1; have y2 := cell_lt p1
  dsimp only at y1 y2
  go_region_held3 (fun w' => Sees W0 w') ((repeat (first | exact Sees.refl _ | assumption | apply Sees.drew | apply Sees.alloc | (refine Sees.ext ?_ (by assumption))))) (first | (go_at_call 9; refine (given_any g [p, q, r] ga gc _ _ _ HG.out (HC.out.ext (E0.trans (by exact (show Sees W0 _ by assumption).2.2))) (by simp [maxLen]) (H3.out.ext (by exact (show Sees W0 _ by assumption).2.2))).mono ?_; rintro e w' ⟨rfl, hE2⟩))
  have hS := (show Sees W0 _ by assumption).2.2
  have F1 : Hid (MtFix g p q r ga gc w.heap.size w') := F0.out.ext hS
  have E1 := E0.trans hS
  clear y1 y2 a1 a2 a3 p1 p2 p3 p4 p5 p6 c1 c2 f1 f2 H3 F0 E0 hS
  generalize w' = W1 at F1 E1 ⊢
  by_cases h0 : givenErr g [p, q, r] = 0
  · obtain ⟨hr, ho⟩ := given_ok h0
    have HR := Lib.hid hr
    have HP : Hid (inside g p = true) := opn_inside (ho p (by simp))
    have HQ : Hid (inside g q = true) := opn_inside (ho q (by simp))
    have HRR : Hid (inside g r = true) := opn_inside (ho r (by simp))
    have HV : Hid (meetP g p q r = (if meetBad g p q r = true then (0, 0) else (meetV g p q r).2) ∧ meetN g p q r = (if meetBad g p q r = true then 0 else (meetV g p q r).1) ∧ meetE g p q r = if meetBad g p q r = true then 6 else 0) := by
      show _ ∧ _ ∧ _
      unfold meetP meetN meetE
      exact ⟨if_neg (by simp [h0]), if_neg (by simp [h0]), if_neg (by simp [h0])⟩
    rw [h0]
    clear h0 hr ho
    obtain ⟨a1, a2, a3, p1, p2, p3, p4, p5, p6, c1, c2, f1, f2⟩ := F1.out
    have z2 := F1.out.lt
    have z1 : w.heap.size + 1 < W1.heap.size := by omega
    have z0 : w.heap.size < W1.heap.size := by omega
    have i0 : ∀ w, (Instr.index 28 (.agg #[.int .i64 p.1, .int .i64 p.2, .int .i64 q.1, .int .i64 q.2, .int .i64 r.1, .int .i64 r.2]) (.int .i64 0)).run Try.prog w = .ok (.agg #[.int .i64 p.1, .int .i64 p.2]) w := fun _ => by kernel_rfl
    have i1 : ∀ w, (Instr.index 28 (.agg #[.int .i64 p.1, .int .i64 p.2, .int .i64 q.1, .int .i64 q.2, .int .i64 r.1, .int .i64 r.2]) (.int .i64 1)).run Try.prog w = .ok (.agg #[.int .i64 q.1, .int .i64 q.2]) w := fun _ => by kernel_rfl
    have i2 : ∀ w, (Instr.index 28 (.agg #[.int .i64 p.1, .int .i64 p.2, .int .i64 q.1, .int .i64 q.2, .int .i64 r.1, .int .i64 r.2]) (.int .i64 2)).run Try.prog w = .ok (.agg #[.int .i64 r.1, .int .i64 r.2]) w := fun _ => by kernel_rfl
    go_wp2
    obtain ⟨fb, hfb⟩ : ∃ fb, fb = W1.heap.size := ⟨_, rfl⟩
    have E2 : Ext W1 (W1.alloc (.cells #[.pointer none, .pointer none, .pointer none] 51)) := (Ext.refl _).alloc _
    have FR0 : Hid (MtFar fb 0 (.pointer none) (.pointer none) (.pointer none) (W1.alloc (.cells #[.pointer none, .pointer none, .pointer none] 51))) := by
      rw [hfb]; clear hfb
      exact ⟨by go_simp, by go_simp, by go_simp, by go_simp, by go_simp, by go_simp⟩
    have FX0 := Lib.hid (F1.out.ext E2)
    have EV0 : Ext w (W1.alloc (.cells #[.pointer none, .pointer none, .pointer none] 51)) := E1.trans E2
    have zfb : w.heap.size + 1 + 1 < fb := by omega
    have B0 : Hid (Below fb W1 (W1.alloc (.cells #[.pointer none, .pointer none, .pointer none] 51))) := E2.mono (by omega)
    rw [← hfb]
    clear hfb a1 a2 a3 p1 p2 p3 p4 p5 p6 c1 c2 f1 f2 z0 z1 z2
    generalize (W1.alloc (.cells #[.pointer none, .pointer none, .pointer none] 51)) = V0 at FR0 FX0 EV0 E2 B0 ⊢
    refine wp_loop_rounds 4 ?_
    -- round 0
    rw [rounds_succ]
    obtain ⟨a1, a2, a3, p1, p2, p3, p4, p5, p6, c1, c2, f1, f2⟩ := FX0.out
    have z2 := FX0.out.lt
    have z1 : w.heap.size + 1 < V0.heap.size := by omega
    have z0 : w.heap.size < V0.heap.size := by omega
    go_wp2_with fail
    refine (distances_any g p ga gc _ HR.out HP.out (HC.out.ext (EV0.alloc _))).mono ?_
    rintro e w' ⟨t0, rfl, hT0, hE⟩
    have HT0 := Lib.hid hT0
    have G : Ext V0 w' := ((Ext.refl _).alloc _).trans hE
    have FX := Lib.hid (FX0.out.ext G)
    have FR := Lib.hid (FR0.out.ext G)
    have hB := Lib.hid (B0.out.trans (G.mono (show fb ≤ V0.heap.size from Nat.le_of_lt FR0.out.lt)))
    obtain ⟨y0, y1, y2, y3, y4, y5⟩ := FR.out
    have hx := Lib.hid (TabAt.ne y0 HT0.out)
    have EV := EV0.trans G
    clear hT0 hE a1 a2 a3 p1 p2 p3 p4 p5 p6 c1 c2 f1 f2 z0 z1 z2 FX0 FR0 EV0 G B0
    obtain ⟨a1, a2, a3, p1, p2, p3, p4, p5, p6, c1, c2, f1, f2⟩ := FX.out
    have z2 := FX.out.lt
    have z1 : w.heap.size + 1 < w'.heap.size := by omega
    have z0 : w.heap.size < w'.heap.size := by omega
    go_wp2_with fail
    have FX1 : Hid (MtFix g p q r ga gc w.heap.size (w'.setCell ⟨fb, 0, none⟩ (.pointer (some ⟨t0, 0, none⟩)))) := FX.out.below (Below.setCell (p := ⟨fb, 0, none⟩) (Below.refl fb _) (Nat.le_refl _) _) zfb
    have FR1 : Hid (MtFar fb 0 (.pointer (some ⟨t0, 0, none⟩)) (.pointer none) (.pointer none) (w'.setCell ⟨fb, 0, none⟩ (.pointer (some ⟨t0, 0, none⟩)))) := ⟨by go_simp, by go_simp, by go_simp, by go_simp, by go_simp, by go_simp⟩
    have HT0 := Lib.hid (HT0.out.store ⟨fb, 0, none⟩ (.pointer (some ⟨t0, 0, none⟩)) hx.out)
    have EV1 : Ext w (w'.setCell ⟨fb, 0, none⟩ (.pointer (some ⟨t0, 0, none⟩))) := Below.setCell (p := ⟨fb, 0, none⟩) EV (by show w.heap.size ≤ fb; omega) _
    have B1 : Hid (Below fb W1 (w'.setCell ⟨fb, 0, none⟩ (.pointer (some ⟨t0, 0, none⟩)))) := Below.setCell (p := ⟨fb, 0, none⟩) hB.out (Nat.le_refl _) _
    clear a1 a2 a3 p1 p2 p3 p4 p5 p6 c1 c2 f1 f2 z0 z1 z2 FX FR EV hB y0 y1 y2 y3 y4 y5 hx
    generalize (w'.setCell ⟨fb, 0, none⟩ (.pointer (some ⟨t0, 0, none⟩))) = V1 at FX1 FR1 EV1 B1 HT0 ⊢
    -- round 1
    rw [rounds_succ]
    obtain ⟨a1, a2, a3, p1, p2, p3, p4, p5, p6, c1, c2, f1, f2⟩ := FX1.out
    have z2 := FX1.out.lt
    have z1 : w.heap.size + 1 < V1.heap.size := by omega
    have z0 : w.heap.size < V1.heap.size := by omega
    go_wp2_with fail
    refine (distances_any g q ga gc _ HR.out HQ.out (HC.out.ext (EV1.alloc _))).mono ?_
    rintro e w' ⟨t1, rfl, hT1, hE⟩
    have HT1 := Lib.hid hT1
    have G : Ext V1 w' := ((Ext.refl _).alloc _).trans hE
    have FX := Lib.hid (FX1.out.ext G)
    have FR := Lib.hid (FR1.out.ext G)
    have hB := Lib.hid (B1.out.trans (G.mono (show fb ≤ V1.heap.size from Nat.le_of_lt FR1.out.lt)))
    obtain ⟨y0, y1, y2, y3, y4, y5⟩ := FR.out
    have hx := Lib.hid (TabAt.ne y0 HT1.out)
    have HT0 := Lib.hid (HT0.out.ext G)
    have hx0 := Lib.hid (TabAt.ne y0 HT0.out)
    have EV := EV1.trans G
    clear hT1 hE a1 a2 a3 p1 p2 p3 p4 p5 p6 c1 c2 f1 f2 z0 z1 z2 FX1 FR1 EV1 G B1
    obtain ⟨a1, a2, a3, p1, p2, p3, p4, p5, p6, c1, c2, f1, f2⟩ := FX.out
    have z2 := FX.out.lt
    have z1 : w.heap.size + 1 < w'.heap.size := by omega
    have z0 : w.heap.size < w'.heap.size := by omega
    go_wp2_with fail
    have FX2 : Hid (MtFix g p q r ga gc w.heap.size (w'.setCell ⟨fb, 1, none⟩ (.pointer (some ⟨t1, 0, none⟩)))) := FX.out.below (Below.setCell (p := ⟨fb, 1, none⟩) (Below.refl fb _) (Nat.le_refl _) _) zfb
    have FR2 : Hid (MtFar fb 0 (.pointer (some ⟨t0, 0, none⟩)) (.pointer (some ⟨t1, 0, none⟩)) (.pointer none) (w'.setCell ⟨fb, 1, none⟩ (.pointer (some ⟨t1, 0, none⟩)))) := ⟨by go_simp, by go_simp, by go_simp, by go_simp, by go_simp, by go_simp⟩
    have HT1 := Lib.hid (HT1.out.store ⟨fb, 1, none⟩ (.pointer (some ⟨t1, 0, none⟩)) hx.out)
    have HT0 := Lib.hid (HT0.out.store ⟨fb, 1, none⟩ (.pointer (some ⟨t1, 0, none⟩)) hx0.out)
    have EV2 : Ext w (w'.setCell ⟨fb, 1, none⟩ (.pointer (some ⟨t1, 0, none⟩))) := Below.setCell (p := ⟨fb, 1, none⟩) EV (by show w.heap.size ≤ fb; omega) _
    have B2 : Hid (Below fb W1 (w'.setCell ⟨fb, 1, none⟩ (.pointer (some ⟨t1, 0, none⟩)))) := Below.setCell (p := ⟨fb, 1, none⟩) hB.out (Nat.le_refl _) _
    clear a1 a2 a3 p1 p2 p3 p4 p5 p6 c1 c2 f1 f2 z0 z1 z2 FX FR EV hB y0 y1 y2 y3 y4 y5 hx
    generalize (w'.setCell ⟨fb, 1, none⟩ (.pointer (some ⟨t1, 0, none⟩))) = V2 at FX2 FR2 EV2 B2 HT0 HT1 ⊢
    -- round 2
    rw [rounds_succ]
    obtain ⟨a1, a2, a3, p1, p2, p3, p4, p5, p6, c1, c2, f1, f2⟩ := FX2.out
    have z2 := FX2.out.lt
    have z1 : w.heap.size + 1 < V2.heap.size := by omega
    have z0 : w.heap.size < V2.heap.size := by omega
    go_wp2_with fail
    refine (distances_any g r ga gc _ HR.out HRR.out (HC.out.ext (EV2.alloc _))).mono ?_
    rintro e w' ⟨t2, rfl, hT2, hE⟩
    have HT2 := Lib.hid hT2
    have G : Ext V2 w' := ((Ext.refl _).alloc _).trans hE
    have FX := Lib.hid (FX2.out.ext G)
    have FR := Lib.hid (FR2.out.ext G)
    have hB := Lib.hid (B2.out.trans (G.mono (show fb ≤ V2.heap.size from Nat.le_of_lt FR2.out.lt)))
    obtain ⟨y0, y1, y2, y3, y4, y5⟩ := FR.out
    have hx := Lib.hid (TabAt.ne y0 HT2.out)
    have HT0 := Lib.hid (HT0.out.ext G)
    have hx0 := Lib.hid (TabAt.ne y0 HT0.out)
    have HT1 := Lib.hid (HT1.out.ext G)
    have hx1 := Lib.hid (TabAt.ne y0 HT1.out)
    have EV := EV2.trans G
    clear hT2 hE a1 a2 a3 p1 p2 p3 p4 p5 p6 c1 c2 f1 f2 z0 z1 z2 FX2 FR2 EV2 G B2
    obtain ⟨a1, a2, a3, p1, p2, p3, p4, p5, p6, c1, c2, f1, f2⟩ := FX.out
    have z2 := FX.out.lt
    have z1 : w.heap.size + 1 < w'.heap.size := by omega
    have z0 : w.heap.size < w'.heap.size := by omega
    go_wp2_with fail
    have FX3 : Hid (MtFix g p q r ga gc w.heap.size (w'.setCell ⟨fb, 2, none⟩ (.pointer (some ⟨t2, 0, none⟩)))) := FX.out.below (Below.setCell (p := ⟨fb, 2, none⟩) (Below.refl fb _) (Nat.le_refl _) _) zfb
    have FR3 : Hid (MtFar fb 0 (.pointer (some ⟨t0, 0, none⟩)) (.pointer (some ⟨t1, 0, none⟩)) (.pointer (some ⟨t2, 0, none⟩)) (w'.setCell ⟨fb, 2, none⟩ (.pointer (some ⟨t2, 0, none⟩)))) := ⟨by go_simp, by go_simp, by go_simp, by go_simp, by go_simp, by go_simp⟩
    have HT2 := Lib.hid (HT2.out.store ⟨fb, 2, none⟩ (.pointer (some ⟨t2, 0, none⟩)) hx.out)
    have HT0 := Lib.hid (HT0.out.store ⟨fb, 2, none⟩ (.pointer (some ⟨t2, 0, none⟩)) hx0.out)
    have HT1 := Lib.hid (HT1.out.store ⟨fb, 2, none⟩ (.pointer (some ⟨t2, 0, none⟩)) hx1.out)
    have EV3 : Ext w (w'.setCell ⟨fb, 2, none⟩ (.pointer (some ⟨t2, 0, none⟩))) := Below.setCell (p := ⟨fb, 2, none⟩) EV (by show w.heap.size ≤ fb; omega) _
    have B3 : Hid (Below fb W1 (w'.setCell ⟨fb, 2, none⟩ (.pointer (some ⟨t2, 0, none⟩)))) := Below.setCell (p := ⟨fb, 2, none⟩) hB.out (Nat.le_refl _) _
    clear a1 a2 a3 p1 p2 p3 p4 p5 p6 c1 c2 f1 f2 z0 z1 z2 FX FR EV hB y0 y1 y2 y3 y4 y5 hx
    generalize (w'.setCell ⟨fb, 2, none⟩ (.pointer (some ⟨t2, 0, none⟩))) = V3 at FX3 FR3 EV3 B3 HT0 HT1 HT2 ⊢
    rw [rounds_succ]
    go_wp2_with fail
    obtain ⟨a1, a2, a3, p1, p2, p3, p4, p5, p6, c1, c2, f1, f2⟩ := FX3.out
    obtain ⟨y0, y1, y2, y3, y4, y5⟩ := FR3.out
    obtain ⟨rq1, rq2, rq3, rq4⟩ := inG_of HR.out HQ.out
    obtain ⟨rr1, rr2, rr3, rr4⟩ := inG_of HR.out HRR.out
    have cq := (HT0.out q ⟨rq1, rq2, rq3, rq4⟩).1
    have cr := (HT0.out r ⟨rr1, rr2, rr3, rr4⟩).1
    cases hx0 : decide (dst g p q < 0)
    · cases hx1 : decide (dst g p r < 0)
      · have HB : Hid (meetBad g p q r = false) := by show _ = _; unfold meetBad; rw [hx0, hx1]; rfl
        go_quiet (fail)
        have EN : Ext V3 (V3.drewN nq) := (Ext.refl _).drewN _
        have FX4 := Lib.hid (FX3.out.ext EN)
        have FR4 := Lib.hid (FR3.out.ext EN)
        have HT0 := Lib.hid (HT0.out.ext EN)
        have HT1 := Lib.hid (HT1.out.ext EN)
        have HT2 := Lib.hid (HT2.out.ext EN)
        have EV4 := EV3.trans EN
        clear a1 a2 a3 p1 p2 p3 p4 p5 p6 c1 c2 f1 f2 y0 y1 y2 y3 y4 y5 rq1 rq2 rq3 rq4 rr1 rr2 rr3 rr4 cq cr FX3 FR3 EV3 EN B3
        generalize V3.drewN nq = V4 at FX4 FR4 HT0 HT1 HT2 EV4 ⊢
        obtain ⟨a1, a2, a3, p1, p2, p3, p4, p5, p6, c1, c2, f1, f2⟩ := FX4.out
        have zx := FX4.out.lt
        have z0 : w.heap.size < V4.heap.size := by omega
        go_wp2_with fail
        have E5 : Ext V4 (V4.alloc (.cells #[.int .i64 0, .int .i64 0] 27)) := (Ext.refl _).alloc _
        obtain ⟨bat, hbat⟩ : ∃ b, b = V4.heap.size := ⟨_, rfl⟩
        have FX5 := Lib.hid (FX4.out.ext E5)
        have FR5 := Lib.hid (FR4.out.ext E5)
        have HT0' := Lib.hid (HT0.out.ext E5)
        have HT1' := Lib.hid (HT1.out.ext E5)
        have HT2' := Lib.hid (HT2.out.ext E5)
        have EV5 := EV4.trans E5
        have b1 : (V4.alloc (.cells #[.int .i64 0, .int .i64 0] 27)).cell? ⟨bat, 0, none⟩ = some (.int .i64 0) := by rw [hbat]; clear hbat; go_simp
        have b2 : (V4.alloc (.cells #[.int .i64 0, .int .i64 0] 27)).cell? ⟨bat, 1, none⟩ = some (.int .i64 0) := by rw [hbat]; clear hbat; go_simp
        have b3 : (V4.alloc (.cells #[.int .i64 0, .int .i64 0] 27)).frozen? ⟨bat, 0, none⟩ = false := by rw [hbat]; clear hbat; go_simp
        have b4 : (V4.alloc (.cells #[.int .i64 0, .int .i64 0] 27)).frozen? ⟨bat, 1, none⟩ = false := by rw [hbat]; clear hbat; go_simp
        have zw : w.heap.size + 1 + 1 < bat := by rw [hbat]; exact FX4.out.lt
        have zf : fb < bat := by rw [hbat]; exact FR4.out.lt
        have zt0 : t0 < bat := by rw [hbat]; exact HT0.out.lt
        have zt1 : t1 < bat := by rw [hbat]; exact HT1.out.lt
        have zt2 : t2 < bat := by rw [hbat]; exact HT2.out.lt
        rw [← hbat]
        clear hbat a1 a2 a3 p1 p2 p3 p4 p5 p6 c1 c2 f1 f2 zx z0 FX4 FR4 HT0 HT1 HT2 EV4 E5
        generalize V4.alloc (.cells #[.int .i64 0, .int .i64 0] 27) = V5 at FX5 FR5 HT0' HT1' HT2' EV5 b1 b2 b3 b4 ⊢
        obtain ⟨mk, hmk⟩ : ∃ mk, mk = meetK g (dst g p) (dst g q) (dst g r) := ⟨_, rfl⟩
        have HMK0 : Hid (mk 0 = (-1, (0, 0))) := by rw [hmk]; rfl
        have HMKS : Hid (∀ k, mk (k + 1) = meetStep (dst g p) (dst g q) (dst g r) (mk k) (cellAt g k)) := by rw [hmk]; intro k; rfl
        have HMKB : Hid (∀ k, -3 ≤ (mk k).1 ∧ (mk k).1 ≤ 12288) := by
          rw [hmk]
          exact meetK_bd (fun x => ⟨(dst_bd HR.out HP.out x).1, (dst_bd HR.out HP.out x).2, (dst_bd HR.out HQ.out x).1, (dst_bd HR.out HQ.out x).2, (dst_bd HR.out HRR.out x).1, (dst_bd HR.out HRR.out x).2⟩)
        have HMKE : Hid (meetV g p q r = mk (g.rows.toNat * g.cols.toNat)) := by rw [hmk]; rfl
        clear hmk
        have hr1 := HR.out.r1
        have hr2 := HR.out.r2
        have hc1 := HR.out.c1
        have hc2 := HR.out.c2
        have j0 : ∀ w, (Instr.index 51 (.agg #[.pointer (some ⟨t0, 0, none⟩), .pointer (some ⟨t1, 0, none⟩), .pointer (some ⟨t2, 0, none⟩)]) (.int .i64 0)).run Try.prog w = .ok (.pointer (some ⟨t0, 0, none⟩)) w := fun _ => by kernel_rfl
        have j1 : ∀ w, (Instr.index 51 (.agg #[.pointer (some ⟨t0, 0, none⟩), .pointer (some ⟨t1, 0, none⟩), .pointer (some ⟨t2, 0, none⟩)]) (.int .i64 1)).run Try.prog w = .ok (.pointer (some ⟨t1, 0, none⟩)) w := fun _ => by kernel_rfl
        have j2 : ∀ w, (Instr.index 51 (.agg #[.pointer (some ⟨t0, 0, none⟩), .pointer (some ⟨t1, 0, none⟩), .pointer (some ⟨t2, 0, none⟩)]) (.int .i64 2)).run Try.prog w = .ok (.pointer (some ⟨t2, 0, none⟩)) w := fun _ => by kernel_rfl
        go_loopw [11, 68] (fun b i wr => ∃ k : Nat, k ≤ g.rows.toNat ∧ i = .int .i64 k ∧ b = .int .i64 (mk (k * g.cols.toNat)).1 ∧ Hid (Below bat V5 wr) ∧ wr.cell? ⟨bat, 0, none⟩ = some (.int .i64 (mk (k * g.cols.toNat)).2.1) ∧ wr.cell? ⟨bat, 1, none⟩ = some (.int .i64 (mk (k * g.cols.toNat)).2.2) ∧ wr.frozen? ⟨bat, 0, none⟩ = false ∧ wr.frozen? ⟨bat, 1, none⟩ = false) (fun _ i _ => g.rows.toNat - (intOf i).toNat)
        case atStart =>
          refine ⟨0, Nat.zero_le _, rfl, ?_, Below.refl _ _, ?_, ?_, b3, b4⟩
          · rw [Nat.zero_mul, HMK0.out]
          · rw [Nat.zero_mul, HMK0.out]; exact b1
          · rw [Nat.zero_mul, HMK0.out]; exact b2
        case round =>
          clear b1 b2 b3 b4
          obtain ⟨k, hk, rfl, rfl, hB, b1, b2, b3, b4⟩ := hrel
          have hmb := HMKB.out (k * g.cols.toNat)
          have FX := Lib.hid (FX5.out.below hB.out zw)
          obtain ⟨a1, a2, a3, p1, p2, p3, p4, p5, p6, c1, c2, f1, f2⟩ := FX.out
          by_cases hlt : k < g.rows.toNat
          · have hlt' : (k : Int) < g.rows := by omega
            go_wp2_with fail
            clear a1 a2 a3 p1 p2 p3 p4 p5 p6 c1 c2 f1 f2
            go_loopw [11, 73] (fun b i wr => ∃ c : Nat, c ≤ g.cols.toNat ∧ i = .int .i64 c ∧ b = .int .i64 (mk (k * g.cols.toNat + c)).1 ∧ Hid (Below bat V5 wr) ∧ wr.cell? ⟨bat, 0, none⟩ = some (.int .i64 (mk (k * g.cols.toNat + c)).2.1) ∧ wr.cell? ⟨bat, 1, none⟩ = some (.int .i64 (mk (k * g.cols.toNat + c)).2.2) ∧ wr.frozen? ⟨bat, 0, none⟩ = false ∧ wr.frozen? ⟨bat, 1, none⟩ = false) (fun _ i _ => g.cols.toNat - (intOf i).toNat)
            case atStart =>
              exact ⟨0, Nat.zero_le _, rfl, rfl, hB, b1, b2, b3, b4⟩
            case round =>
              clear b1 b2 b3 b4 hB FX hmb
              obtain ⟨c, hc, rfl, rfl, hB, b1, b2, b3, b4⟩ := hrel
              have hmb := HMKB.out (k * g.cols.toNat + c)
              by_cases hlc : c < g.cols.toNat
              · have hlc' : (c : Int) < g.cols := by omega
                have FR := Lib.hid (FR5.out.below hB.out zf)
                obtain ⟨y0, y1, y2, y3, y4, y5⟩ := FR.out
                have ig : InG ((k : Int), (c : Int)) := ⟨by show (0 : Int) ≤ k; omega, by show (k : Int) < 64; omega, by show (0 : Int) ≤ c; omega, by show (c : Int) < 64; omega⟩
                have d0 := ((HT0'.out.below hB.out zt0) _ ig).1
                have d1 := ((HT1'.out.below hB.out zt1) _ ig).1
                have d2 := ((HT2'.out.below hB.out zt2) _ ig).1
                simp only [Int.toNat_natCast] at d0 d1 d2
                have hst := HMKS.out (k * g.cols.toNat + c)
                rw [cellAt_mk hlc] at hst
                unfold meetStep at hst
                obtain ⟨bd1, bd2⟩ := dst_bd HR.out HP.out ((k : Int), (c : Int))
                obtain ⟨bd3, bd4⟩ := dst_bd HR.out HQ.out ((k : Int), (c : Int))
                obtain ⟨bd5, bd6⟩ := dst_bd HR.out HRR.out ((k : Int), (c : Int))
                generalize dst g p ((k : Int), (c : Int)) = A at d0 hst bd1 bd2
                generalize dst g q ((k : Int), (c : Int)) = B at d1 hst bd3 bd4
                generalize dst g r ((k : Int), (c : Int)) = C at d2 hst bd5 bd6
                have k64 : (k : Int) < 64 := by omega
                have c64 : (c : Int) < 64 := by omega
                by_cases hA : A < 0
                · rw [if_pos hA] at hst
                  have HST := Lib.hid hst
                  clear hst
                  go_wp2
                  refine ⟨⟨c + 1, by omega, by go_num, ?_, hB, ?_, ?_, b3, b4⟩, by simp [intOf]; omega⟩
                  · rw [← Nat.add_assoc, HST.out]
                  · rw [← Nat.add_assoc, HST.out]; exact b1
                  · rw [← Nat.add_assoc, HST.out]; exact b2
                · rw [if_neg hA] at hst
                  have HST := Lib.hid hst
                  clear hst
                  have s1 : IntKind.i64.wrap A = A := IntWalk.i64_in _ (by omega)
                  have s2 : IntKind.i64.wrap (A + B) = A + B := IntWalk.i64_in _ (by omega)
                  have s3 : IntKind.i64.wrap (A + B + C) = A + B + C := IntWalk.i64_in _ (by omega)
                  have hnA : ¬ A < 0 := hA
                  cases h1 : decide ((mk (k * g.cols.toNat + c)).1 < 0)
                  · cases h2 : decide (A + B + C < (mk (k * g.cols.toNat + c)).1)
                    · have HST := Lib.hid (HST.out.trans (if_neg (by simp at h1 h2; omega)))
                      go_wp2
                      refine wp_loop_rounds 4 ?_
                      repeat any_goals (rw [rounds_succ]; go_wp2)
                      refine ⟨⟨c + 1, by omega, by go_num, ?_, hB, ?_, ?_, b3, b4⟩, by simp [intOf]; omega⟩
                      · rw [← Nat.add_assoc, HST.out]
                      · rw [← Nat.add_assoc, HST.out]; exact b1
                      · rw [← Nat.add_assoc, HST.out]; exact b2
                    · have HST := Lib.hid (HST.out.trans (if_pos (.inr (by simpa using h2))))
                      go_wp2
                      refine wp_loop_rounds 4 ?_
                      repeat any_goals (rw [rounds_succ]; go_wp2)
                      refine ⟨⟨c + 1, by omega, by go_num, ?_, Below.setCell (p := ⟨bat, 1, none⟩) (Below.setCell (p := ⟨bat, 0, none⟩) hB.out (Nat.le_refl _) _) (Nat.le_refl _) _, ?_, ?_, by go_simp, by go_simp⟩, by simp [intOf]; omega⟩
                      · rw [← Nat.add_assoc, HST.out]
                      · rw [← Nat.add_assoc, HST.out]; go_simp
                      · rw [← Nat.add_assoc, HST.out]; go_simp
                  · have HST := Lib.hid (HST.out.trans (if_pos (.inl (by simpa using h1))))
                    go_wp2
                    refine wp_loop_rounds 4 ?_
                    repeat any_goals (rw [rounds_succ]; go_wp2)
                    refine ⟨⟨c + 1, by omega, by go_num, ?_, Below.setCell (p := ⟨bat, 1, none⟩) (Below.setCell (p := ⟨bat, 0, none⟩) hB.out (Nat.le_refl _) _) (Nat.le_refl _) _, ?_, ?_, by go_simp, by go_simp⟩, by simp [intOf]; omega⟩
                    · rw [← Nat.add_assoc, HST.out]
                    · rw [← Nat.add_assoc, HST.out]; go_simp
                    · rw [← Nat.add_assoc, HST.out]; go_simp
              · have hlc' : ¬ (c : Int) < g.cols := by omega
                have HCE : Hid (k * g.cols.toNat + c = (k + 1) * g.cols.toNat) := by
                  show _ = _
                  rw [Nat.add_mul, Nat.one_mul, show c = g.cols.toNat by omega]
                go_wp2
                refine ⟨⟨k + 1, by omega, by go_num, ?_, hB, ?_, ?_, b3, b4⟩, by simp [intOf]; omega⟩
                · rw [← HCE.out]
                · rw [← HCE.out]; exact b1
                · rw [← HCE.out]; exact b2
          · have hlt' : ¬ (k : Int) < g.rows := by omega
            have hke : k = g.rows.toNat := by omega
            go_wp2
            try simp only [Exit.inBlock, Exit.then]
            refine bodyPost_ret (v := .tuple #[.agg #[.int .i64 (mk (g.rows.toNat * g.cols.toNat)).2.1, .int .i64 (mk (g.rows.toNat * g.cols.toNat)).2.2], .int .i64 (mk (g.rows.toNat * g.cols.toNat)).1, .int .i64 0]) (by rw [results_cell_tmp2 rfl]; go_simp) rfl ⟨?_, ?_⟩
            · rw [HV.out.1, HV.out.2.1, HV.out.2.2, HB.out, HMKE.out]
              rfl
            · exact Below.setCell (p := ⟨_, 1, none⟩) (Below.setCell (p := ⟨_, 0, none⟩) (Below.trans EV5 (hB.out.mono (by omega))) (by show w.heap.size ≤ w.heap.size + 1 + 1; omega) _) (by show w.heap.size ≤ w.heap.size + 1 + 1; omega) _
      · have HB : Hid (meetBad g p q r = true) := by show _ = _; unfold meetBad; rw [hx0, hx1]; rfl
        go_quiet (fail)
        go_wp2
        try simp only [Exit.inBlock, Exit.then]
        refine bodyPost_ret (v := .tuple #[.agg #[.int .i64 0, .int .i64 0], .int .i64 0, .int .i64 6]) (by rw [results_cell_tmp2 rfl]; go_simp) rfl ⟨?_, ?_⟩
        · rw [HV.out.1, HV.out.2.1, HV.out.2.2, if_pos HB.out, if_pos HB.out, if_pos HB.out]
        · exact Below.setCell (p := ⟨_, 1, none⟩) (Below.setCell (p := ⟨_, 0, none⟩) (EV3.drewN _) (by show w.heap.size ≤ w.heap.size + 1 + 1; omega) _) (by show w.heap.size ≤ w.heap.size + 1 + 1; omega) _
    · have HB : Hid (meetBad g p q r = true) := by show _ = _; unfold meetBad; rw [hx0]; rfl
      go_quiet (fail)
      go_wp2
      try simp only [Exit.inBlock, Exit.then]
      refine bodyPost_ret (v := .tuple #[.agg #[.int .i64 0, .int .i64 0], .int .i64 0, .int .i64 6]) (by rw [results_cell_tmp2 rfl]; go_simp) rfl ⟨?_, ?_⟩
      · rw [HV.out.1, HV.out.2.1, HV.out.2.2, if_pos HB.out, if_pos HB.out, if_pos HB.out]
      · exact Below.setCell (p := ⟨_, 1, none⟩) (Below.setCell (p := ⟨_, 0, none⟩) (EV3.drewN _) (by show w.heap.size ≤ w.heap.size + 1 + 1; omega) _) (by show w.heap.size ≤ w.heap.size + 1 + 1; omega) _
  · have hv : Hid (meetP g p q r = (0, 0) ∧ meetN g p q r = 0 ∧ meetE g p q r = givenErr g [p, q, r]) := by
      show _ ∧ _ ∧ _
      unfold meetP meetN meetE
      exact ⟨if_pos h0, if_pos h0, if_pos h0⟩
    have hb : (givenErr g [p, q, r] != 0) = true := by simp [h0]
    have hb2 : (givenErr g [p, q, r] == 0) = false := by simp [h0]
    clear h0
    obtain ⟨a1, a2, a3, p1, p2, p3, p4, p5, p6, c1, c2, f1, f2⟩ := F1.out
    go_wp2
    try simp only [Exit.inBlock, Exit.then]
    refine bodyPost_ret (v := .tuple #[.agg #[.int .i64 0, .int .i64 0], .int .i64 0, .int .i64 (givenErr g [p, q, r])]) (by rw [results_cell_tmp2 rfl]; go_simp) rfl ⟨?_, ?_⟩
    · rw [hv.out.1, hv.out.2.1, hv.out.2.2]
    · exact Below.setCell (p := ⟨_, 1, none⟩) (Below.setCell (p := ⟨_, 0, none⟩) E1 (by show w.heap.size ≤ w.heap.size + 1 + 1; omega) _) (by show w.heap.size ≤ w.heap.size + 1 + 1; omega) _
end Go.Proofs.Ytechakkdcllgoaa
