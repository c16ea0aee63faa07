/- The route. -/
import Derived.Test.YtfigooilhnahfaaRouteR
import Derived.Test.YtfigooilhnahfaaLen
namespace Go.Proofs.Ytfigooilhnahfaa
open Go.RowKit
attribute [local go_sem] Oper.semAt_some

def routeL (g : Gr) (p q : Pt) : List Pt := if dst g q p < 0 then [] else way g p q
def RoutePost (g : Gr) (p q : Pt) (w : World) (e : Ending) (w' : World) : Prop :=
  ∃ v, e = .returned (.tuple #[v, .int .i64 (if dst g q p < 0 then 6 else 0)]) ∧ Owns w' v (routeL g p q) ∧ Ext w w'

def sliceLen : Value → Nat
  | .slice _ n _ => n
  | _ => 0
def fuelR (a : Act) : Nat := 5000 - sliceLen (a.tmps.getD 9 undef)

/-- a frame with marks leaves: only the marks turn -/
theorem leaves_keep {P : Program} {fn : Func} {tmps : Array Value} {R : Ending → World → Prop} {m n : Nat} {v : Value} (hv : ∀ w, (results fn tmps).run P w = .ok v w) :
    ∀ (ds : List Deferred) (w : World), Marks n ds w → (∀ w', Keep n w w' → R (.returned v) w') → LeavesInM Fence.wide m P fn tmps R ds .returning w := by
  intro ds
  induction ds with
  | nil => intro w _ hR; exact ⟨v, hv w, hR w (Keep.refl _ _)⟩
  | cons d ds ih =>
    intro w hm hR
    obtain ⟨Ds, h1, h2, h3⟩ := hm
    cases Ds with
    | nil => cases h1
    | cons D Ds =>
      simp only [List.map_cons, List.cons.injEq] at h1
      obtain ⟨rfl, rfl⟩ := h1
      have hD := h3 D (List.mem_cons_self ..)
      have hb : Keep n w (w.putObj D (.deferred none)) := Keep.turn hD.1 hD.2 rfl
      refine ⟨(by simp), .inl ⟨D, _, rfl, run_takeDeferred hD.2, ih _ ⟨Ds, rfl, (List.nodup_cons.1 h2).2, fun E hE => ⟨(h3 E (List.mem_cons_of_mem _ hE)).1, ?_⟩⟩ (fun w' hw' => hR w' (hb.trans hw'))⟩⟩
      have hne : E ≠ D := fun e => (List.nodup_cons.1 h2).1 (e ▸ hE)
      rw [World.putObj_heap_other hne]
      exact (h3 E (List.mem_cons_of_mem _ hE)).2

theorem owns_new (W : World) (p : Pt) : Owns (W.alloc (.cells #[.int .i64 p.1, .int .i64 p.2] 26)) (.slice (some ⟨W.heap.size, 0, none⟩) [p].length 1) [p] :=
  ⟨rfl, .inr ⟨W.heap.size, 1, #[.int .i64 p.1, .int .i64 p.2], rfl, Nat.zero_le _, World.alloc_heap_new _ _, by simp, by decide, rfl, rfl⟩⟩

theorem stepTo_spec {g : Gr} {D : Pt → Int} {a : Pt} (h : ∃ x ∈ near g a, D x = D a - 1) : stepTo g D a ∈ near g a ∧ D (stepTo g D a) = D a - 1 := by
  obtain ⟨x, h1, h2⟩ := h
  unfold stepTo
  cases hf : (near g a).find? (fun x => decide (D x = D a - 1)) with
  | none => exact absurd (List.find?_eq_none.1 hf x h1) (by simp [h2])
  | some y => exact ⟨List.mem_of_find?_eq_some hf, by simpa using List.find?_some hf⟩

structure RtLoop (g : Gr) (p q : Pt) (W0 : World) (k : Nat) (a : Pt) (L : List Pt) (v : Value) (atb : Nat) (ds : List Deferred) (w : World) : Prop where
  eq : way g p q = L ++ wayGo g (dst g q) k a
  isd : IsD g q a k
  op : opn g a = true
  be : Below W0.heap.size W0 w
  a1 : w.cell? ⟨atb, 0, none⟩ = some (.int .i64 a.1)
  a2 : w.cell? ⟨atb, 1, none⟩ = some (.int .i64 a.2)
  a3 : w.frozen? ⟨atb, 0, none⟩ = false
  a4 : w.frozen? ⟨atb, 1, none⟩ = false
  own : Owns w v L
  vb : ∀ b, v.ownBlock = some b → W0.heap.size ≤ b ∧ b ≠ atb
  am : W0.heap.size ≤ atb
  ms : Marks W0.heap.size ds w
def RtLoopA (g : Gr) (p q : Pt) (W0 : World) (gb qb ob : Nat) (x : Act) (w : World) : Prop :=
  ∃ (k : Nat) (a : Pt) (L : List Pt) (av : Option Addr) (cv atb : Nat) (ds : List Deferred) (u0 u1 u2 u4 u6 u7 u11 u12 u13 u14 u15 u16 u17 u18 u19 u20 u21 u22 u23 u24 u25 u26 u27 u28 u29 u30 u31 u32 u33 u34 u35 u36 u37 u38 u39 u40 u41 u42 u43 u44 u45 u46 u47 u48 u49 u50 u51 u52 u53 u54 u55 u56 u57 u58 u59 u60 u61 : Value), x = { tmps := #[u0, u1, u2, .pointer (some ⟨gb, 0, none⟩), u4, .pointer (some ⟨qb, 0, none⟩), u6, u7, .pointer (some ⟨ob, 0, none⟩), .slice av L.length cv, .pointer (some ⟨atb, 0, none⟩), u11, u12, u13, u14, u15, u16, u17, u18, u19, u20, u21, u22, u23, u24, u25, u26, u27, u28, u29, u30, u31, u32, u33, u34, u35, u36, u37, u38, u39, u40, u41, u42, u43, u44, u45, u46, u47, u48, u49, u50, u51, u52, u53, u54, u55, u56, u57, u58, u59, u60, u61], defers := ds } ∧ RtLoop g p q W0 k a L (.slice av L.length cv) atb ds w

set_option maxHeartbeats 4000000 in
set_option maxRecDepth 100000 in
theorem route_any (g : Gr) (p q : Pt) (ga : Option Addr) (gc : Nat) (w : World) (hr : Right g) (hp : opn g p = true) (hq : opn g q = true) (hc : Cells2 w ga g.bl) :
    Calls Try.prog 54 #[.agg #[.int .i64 g.rows, .int .i64 g.cols, .slice ga g.bl.length gc], .agg #[.int .i64 p.1, .int .i64 p.2], .agg #[.int .i64 q.1, .int .i64 q.2]] w fun e w' => RoutePost g p q w e w' := by
  have HR := Lib.hid hr
  have HC : Hid (Cells2 w ga g.bl) := hc
  have HP := Lib.hid hp
  have HQ := Lib.hid hq
  obtain ⟨r1, r2, r3, r4⟩ := inG_of hr (opn_inside hp)
  have E0 : Ext w ((( (( ((w).alloc (.cells #[.int .i64 g.rows, .int .i64 g.cols, .slice ga g.bl.length gc] 33))).alloc (.cells #[.int .i64 p.1, .int .i64 p.2] 26))).alloc (.cells #[.int .i64 q.1, .int .i64 q.2] 26))) := (((Ext.refl _).alloc _).alloc _).alloc _
  have a1 : ((( (( ((w).alloc (.cells #[.int .i64 g.rows, .int .i64 g.cols, .slice ga g.bl.length gc] 33))).alloc (.cells #[.int .i64 p.1, .int .i64 p.2] 26))).alloc (.cells #[.int .i64 q.1, .int .i64 q.2] 26))).cell? ⟨w.heap.size, 0, none⟩ = some (.int .i64 g.rows) := by go_simp
  have a2 : ((( (( ((w).alloc (.cells #[.int .i64 g.rows, .int .i64 g.cols, .slice ga g.bl.length gc] 33))).alloc (.cells #[.int .i64 p.1, .int .i64 p.2] 26))).alloc (.cells #[.int .i64 q.1, .int .i64 q.2] 26))).cell? ⟨w.heap.size, 1, none⟩ = some (.int .i64 g.cols) := by go_simp
  have a3 : ((( (( ((w).alloc (.cells #[.int .i64 g.rows, .int .i64 g.cols, .slice ga g.bl.length gc] 33))).alloc (.cells #[.int .i64 p.1, .int .i64 p.2] 26))).alloc (.cells #[.int .i64 q.1, .int .i64 q.2] 26))).cell? ⟨w.heap.size, 2, none⟩ = some (.slice ga g.bl.length gc) := by go_simp
  have a4 : ((( (( ((w).alloc (.cells #[.int .i64 g.rows, .int .i64 g.cols, .slice ga g.bl.length gc] 33))).alloc (.cells #[.int .i64 p.1, .int .i64 p.2] 26))).alloc (.cells #[.int .i64 q.1, .int .i64 q.2] 26))).cell? ⟨w.heap.size + 1, 0, none⟩ = some (.int .i64 p.1) := by go_simp
  have a5 : ((( (( ((w).alloc (.cells #[.int .i64 g.rows, .int .i64 g.cols, .slice ga g.bl.length gc] 33))).alloc (.cells #[.int .i64 p.1, .int .i64 p.2] 26))).alloc (.cells #[.int .i64 q.1, .int .i64 q.2] 26))).cell? ⟨w.heap.size + 1, 1, none⟩ = some (.int .i64 p.2) := by go_simp
  have a6 : ((( (( ((w).alloc (.cells #[.int .i64 g.rows, .int .i64 g.cols, .slice ga g.bl.length gc] 33))).alloc (.cells #[.int .i64 p.1, .int .i64 p.2] 26))).alloc (.cells #[.int .i64 q.1, .int .i64 q.2] 26))).cell? ⟨w.heap.size + 1 + 1, 0, none⟩ = some (.int .i64 q.1) := by go_simp
  have a7 : ((( (( ((w).alloc (.cells #[.int .i64 g.rows, .int .i64 g.cols, .slice ga g.bl.length gc] 33))).alloc (.cells #[.int .i64 p.1, .int .i64 p.2] 26))).alloc (.cells #[.int .i64 q.1, .int .i64 q.2] 26))).cell? ⟨w.heap.size + 1 + 1, 1, none⟩ = some (.int .i64 q.2) := by go_simp
  clear hc hr hp hq
  refine (callsIn_wide (n := 0)).1 ?_
  refine callsIn_of_wp_marks Try.func54 rfl trivial ?_
  simp only [Try.ntmps54, List.size_toArray, List.length_cons, List.length_nil, Nat.reduceAdd, Nat.reduceSub, Array.replicate_succ, Array.replicate_zero, List.push_toArray, List.append_toArray, List.nil_append, List.cons_append]
  gi_wp2_with fail
  refine ⟨trivial, rfl, ?_⟩
  gi_at_call 49
  refine (callsIn_wide.2 (distances_any g q ga gc _ HR.out (opn_inside HQ.out) (HC.out.ext E0))).mono ?_
  rintro e w1 ⟨tb, rfl, hT, hE⟩
  have E1 : Ext w1 (w1.alloc (.cells #[.pointer (some ⟨tb, 0, none⟩)] 86)) := (Ext.refl _).alloc _
  have o1 : (w1.alloc (.cells #[.pointer (some ⟨tb, 0, none⟩)] 86)).cell? ⟨w1.heap.size, 0, none⟩ = some (.pointer (some ⟨tb, 0, none⟩)) := by go_simp
  have EX := hE.trans E1
  have b1 := EX.cell a1
  have b2 := EX.cell a2
  have b3 := EX.cell a3
  have b4 := EX.cell a4
  have b5 := EX.cell a5
  have b6 := EX.cell a6
  have b7 := EX.cell a7
  have hTT := hT.ext E1
  have c1 := (hTT p ⟨r1, r2, r3, r4⟩).1
  have EW := E0.trans EX
  have HT := Lib.hid hTT
  have HCw : Hid (Cells2 (w1.alloc (.cells #[.pointer (some ⟨tb, 0, none⟩)] 86)) ga g.bl) := HC.out.ext EW
  clear hT hE E1 EX hTT HC E0 a1 a2 a3 a4 a5 a6 a7
  generalize hob : w1.heap.size = ob at o1
  have zob : ob < (w1.alloc (.cells #[.pointer (some ⟨tb, 0, none⟩)] 86)).heap.size := by rw [← hob]; simp
  gi_wp2_with fail
  generalize w1.alloc (.cells #[.pointer (some ⟨tb, 0, none⟩)] 86) = w2 at o1 b1 b2 b3 b4 b5 b6 b7 c1 EW HT HCw zob ⊢
  clear hob
  rcases dst_cases HR.out (opn_inside HQ.out) p with ⟨k, hk, hd⟩ | ⟨hno, hd⟩
  · have hneg : ¬ dst g q p < 0 := by omega
    have HNEG := Lib.hid hneg
    have HK := Lib.hid hk
    have HD := Lib.hid hd
    clear hk hd
    refine wpIn_wide.2 ?_
    go_quiet (fail)
    have EN : Ext w2 (w2.drewN nq) := (Ext.refl _).drewN _
    have o1 := EN.cell o1
    have b1 := EN.cell b1
    have b2 := EN.cell b2
    have b3 := EN.cell b3
    have b4 := EN.cell b4
    have b5 := EN.cell b5
    have b6 := EN.cell b6
    have b7 := EN.cell b7
    have T0 := Lib.hid (HT.out.ext EN)
    have C0 := Lib.hid (HCw.out.ext EN)
    have EW0 := EW.trans EN
    generalize w2.drewN nq = W0 at EN o1 b1 b2 b3 b4 b5 b6 b7 T0 C0 EW0 ⊢
    clear EN HT HCw EW zob c1
    have hgb : w.heap.size < W0.heap.size := cell_lt b1
    have hpb : w.heap.size + 1 < W0.heap.size := cell_lt b4
    have hqb : w.heap.size + 1 + 1 < W0.heap.size := cell_lt b6
    have HO : ob < W0.heap.size := cell_lt o1
    have HTb : tb < W0.heap.size := T0.out.lt
    have HBL : Hid (g.bl ≠ [] → ∀ b off, ga = some ⟨b, off, none⟩ → b < W0.heap.size) := fun hne b off hb => C0.out.lt hne hb
    gi_wp2
    refine wpIn_loop (RtLoopA g p q W0 w.heap.size (w.heap.size + 1 + 1) ob) (fun a _ => fuelR a) ?_ ?_
    · have E4 : Ext W0 ((( W0).alloc (.cells #[.int .i64 p.1, .int .i64 p.2] 26))) := (Ext.refl _).alloc _
      have E5 : Ext ((( W0).alloc (.cells #[.int .i64 p.1, .int .i64 p.2] 26))) ((( (( W0).alloc (.cells #[.int .i64 p.1, .int .i64 p.2] 26))).alloc (.cells #[.int .i64 p.1, .int .i64 p.2] 26))) := (Ext.refl _).alloc _
      refine ⟨k, p, [p], some ⟨W0.heap.size, 0, none⟩, 1, W0.heap.size + 1, [], _, _, _, _, _, _, _, _, _, _, _, _, _, _, _, _, _, _, _, _, _, _, _, _, _, _, _, _, _, _, _, _, _, _, _, _, _, _, _, _, _, _, _, _, _, _, _, _, _, _, _, _, _, _, _, _, _, rfl, ?_⟩
      exact {
        eq := by unfold way; rw [HD.out]; rfl
        isd := HK.out
        op := HP.out
        be := E4.trans E5
        a1 := by go_simp
        a2 := by go_simp
        a3 := by go_simp
        a4 := by go_simp
        own := (owns_new W0 p).ext E5
        vb := fun b hb => by
          have hb : some W0.heap.size = some b := hb
          cases hb
          exact ⟨Nat.le_refl _, by omega⟩
        am := by omega
        ms := Marks.nil _ _ }
    · have HK2 : Hid (dst g q p < 4097) := by show _ < _; have h1 := HK.out.lt HR.out (opn_inside HQ.out); have h2 := HD.out; omega
      clear HK
      rintro x wr ⟨k, a, L, av, cv, atb, ds, u0, u1, u2, u4, u6, u7, u11, u12, u13, u14, u15, u16, u17, u18, u19, u20, u21, u22, u23, u24, u25, u26, u27, u28, u29, u30, u31, u32, u33, u34, u35, u36, u37, u38, u39, u40, u41, u42, u43, u44, u45, u46, u47, u48, u49, u50, u51, u52, u53, u54, u55, u56, u57, u58, u59, u60, u61, rfl, h⟩
      have H := Lib.hid h
      have q1 : wr.cell? ⟨w.heap.size + 1 + 1, 0, none⟩ = some (.int .i64 q.1) := (h.be.cell (p := ⟨w.heap.size + 1 + 1, 0, none⟩) hqb).trans b6
      have q2 : wr.cell? ⟨w.heap.size + 1 + 1, 1, none⟩ = some (.int .i64 q.2) := (h.be.cell (p := ⟨w.heap.size + 1 + 1, 1, none⟩) hqb).trans b7
      have g1 : wr.cell? ⟨w.heap.size, 0, none⟩ = some (.int .i64 g.rows) := (h.be.cell (p := ⟨w.heap.size, 0, none⟩) hgb).trans b1
      have g2 : wr.cell? ⟨w.heap.size, 1, none⟩ = some (.int .i64 g.cols) := (h.be.cell (p := ⟨w.heap.size, 1, none⟩) hgb).trans b2
      have g3 : wr.cell? ⟨w.heap.size, 2, none⟩ = some (.slice ga g.bl.length gc) := (h.be.cell (p := ⟨w.heap.size, 2, none⟩) hgb).trans b3
      have oo : wr.cell? ⟨ob, 0, none⟩ = some (.pointer (some ⟨tb, 0, none⟩)) := (h.be.cell (p := ⟨ob, 0, none⟩) HO).trans o1
      have a1 := h.a1
      have a2 := h.a2
      have hatb : atb < wr.heap.size := cell_lt a1
      have zgb : w.heap.size < wr.heap.size := cell_lt g1
      have TT : Hid (TabAt wr tb (dst g q)) := T0.out.below h.be HTb
      have CC : Hid (Cells2 wr ga g.bl) := Cells2.kept (Kd := fun k => k < W0.heap.size) (n := 0) ⟨h.be.size, fun k o hk ho _ => by rw [h.be.block k hk]; exact ho⟩ (fun b off hb hne => HBL.out hne b off hb) C0.out
      clear h b1 b2 b3 b4 b5 b6 b7 o1
      cases k with
      | zero =>
        obtain rfl : a = q := H.out.isd.w.zero
        gi_wp2
        refine leaves_keep (v := .tuple #[.slice av L.length cv, .int .i64 0]) (fun w => (results_tmp2 (t := 6) (u := 7) rfl _ _ _).trans rfl) _ _ H.out.ms (fun w' hw' => ?_)
        refine ⟨.slice av L.length cv, by rw [if_neg (show ¬ _ < (0 : Int) by have := HNEG.out; omega)], ?_, ?_⟩
        · unfold routeL
          rw [if_neg (show ¬ _ < (0 : Int) by have := HNEG.out; omega), H.out.eq]
          simp only [wayGo, List.append_nil]
          exact H.out.own.keep hw'
        · exact Below.trans EW0 ((H.out.be.trans hw'.1).mono EW0.size)
      | succ k =>
        have hne : a ≠ q := by
          rintro rfl
          have := (IsD.self g a).unique H.out.isd
          omega
        have hia : Hid (inside g a = true) := opn_inside H.out.op
        obtain ⟨x, hx1, hx2⟩ := stepTo_ex HR.out HQ.out H.out.op H.out.isd
        have hda : dst g q a = (k : Int) + 1 := by have := dst_of HR.out (opn_inside HQ.out) H.out.isd; rw [this]; omega
        have hlt := H.out.isd.lt HR.out (opn_inside HQ.out)
        have EX : Hid (∃ x ∈ near g a, dst g q x = dst g q a - 1) := ⟨x, hx1, by rw [hx2, hda]; omega⟩
        have HDA := Lib.hid hda
        clear hx1 hx2 hda
        have HH1 : a.1 = q.1 → (a.2 == q.2) = false := fun h1 => by
          cases hb : (a.2 == q.2)
          · rfl
          · exact absurd (Prod.ext h1 (by simpa using hb)) hne
        have step : ∀ (b1 b2 : Bool), (a.1 == q.1) = b1 → (a.2 == q.2) = b2 → b1 = false ∨ b2 = false → True := fun _ _ _ _ _ => trivial
        clear step
        have main : ∀ (K : Prop), ((a.1 == q.1) = false → K) → (a.1 = q.1 → (a.2 == q.2) = false → K) → K := fun K h1 h2 => by
          by_cases e : a.1 = q.1
          · exact h2 e (HH1 e)
          · exact h1 (by simpa using e)
        clear HH1 hne
        have HEQ := Lib.hid (stepTo_spec EX.out)
        have HLT := Lib.hid hlt
        have hown : Hid (∀ b, (Value.slice av L.length cv).ownBlock = some b → b < wr.heap.size) := fun b hb => H.out.own.lt hb
        clear hlt hneg
        refine main _ (fun e1 => ?_) (fun e1 e2 => ?_)
        all_goals (try clear main)
        · gi_wp2_with fail
          refine ⟨trivial, rfl, ?_⟩
          gi_at_call 74
          refine (callsIn_wide.2 (around_any g a _ _)).mono ?_
          rintro e w3 ⟨rfl, hw3⟩
          gi_wp2_with fail
          have E6 : Ext wr w3 := by rw [← hw3]; exact ((Ext.refl _).alloc _).alloc _
          have hz3 : w3.heap.size = wr.heap.size + 2 := by rw [← hw3]; simp
          have G1 : w3.cell? ⟨wr.heap.size, 0, none⟩ = some (.int .i64 g.rows) := by rw [← hw3, World.cell?_alloc2_first]; rfl
          have G2 : w3.cell? ⟨wr.heap.size, 1, none⟩ = some (.int .i64 g.cols) := by rw [← hw3, World.cell?_alloc2_first]; rfl
          have G3 : w3.cell? ⟨wr.heap.size, 2, none⟩ = some (.slice ga g.bl.length gc) := by rw [← hw3, World.cell?_alloc2_first]; rfl
          have P1 : w3.cell? ⟨wr.heap.size + 1, 0, none⟩ = some (.int .i64 (a).1) := by rw [← hw3, World.cell?_alloc2_new]; rfl
          have P2 : w3.cell? ⟨wr.heap.size + 1, 1, none⟩ = some (.int .i64 (a).2) := by rw [← hw3, World.cell?_alloc2_new]; rfl
          have ham := H.out.am
          refine wpIn_wide.2 (route_range _ _ rfl g a (dst g q) ga gc w3 (wr.heap.size + 1) wr.heap.size ob tb atb HR.out hia.out P1 P2 G1 G2 G3 (CC.out.ext E6) (by omega) (by omega)
            (fun hne b off h => by have := HBL.out hne b off h; omega) (E6.cell oo) (TT.out.ext E6) (E6.cell a1) (E6.cell a2)
            ((Below.frozen E6 (p := ⟨atb, 0, none⟩) hatb).trans H.out.a3) ((Below.frozen E6 (p := ⟨atb, 1, none⟩) hatb).trans H.out.a4) (by rw [HDA.out]; omega) (by rw [HDA.out]; have := HLT.out; omega) EX.out _ _ _ _ _ _ _ _ _ _ _ _ _ _ _ _ _ _ _ _ _ _ _ _ _ _ _ _ _ _ _ _ _ _ _ _ _ _ _ _ _ _ _ _ _ _ _ _ _ _ _ _ _ _ _ _ _ _ _ _ _ ?_)
          intro Db w4 k1 k2 hend k4
          generalize hx : stepTo g (dst g q) a = x at hend
          have HX := Lib.hid hx
          have HE := Lib.hid hend
          have x1 := hend.a1
          have x2 := hend.a2
          have K4 := Lib.hid k4
          have hz4 : w3.heap.size ≤ w4.heap.size := hend.c.1
          clear hx hend k4 P1 P2 G1 G2 G3 hw3
          have V4 : Hid (Owns w4 (.slice av L.length cv) L) := (H.out.own.ext E6).kept (X := fun k => k ≠ atb) (n := 0) (HE.out.c.kept (fun k hk _ => hk)) (fun b hb => (H.out.vb b hb).2)
          obtain ⟨i0, hi, hi0, hi1, hi2⟩ := info_parts infoPl
          have hlen : L.length ≤ 4097 := by
            have h1 : (way g p q).length = L.length + (k + 1) := by rw [H.out.eq, List.length_append, wayGo_len]
            have h2 : (way g p q).length = (dst g q p).toNat + 1 := by unfold way; simp [wayGo_len]
            have h3 := HNEG.out
            have h4 := HK2.out
            omega
          refine (wpIn_wide (n := 0)).1 ?_
          gi_wp2_with (gi_at_builtin; refine wpListIn_append1 _ rfl _ _ 22 rfl 26 i0 (.agg #[.int .i64 0, .int .i64 0]) 2 16 Try.underlying22 hi hi0 hi1 hi2 rfl (by decide) (.slice av L.length cv) _ _ rfl (V4.out.ext ((Ext.refl _).alloc _)) ⟨w4.heap.size, 0, none⟩ 1 1 (by decide) [.int .i64 x.1, .int .i64 x.2] rfl rfl (cell_two_new _ _ _ _) ?c1 ?c2 ?c3 ?c4)
          case c1 => intro u hu; simp at hu; rcases hu with rfl | rfl <;> rfl
          case c2 => unfold maxLen; omega
          case c3 => omega
          case c4 =>
            intro v' w5 hown5 hend5
            have O5 := owns_succ hown5
            obtain ⟨av', cv', rfl, _, hbk⟩ := O5.reads
            have E4 : Ext w4 (w4.alloc (.cells #[.int .i64 x.1, .int .i64 x.2] 26)) := (Ext.refl _).alloc _
            have CA : Chg (fun k => (Value.slice av L.length cv).ownBlock = some k) (w4.alloc (.cells #[.int .i64 x.1, .int .i64 x.2] 26)) w5 := Chg.app hend5 (fun b hb => hb)
            have KA : Kept (fun k => k = atb) 0 (w4.alloc (.cells #[.int .i64 x.1, .int .i64 x.2] 26)) w5 := CA.kept (fun k hk _ e => (H.out.vb k e).2 hk)
            have d1 : w5.cell? ⟨atb, 0, none⟩ = some (.int .i64 x.1) := KA.cell (p := ⟨atb, 0, none⟩) rfl (E4.cell x1)
            have d2 : w5.cell? ⟨atb, 1, none⟩ = some (.int .i64 x.2) := KA.cell (p := ⟨atb, 1, none⟩) rfl (E4.cell x2)
            have HCA := Lib.hid CA
            have HE4 := Lib.hid E4
            have HEND := Lib.hid hend5
            have HO5 := Lib.hid O5
            clear KA CA E4 hend5 hown5 O5 hbk x1 x2
            gi_wp2
            have E7 : Ext w5 (w5.alloc (.cells #[.int .i64 x.1, .int .i64 x.2] 26)) := (Ext.refl _).alloc _
            have s0 : W0.heap.size ≤ wr.heap.size := H.out.be.size
            have s1 : wr.heap.size + 2 ≤ w4.heap.size := by omega
            have s2 : w4.heap.size + 1 ≤ w5.heap.size := by have := HCA.out.1; simp at this; omega
            have C46 : Chg (fun k => (Value.slice av L.length cv).ownBlock = some k) w4 (w5.alloc (.cells #[.int .i64 x.1, .int .i64 x.2] 26)) := ((Chg.ext HE4.out).trans HCA.out).trans (Chg.ext E7)
            have C6 : Chg (fun k => k = atb ∨ (Value.slice av L.length cv).ownBlock = some k) wr (w5.alloc (.cells #[.int .i64 x.1, .int .i64 x.2] 26)) :=
              ((Chg.ext E6).trans ⟨HE.out.c.1, fun k hk hn => HE.out.c.2 k hk (fun e => hn (.inl e))⟩).trans ⟨C46.1, fun k hk hn => C46.2 k hk (fun e => hn (.inr e))⟩
            refine ⟨⟨k, x, L ++ [x], av', cv', w5.heap.size, mark Db :: ds, _, _, _, _, _, _, _, _, _, _, _, _, _, _, _, _, _, _, _, _, _, _, _, _, _, _, _, _, _, _, _, _, _, _, _, _, _, _, _, _, _, _, _, _, _, _, _, _, _, _, _, _, _, _, _, _, _, by rw [List.length_append, List.length_singleton], ?_⟩, by simp [fuelR, sliceLen]; omega⟩
            exact {
              eq := by rw [H.out.eq, List.append_assoc, ← HX.out]; rfl
              isd := stepTo_isD HR.out HQ.out H.out.isd (HX.out ▸ HEQ.out.1) (by rw [← HX.out, HEQ.out.2, HDA.out]; omega)
              op := near_opn (HX.out ▸ HEQ.out.1)
              be := ((((H.out.be.trans (E6.mono s0)).trans (HE.out.b.mono ham)).trans (HE4.out.mono (by omega))).trans (HEND.out.below (by simp; omega) (fun b hb => (H.out.vb b hb).1))).trans (E7.mono (by omega))
              a1 := by go_simp
              a2 := by go_simp
              a3 := by go_simp
              a4 := by go_simp
              own := HO5.out.ext E7
              vb := fun b hb => by
                refine ⟨?_, fun e => by have := HO5.out.lt hb; omega⟩
                rcases HEND.out with ⟨h1, _, _⟩ | ⟨h1, _⟩
                · rw [h1] at hb; exact (H.out.vb b hb).1
                · rw [h1] at hb
                  have hb' : b = (w4.alloc (.cells #[.int .i64 x.1, .int .i64 x.2] 26)).heap.size := by cases hb; rfl
                  simp at hb'
                  omega
              am := by omega
              ms := Marks.cons (A := wr) H.out.ms (by omega) (by omega) (H.out.ms.keptX (X := fun k => ¬ (k = atb ∨ (Value.slice av L.length cv).ownBlock = some k)) (C6.kept (fun k hk _ => hk)) (fun D _ hD => by
                  rintro (e | e)
                  · have := isCells_of_cell (p := ⟨atb, _, none⟩) H.out.a1 (e ▸ hD)
                    cases this
                  · have := H.out.own.isCells e hD
                    cases this))
                ((C46.2 Db k2 (fun e => by have := hown.out Db e; omega)).trans K4.out) }
        · obtain ⟨ax, ay⟩ := a
          dsimp only at a1 a2 e1 e2
          subst e1
          gi_wp2_with fail
          refine ⟨trivial, rfl, ?_⟩
          gi_at_call 74
          refine (callsIn_wide.2 (around_any g (q.1, ay) _ _)).mono ?_
          rintro e w3 ⟨rfl, hw3⟩
          gi_wp2_with fail
          have E6 : Ext wr w3 := by rw [← hw3]; exact ((Ext.refl _).alloc _).alloc _
          have hz3 : w3.heap.size = wr.heap.size + 2 := by rw [← hw3]; simp
          have G1 : w3.cell? ⟨wr.heap.size, 0, none⟩ = some (.int .i64 g.rows) := by rw [← hw3, World.cell?_alloc2_first]; rfl
          have G2 : w3.cell? ⟨wr.heap.size, 1, none⟩ = some (.int .i64 g.cols) := by rw [← hw3, World.cell?_alloc2_first]; rfl
          have G3 : w3.cell? ⟨wr.heap.size, 2, none⟩ = some (.slice ga g.bl.length gc) := by rw [← hw3, World.cell?_alloc2_first]; rfl
          have P1 : w3.cell? ⟨wr.heap.size + 1, 0, none⟩ = some (.int .i64 ((q.1, ay)).1) := by rw [← hw3, World.cell?_alloc2_new]; rfl
          have P2 : w3.cell? ⟨wr.heap.size + 1, 1, none⟩ = some (.int .i64 ((q.1, ay)).2) := by rw [← hw3, World.cell?_alloc2_new]; rfl
          have ham := H.out.am
          refine wpIn_wide.2 (route_range _ _ rfl g (q.1, ay) (dst g q) ga gc w3 (wr.heap.size + 1) wr.heap.size ob tb atb HR.out hia.out P1 P2 G1 G2 G3 (CC.out.ext E6) (by omega) (by omega)
            (fun hne b off h => by have := HBL.out hne b off h; omega) (E6.cell oo) (TT.out.ext E6) (E6.cell a1) (E6.cell a2)
            ((Below.frozen E6 (p := ⟨atb, 0, none⟩) hatb).trans H.out.a3) ((Below.frozen E6 (p := ⟨atb, 1, none⟩) hatb).trans H.out.a4) (by rw [HDA.out]; omega) (by rw [HDA.out]; have := HLT.out; omega) EX.out _ _ _ _ _ _ _ _ _ _ _ _ _ _ _ _ _ _ _ _ _ _ _ _ _ _ _ _ _ _ _ _ _ _ _ _ _ _ _ _ _ _ _ _ _ _ _ _ _ _ _ _ _ _ _ _ _ _ _ _ _ ?_)
          intro Db w4 k1 k2 hend k4
          generalize hx : stepTo g (dst g q) (q.1, ay) = x at hend
          have HX := Lib.hid hx
          have HE := Lib.hid hend
          have x1 := hend.a1
          have x2 := hend.a2
          have K4 := Lib.hid k4
          have hz4 : w3.heap.size ≤ w4.heap.size := hend.c.1
          clear hx hend k4 P1 P2 G1 G2 G3 hw3
          have V4 : Hid (Owns w4 (.slice av L.length cv) L) := (H.out.own.ext E6).kept (X := fun k => k ≠ atb) (n := 0) (HE.out.c.kept (fun k hk _ => hk)) (fun b hb => (H.out.vb b hb).2)
          obtain ⟨i0, hi, hi0, hi1, hi2⟩ := info_parts infoPl
          have hlen : L.length ≤ 4097 := by
            have h1 : (way g p q).length = L.length + (k + 1) := by rw [H.out.eq, List.length_append, wayGo_len]
            have h2 : (way g p q).length = (dst g q p).toNat + 1 := by unfold way; simp [wayGo_len]
            have h3 := HNEG.out
            have h4 := HK2.out
            omega
          refine (wpIn_wide (n := 0)).1 ?_
          gi_wp2_with (gi_at_builtin; refine wpListIn_append1 _ rfl _ _ 22 rfl 26 i0 (.agg #[.int .i64 0, .int .i64 0]) 2 16 Try.underlying22 hi hi0 hi1 hi2 rfl (by decide) (.slice av L.length cv) _ _ rfl (V4.out.ext ((Ext.refl _).alloc _)) ⟨w4.heap.size, 0, none⟩ 1 1 (by decide) [.int .i64 x.1, .int .i64 x.2] rfl rfl (cell_two_new _ _ _ _) ?c1 ?c2 ?c3 ?c4)
          case c1 => intro u hu; simp at hu; rcases hu with rfl | rfl <;> rfl
          case c2 => unfold maxLen; omega
          case c3 => omega
          case c4 =>
            intro v' w5 hown5 hend5
            have O5 := owns_succ hown5
            obtain ⟨av', cv', rfl, _, hbk⟩ := O5.reads
            have E4 : Ext w4 (w4.alloc (.cells #[.int .i64 x.1, .int .i64 x.2] 26)) := (Ext.refl _).alloc _
            have CA : Chg (fun k => (Value.slice av L.length cv).ownBlock = some k) (w4.alloc (.cells #[.int .i64 x.1, .int .i64 x.2] 26)) w5 := Chg.app hend5 (fun b hb => hb)
            have KA : Kept (fun k => k = atb) 0 (w4.alloc (.cells #[.int .i64 x.1, .int .i64 x.2] 26)) w5 := CA.kept (fun k hk _ e => (H.out.vb k e).2 hk)
            have d1 : w5.cell? ⟨atb, 0, none⟩ = some (.int .i64 x.1) := KA.cell (p := ⟨atb, 0, none⟩) rfl (E4.cell x1)
            have d2 : w5.cell? ⟨atb, 1, none⟩ = some (.int .i64 x.2) := KA.cell (p := ⟨atb, 1, none⟩) rfl (E4.cell x2)
            have HCA := Lib.hid CA
            have HE4 := Lib.hid E4
            have HEND := Lib.hid hend5
            have HO5 := Lib.hid O5
            clear KA CA E4 hend5 hown5 O5 hbk x1 x2
            gi_wp2
            have E7 : Ext w5 (w5.alloc (.cells #[.int .i64 x.1, .int .i64 x.2] 26)) := (Ext.refl _).alloc _
            have s0 : W0.heap.size ≤ wr.heap.size := H.out.be.size
            have s1 : wr.heap.size + 2 ≤ w4.heap.size := by omega
            have s2 : w4.heap.size + 1 ≤ w5.heap.size := by have := HCA.out.1; simp at this; omega
            have C46 : Chg (fun k => (Value.slice av L.length cv).ownBlock = some k) w4 (w5.alloc (.cells #[.int .i64 x.1, .int .i64 x.2] 26)) := ((Chg.ext HE4.out).trans HCA.out).trans (Chg.ext E7)
            have C6 : Chg (fun k => k = atb ∨ (Value.slice av L.length cv).ownBlock = some k) wr (w5.alloc (.cells #[.int .i64 x.1, .int .i64 x.2] 26)) :=
              ((Chg.ext E6).trans ⟨HE.out.c.1, fun k hk hn => HE.out.c.2 k hk (fun e => hn (.inl e))⟩).trans ⟨C46.1, fun k hk hn => C46.2 k hk (fun e => hn (.inr e))⟩
            refine ⟨⟨k, x, L ++ [x], av', cv', w5.heap.size, mark Db :: ds, _, _, _, _, _, _, _, _, _, _, _, _, _, _, _, _, _, _, _, _, _, _, _, _, _, _, _, _, _, _, _, _, _, _, _, _, _, _, _, _, _, _, _, _, _, _, _, _, _, _, _, _, _, _, _, _, _, by rw [List.length_append, List.length_singleton], ?_⟩, by simp [fuelR, sliceLen]; omega⟩
            exact {
              eq := by rw [H.out.eq, List.append_assoc, ← HX.out]; rfl
              isd := stepTo_isD HR.out HQ.out H.out.isd (HX.out ▸ HEQ.out.1) (by rw [← HX.out, HEQ.out.2, HDA.out]; omega)
              op := near_opn (HX.out ▸ HEQ.out.1)
              be := ((((H.out.be.trans (E6.mono s0)).trans (HE.out.b.mono ham)).trans (HE4.out.mono (by omega))).trans (HEND.out.below (by simp; omega) (fun b hb => (H.out.vb b hb).1))).trans (E7.mono (by omega))
              a1 := by go_simp
              a2 := by go_simp
              a3 := by go_simp
              a4 := by go_simp
              own := HO5.out.ext E7
              vb := fun b hb => by
                refine ⟨?_, fun e => by have := HO5.out.lt hb; omega⟩
                rcases HEND.out with ⟨h1, _, _⟩ | ⟨h1, _⟩
                · rw [h1] at hb; exact (H.out.vb b hb).1
                · rw [h1] at hb
                  have hb' : b = (w4.alloc (.cells #[.int .i64 x.1, .int .i64 x.2] 26)).heap.size := by cases hb; rfl
                  simp at hb'
                  omega
              am := by omega
              ms := Marks.cons (A := wr) H.out.ms (by omega) (by omega) (H.out.ms.keptX (X := fun k => ¬ (k = atb ∨ (Value.slice av L.length cv).ownBlock = some k)) (C6.kept (fun k hk _ => hk)) (fun D _ hD => by
                  rintro (e | e)
                  · have := isCells_of_cell (p := ⟨atb, _, none⟩) H.out.a1 (e ▸ hD)
                    cases this
                  · have := H.out.own.isCells e hD
                    cases this))
                ((C46.2 Db k2 (fun e => by have := hown.out Db e; omega)).trans K4.out) }
  · have hneg : dst g q p < 0 := by omega
    have HD := Lib.hid hd
    clear hd
    refine wpIn_wide.2 ?_
    go_quiet (fail)
    gi_wp2
    refine leaves_marks (n := w.heap.size) (v := .tuple #[.slice none 0 0, .int .i64 6]) (fun w => (results_tmp2 (t := 6) (u := 7) rfl _ _ _).trans rfl) _ _ (Marks.nil _ _) (fun w' hw' => ?_)
    refine ⟨.slice none 0 0, ?_, ?_, ?_⟩
    · rw [if_pos hneg]
    · unfold routeL
      rw [if_pos hneg]
      exact Owns.nil _
    · exact Below.trans EW (Below.trans (((Ext.refl _).drewN _).mono EW.size) hw')
end Go.Proofs.Ytfigooilhnahfaa
