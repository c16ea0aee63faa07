/- The route: the loop over the cells around one. -/
import Derived.Test.YtfigooilhnahfaaWayS
namespace Go.Proofs.Ytfigooilhnahfaa
open Go.RowKit
attribute [local go_sem] Oper.semAt_some

theorem Chg.below {B : Nat → Prop} {w A C : World} (h : Chg B w A) (k : Below w.heap.size A C) : Chg B w C :=
  ⟨Nat.le_trans h.1 k.size, fun i hi hb => (k.block i hi).trans (h.2 i hi hb)⟩

structure RtEnd (g : Gr) (D : Pt → Int) (a : Pt) (atb : Nat) (w3 W : World) (x : Pt) : Prop where
  b : Below atb w3 W
  c : Chg (fun k => k = atb) w3 W
  a1 : W.cell? ⟨atb, 0, none⟩ = some (.int .i64 x.1)
  a2 : W.cell? ⟨atb, 1, none⟩ = some (.int .i64 x.2)
  f1 : W.frozen? ⟨atb, 0, none⟩ = false
  f2 : W.frozen? ⟨atb, 1, none⟩ = false
theorem RtEnd.ext {g : Gr} {D : Pt → Int} {a x : Pt} {atb : Nat} {w3 A B : World} (h : RtEnd g D a atb w3 A x) (hat : atb < w3.heap.size) (k : Below w3.heap.size A B) : RtEnd g D a atb w3 B x :=
  ⟨h.b.trans (k.mono (by omega)), h.c.below k, (k.cell (p := ⟨atb, 0, none⟩) hat).trans h.a1, (k.cell (p := ⟨atb, 1, none⟩) hat).trans h.a2, (k.frozen (p := ⟨atb, 0, none⟩) hat).trans h.f1, (k.frozen (p := ⟨atb, 1, none⟩) hat).trans h.f2⟩

set_option maxHeartbeats 4000000 in
set_option maxRecDepth 100000 in
theorem route_range (cas cbd : Code) (hcode : rngOf (Try.f54.body.getD .skip) = [(cas, cbd)]) (g : Gr) (a : Pt) (D : Pt → Int) (ga : Option Addr) (gc : Nat) (w3 : World) (pb gb ob tb atb : Nat)
    (hr : Right g) (ha : inside g a = true)
    (p1 : w3.cell? ⟨pb, 0, none⟩ = some (.int .i64 a.1)) (p2 : w3.cell? ⟨pb, 1, none⟩ = some (.int .i64 a.2))
    (g1 : w3.cell? ⟨gb, 0, none⟩ = some (.int .i64 g.rows)) (g2 : w3.cell? ⟨gb, 1, none⟩ = some (.int .i64 g.cols)) (g3 : w3.cell? ⟨gb, 2, none⟩ = some (.slice ga g.bl.length gc))
    (hc : Cells2 w3 ga g.bl) (m1 : pb ≠ atb) (m2 : gb ≠ atb) (m3 : g.bl ≠ [] → ∀ b off, ga = some ⟨b, off, none⟩ → b ≠ atb)
    (o1 : w3.cell? ⟨ob, 0, none⟩ = some (.pointer (some ⟨tb, 0, none⟩))) (t0 : TabAt w3 tb D)
    (a1 : w3.cell? ⟨atb, 0, none⟩ = some (.int .i64 a.1)) (a2 : w3.cell? ⟨atb, 1, none⟩ = some (.int .i64 a.2)) (a3 : w3.frozen? ⟨atb, 0, none⟩ = false) (a4 : w3.frozen? ⟨atb, 1, none⟩ = false)
    (hw : 0 ≤ D a) (hw2 : D a < 5000) (hex : ∃ x ∈ near g a, D x = D a - 1)
    (u0 u1 u2 u3 u4 u5 u6 u7 u9 u11 u12 u13 u14 u15 u16 u17 u18 u19 u20 u21 u22 u23 u24 u25 u26 u27 u28 u29 u30 u31 u32 u34 u35 u36 u37 u38 u39 u40 u41 u42 u43 u44 u45 u46 u47 u48 u49 u50 u51 u52 u53 u54 u55 u56 u57 u58 u59 u60 u61 : Value) (ds : List Deferred) (Q : Exit → Act → World → Prop)
    (hstop : ∀ (Db : Nat) (W : World), w3.heap.size ≤ Db → Db < W.heap.size → RtEnd g D a atb w3 W (stepTo g D a) → W.heap[Db]? = some (.deferred (some [])) →
      (Code.exit 2).wp Try.prog Q { tmps := #[u0, u1, u2, u3, u4, u5, u6, u7, .pointer (some ⟨ob, 0, none⟩), u9, .pointer (some ⟨atb, 0, none⟩), u11, u12, u13, u14, u15, u16, u17, u18, u19, u20, u21, u22, u23, u24, u25, u26, u27, u28, u29, u30, u31, u32, .func (.func 82) #[] #[.pointer (some ⟨pb, 0, none⟩), .pointer (some ⟨gb, 0, none⟩)], u34, u35, u36, u37, u38, u39, u40, u41, u42, u43, u44, u45, u46, u47, u48, u49, u50, u51, u52, u53, u54, u55, u56, u57, u58, u59, u60, u61], defers := mark Db :: ds } W) :
    (Code.rangeFunc (.tmp 33) #[34] cas cbd).wp Try.prog Q { tmps := #[u0, u1, u2, u3, u4, u5, u6, u7, .pointer (some ⟨ob, 0, none⟩), u9, .pointer (some ⟨atb, 0, none⟩), u11, u12, u13, u14, u15, u16, u17, u18, u19, u20, u21, u22, u23, u24, u25, u26, u27, u28, u29, u30, u31, u32, .func (.func 82) #[] #[.pointer (some ⟨pb, 0, none⟩), .pointer (some ⟨gb, 0, none⟩)], u34, u35, u36, u37, u38, u39, u40, u41, u42, u43, u44, u45, u46, u47, u48, u49, u50, u51, u52, u53, u54, u55, u56, u57, u58, u59, u60, u61], defers := ds } w3 := by
  have HC := Lib.hid hcode
  have HR := Lib.hid hr
  have hat : atb < w3.heap.size := cell_lt a1
  have hwr : IntKind.i64.wrap (D a - 1) = D a - 1 := IntWalk.i64_in _ (by omega)
  have hia := inG_of hr ha
  have EX := Lib.hid hex
  refine wp_range (n := 0) (gf := 82) (lb := #[.pointer (some ⟨pb, 0, none⟩), .pointer (some ⟨gb, 0, none⟩)]) rfl (enters_of Try.func82 (by kernel_rfl) rfl)
    (around1_iter g a ga gc w3 pb gb (fun k => k = atb) hr ha p1 p2 g1 g2 g3 hc m1 m2 m3) (fun q => rfl)
    (fun A B h k o hk ho => by rw [Below.block h k (Array.getElem?_eq_some_iff.1 ho).1]; exact ho)
    (fun pre W => Ext w3 W ∧ ∀ y ∈ pre, D y ≠ D a - 1)
    (fun c pre W => c = .exit 2 ∧ ∃ pre' x, pre = pre' ++ [x] ∧ (∀ y ∈ pre', D y ≠ D a - 1) ∧ D x = D a - 1 ∧ RtEnd g D a atb w3 W x)
    (fun pre A B h k => ⟨h.1.trans k, h.2⟩) (fun c pre A B h k => by
      obtain ⟨h1, pre', x, h2, h3, h4, h5⟩ := h
      exact ⟨h1, pre', x, h2, h3, h4, h5.ext hat (k.mono (Nat.le_trans (Nat.le_refl _) h5.c.1))⟩)
    (fun pre A B h k => ⟨Below.trans h.1 k.1, h.2⟩) (fun c pre A B h k => by
      obtain ⟨h1, pre', x, h2, h3, h4, h5⟩ := h
      exact ⟨h1, pre', x, h2, h3, h4, h5.ext hat k.1⟩)
    ⟨Ext.refl _, fun y hy => by cases hy⟩
    (fun (x : Pt) a' W => ∃ qb, w3.heap.size + 2 < qb ∧ W.cell? ⟨qb, 0, none⟩ = some (.int .i64 x.1) ∧ W.cell? ⟨qb, 1, none⟩ = some (.int .i64 x.2) ∧ a' = { tmps := #[u0, u1, u2, u3, u4, u5, u6, u7, .pointer (some ⟨ob, 0, none⟩), u9, .pointer (some ⟨atb, 0, none⟩), .pointer (some ⟨qb, 0, none⟩), u12, u13, u14, u15, u16, u17, u18, u19, u20, u21, u22, u23, u24, u25, u26, u27, u28, u29, u30, u31, u32, .func (.func 82) #[] #[.pointer (some ⟨pb, 0, none⟩), .pointer (some ⟨gb, 0, none⟩)], .agg #[.int .i64 x.1, .int .i64 x.2], u35, u36, u37, u38, u39, u40, u41, u42, u43, u44, u45, u46, u47, u48, u49, u50, u51, u52, u53, u54, u55, u56, u57, u58, u59, u60, u61], defers := [] })
    ?hax ?assign ?body (fun pre A B h k => ⟨h.1.trans k, h.2⟩) ?done ?stop
  case hax =>
    rintro q a' A B ⟨qb, h1, h2, h3, h4⟩ hk
    exact ⟨qb, h1, hk.cell h2, hk.cell h3, h4⟩
  case assign =>
    simp only [Try.f54, rngOf, Option.getD, List.nil_append, List.append_nil] at hcode
    cases hcode
    intro l pre x W K hm hI hK
    clear HC
    gi_wp2
    exact hK _ _ ((Ext.refl _).alloc _) ⟨W.heap.size, by omega, by go_simp, by go_simp, rfl⟩
  case body =>
    simp only [Try.f54, rngOf, Option.getD, List.nil_append, List.append_nil] at hcode
    cases hcode
    rintro l pre x a' W hpre hm ⟨hE, hn⟩ ⟨qb, hqb, q1, q2, rfl⟩
    have hxn : x ∈ near g a := hpre.subset (by simp)
    obtain ⟨r1, r2, r3, r4⟩ := inG_of HR.out (near_inside hxn)
    have c1 := ((t0.ext hE) x ⟨r1, r2, r3, r4⟩).1
    have c2 := ((t0.ext hE) a hia).1
    have o1 := hE.cell o1
    have b1 := hE.cell a1
    have b2 := hE.cell a2
    have b3 := (Below.frozen hE (p := ⟨atb, 0, none⟩) hat).trans a3
    have b4 := (Below.frozen hE (p := ⟨atb, 1, none⟩) hat).trans a4
    obtain ⟨s1, s2, s3, s4⟩ := hia
    have HE := Lib.hid hE
    have HN := Lib.hid hn
    clear HC hE hn hr hxn hpre m3 hc t0 p1 p2 g1 g2 g3 a1 a2 a3 a4 hex EX ha
    cases hd : (D x == D a - 1)
    · have HD := Lib.hid hd
      gi_wp2
      refine round_quiet (by kernel_rfl) (by kernel_rfl) (by kernel_rfl) (fun ⟨_, _, h⟩ => h) ?_
      repeat (go_big_quiet_step (fail))
      refine wpQuiet_nil ?_
      rintro _ ⟨nq, rfl⟩
      gi_wp2
      have hdr : Ext W (W.drewN nq) := (Ext.refl _).drewN _
      refine ⟨Kept.ext hdr _ _, (Chg.others (Chg.ext (B := fun _ => False) hdr) (fun _ h => h.elim)).from _, HE.out.trans hdr, fun y hy => ?_⟩
      rcases List.mem_append.1 hy with hy | hy
      · exact HN.out y hy
      · simp at hy
        subst hy
        simpa using HD.out
    · have HD := Lib.hid hd
      gi_wp2
      refine round_quiet (by kernel_rfl) (by kernel_rfl) (by kernel_rfl) (fun ⟨_, _, h⟩ => h) ?_
      repeat (go_big_quiet_step (fail))
      refine wpQuiet_nil ?_
      rintro _ ⟨nq, rfl⟩
      gi_wp2
      have hdr : Ext W (W.drewN nq) := (Ext.refl _).drewN _
      have hatW : atb < W.heap.size := cell_lt b1
      have C : Chg (fun k => k = atb) W (((W.drewN nq).setCell ⟨atb, 0, none⟩ (.int .i64 x.1)).setCell ⟨atb, 1, none⟩ (.int .i64 x.2)) := ((Chg.ext hdr).trans (Chg.setCell (B := fun k => k = atb) ⟨atb, _, none⟩ _ rfl)).trans (Chg.setCell (B := fun k => k = atb) ⟨atb, _, none⟩ _ rfl)
      refine ⟨C.kept ?_, (C.others ?_).from _, rfl, pre, x, rfl, HN.out, by simpa using HD.out, ?_⟩
      · rintro k (⟨_, h⟩ | h) _ e
        · exact h e
        · omega
      · rintro k rfl o ho
        exact isCells_of_cell b1 ho
      · have d1 := hdr.cell b1
        have d2 := hdr.cell b2
        have d3 := (Below.frozen hdr (p := ⟨atb, 0, none⟩) hatW).trans b3
        have d4 := (Below.frozen hdr (p := ⟨atb, 1, none⟩) hatW).trans b4
        have d5 : ((W.drewN nq).setCell ⟨atb, 0, none⟩ (.int .i64 x.1)).cell? ⟨atb, 1, none⟩ = some (.int .i64 a.2) := by
          rw [World.cell?_setCell_other _ _ _ _ (fun h => by simp at h)]; exact d2
        exact {
          b := (((Below.mono HE.out (Nat.le_of_lt hat)).trans (hdr.mono (Nat.le_of_lt hatW))).setCell (p := ⟨atb, _, none⟩) (Nat.le_refl _) _).setCell (p := ⟨atb, _, none⟩) (Nat.le_refl _) _
          c := (Chg.ext HE.out).trans C
          a1 := by
            rw [World.cell?_setCell_other _ _ _ _ (fun h => by simp at h)]
            exact World.cell?_setCell_same _ _ _ d1
          a2 := World.cell?_setCell_same _ _ _ d5
          f1 := by rw [World.frozen?_setCell, World.frozen?_setCell]; exact d3
          f2 := by rw [World.frozen?_setCell, World.frozen?_setCell]; exact d4 }
  case done =>
    rintro Db W h1 h2 ⟨h3, h4⟩ h5
    obtain ⟨x, hx, hd⟩ := EX.out
    exact absurd hd (h4 x hx)
  case stop =>
    rintro Db c pre W h1 h2 hpre ⟨rfl, pre', x, rfl, h4, h5, h6⟩ h7
    rw [← stepTo_of hpre h4 h5] at h6
    exact hstop Db W h1 h2 h6 h7
end Go.Proofs.Ytfigooilhnahfaa
