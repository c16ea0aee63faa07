/- The table of distances: the loop over the wave. -/
import Derived.Test.YtfigooilhnahfaaDistS
namespace Go.Proofs.Ytfigooilhnahfaa
open Go.RowKit
attribute [local go_sem] Oper.semAt_some

set_option maxHeartbeats 4000000 in
set_option maxRecDepth 100000 in
theorem dist_range (cas cbd : Code) (hcode : rngOf (Try.f49.body.getD .skip) = [(cas, cbd)]) (g : Gr) (p : Pt) (ga : Option Addr) (gc : Nat) (w3 : World) (pb gb ob tb : Nat)
    (hr : Right g) (hp : inside g p = true)
    (p1 : w3.cell? ⟨pb, 0, none⟩ = some (.int .i64 p.1)) (p2 : w3.cell? ⟨pb, 1, none⟩ = some (.int .i64 p.2))
    (g1 : w3.cell? ⟨gb, 0, none⟩ = some (.int .i64 g.rows)) (g2 : w3.cell? ⟨gb, 1, none⟩ = some (.int .i64 g.cols)) (g3 : w3.cell? ⟨gb, 2, none⟩ = some (.slice ga g.bl.length gc))
    (hc : Cells2 w3 ga g.bl) (m1 : pb ≠ tb) (m2 : gb ≠ tb) (m3 : g.bl ≠ [] → ∀ b off, ga = some ⟨b, off, none⟩ → b ≠ tb) (hob : ob ≠ tb)
    (o1 : w3.cell? ⟨ob, 0, none⟩ = some (.pointer (some ⟨tb, 0, none⟩))) (t0 : TabAt w3 tb (far []))
    (u0 u1 u2 u3 u4 u6 u7 u8 u9 u10 u11 u12 u13 u14 u15 u16 u17 u18 u19 u20 u21 u22 u23 u24 u25 u26 u27 u29 u30 u31 u32 u33 u34 u35 u36 u37 u38 u39 u40 : Value) (ds : List Deferred) (Q : Exit → Act → World → Prop)
    (hdone : ∀ (D : Nat) (W : World), w3.heap.size ≤ D → D < W.heap.size → TabAt W tb (dst g p) → Below tb w3 W → W.cell? ⟨ob, 0, none⟩ = some (.pointer (some ⟨tb, 0, none⟩)) → W.heap[D]? = some (.deferred (some [])) →
      Q .normal { tmps := #[u0, u1, u2, u3, u4, .pointer (some ⟨ob, 0, none⟩), u6, u7, u8, u9, u10, u11, u12, u13, u14, u15, u16, u17, u18, u19, u20, u21, u22, u23, u24, u25, u26, u27, .func (.func 78) #[] #[.pointer (some ⟨pb, 0, none⟩), .pointer (some ⟨gb, 0, none⟩)], u29, u30, u31, u32, u33, u34, u35, u36, u37, u38, u39, u40], defers := mark D :: ds } W) :
    (Code.rangeFunc (.tmp 28) #[29, 30] cas cbd).wp Try.prog Q { tmps := #[u0, u1, u2, u3, u4, .pointer (some ⟨ob, 0, none⟩), u6, u7, u8, u9, u10, u11, u12, u13, u14, u15, u16, u17, u18, u19, u20, u21, u22, u23, u24, u25, u26, u27, .func (.func 78) #[] #[.pointer (some ⟨pb, 0, none⟩), .pointer (some ⟨gb, 0, none⟩)], u29, u30, u31, u32, u33, u34, u35, u36, u37, u38, u39, u40], defers := ds } w3 := by
  have HC := Lib.hid hcode
  have HR := Lib.hid hr
  have HP := Lib.hid hp
  have ht := t0.lt
  have hz := cell_lt o1
  dsimp only at hz
  refine wp_range (n := 0) (gf := 78) (lb := #[.pointer (some ⟨pb, 0, none⟩), .pointer (some ⟨gb, 0, none⟩)]) rfl (enters_of Try.func78 (by kernel_rfl) rfl)
    (wave1_iter g p ga gc w3 pb gb (fun k => k = tb) hr hp p1 p2 g1 g2 g3 hc m1 m2 m3) (fun q => rfl)
    (fun A B h k o hk ho => by rw [Below.block h k hk]; exact ho)
    (fun pre W => TabAt W tb (far pre) ∧ Below tb w3 W ∧ W.cell? ⟨ob, 0, none⟩ = some (.pointer (some ⟨tb, 0, none⟩))) (fun _ _ _ => False)
    (fun pre A B h k => ⟨h.1.below k (by omega), h.2.1.trans (k.mono (by omega)), (k.cell (p := ⟨ob, 0, none⟩) (by show ob < _; omega)).trans h.2.2⟩) (fun _ _ _ _ h _ => h.elim)
    (fun pre A B h k => ⟨h.1.below k.1 ht, h.2.1.trans (k.1.mono (by omega)), (k.1.cell (p := ⟨ob, 0, none⟩) hz).trans h.2.2⟩) (fun _ _ _ _ h _ => h.elim)
    ⟨t0, Below.refl _ _, o1⟩
    (fun (x : Pt × Nat) a' W => ∃ qb, w3.heap.size + 2 ≤ qb ∧ W.cell? ⟨qb, 0, none⟩ = some (.int .i64 x.1.1) ∧ W.cell? ⟨qb, 1, none⟩ = some (.int .i64 x.1.2) ∧ a' = { tmps := #[u0, u1, u2, u3, u4, .pointer (some ⟨ob, 0, none⟩), u6, u7, .pointer (some ⟨qb, 0, none⟩), .int .i64 x.2, u10, u11, u12, u13, u14, u15, u16, u17, u18, u19, u20, u21, u22, u23, u24, u25, u26, u27, .func (.func 78) #[] #[.pointer (some ⟨pb, 0, none⟩), .pointer (some ⟨gb, 0, none⟩)], .agg #[.int .i64 x.1.1, .int .i64 x.1.2], .int .i64 x.2, u31, u32, u33, u34, u35, u36, u37, u38, u39, u40], defers := [] })
    ?hax ?assign ?body (fun pre A B h k => ⟨h.1.ext k, h.2.1.trans (k.mono (by have := h.2.1.size; omega)), k.cell h.2.2⟩) ?done (fun _ _ _ _ _ _ _ h _ => h.elim)
  case hax =>
    rintro q a' A B ⟨qb, h1, h2, h3, h4⟩ hk
    exact ⟨qb, h1, hk.cell h2, hk.cell h3, h4⟩
  case assign =>
    simp only [Try.f49, rngOf, Option.getD, List.nil_append, List.append_nil] at hcode
    cases hcode
    intro l pre x W K hm hI hK
    clear HC
    gi_wp2
    exact hK _ _ ((Ext.refl _).alloc _) ⟨W.heap.size, by omega, by go_simp, by go_simp, rfl⟩
  case body =>
    simp only [Try.f49, rngOf, Option.getD, List.nil_append, List.append_nil] at hcode
    cases hcode
    rintro l pre x a' W hpre hm hI ⟨qb, hqb, q1, q2, rfl⟩
    have hxi : inside g x.1 = true := wave_inside hp x (hpre.subset (by simp))
    obtain ⟨r1, r2, r3, r4⟩ := inG_of HR.out hxi
    obtain ⟨hT, hB, hO⟩ := hI
    have c1 := (hT x.1 ⟨r1, r2, r3, r4⟩).1
    have c2 := (hT x.1 ⟨r1, r2, r3, r4⟩).2
    have HT := Lib.hid hT
    have HB := Lib.hid hB
    clear HC hT hB hp hr hxi hpre m3 hc t0 o1 p1 p2 g1 g2 g3
    gi_wp2
    refine round_tail 9 (by kernel_rfl) (by kernel_rfl) (by kernel_rfl) (fun ⟨_, _, h⟩ => h) ?_
    simp only [List.take_succ_cons, List.take_zero, List.drop_succ_cons, List.drop_zero]
    repeat still_step
    refine wpStill_nil ?_
    go_wp2
    have C : Chg (fun k => k = tb) W (W.setCell ⟨tb, x.1.1.toNat * 64 + x.1.2.toNat, none⟩ (.int .i64 x.2)).drew := (Chg.setCell (B := fun k => k = tb) ⟨tb, _, none⟩ _ rfl).trans (Chg.ext (Ext.refl _).drew)
    refine ⟨C.kept ?_, (C.others ?_).from _, (HT.out.set ⟨r1, r2, r3, r4⟩).ext (Ext.refl _).drew, (HB.out.setCell (p := ⟨tb, _, none⟩) (Nat.le_refl _) _).drew, ?_⟩
    · rintro k (⟨_, h⟩ | h) _ e
      · exact h e
      · omega
    · rintro k rfl o ho
      exact isCells_of_cell c1 ho
    · refine (Ext.refl _).drew.cell ?_
      rw [World.cell?_setCell_other _ _ _ _ (fun h => by simp only [Addr.mk.injEq] at h; omega)]
      exact hO
  case done =>
    rintro D W h1 h2 ⟨h3, h4, h5⟩ h6
    exact hdone D W h1 h2 h3 h4 h5 h6
end Go.Proofs.Ytfigooilhnahfaa
