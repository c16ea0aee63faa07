/- The parts: the loop over the wave. -/
import Derived.Test.YtfigooilhnahfaaPartS
import Derived.Test.YtfigooilhnahfaaMapS
namespace Go.Proofs.Ytfigooilhnahfaa
open Go.RowKit Go.Maps
attribute [local go_sem] Oper.semAt_some

/-- a set of places in memory -/
def SeenM (w : World) (mb : Nat) (n : Nat) (S : List Pt) : Prop := ∃ k, k ≤ n ∧ SetAt Try.prog 26 4 evPl w mb k S
theorem SeenM.same {w w' : World} {mb n : Nat} {S : List Pt} (h : SeenM w mb n S) (hb : w'.heap[mb]? = w.heap[mb]?) : SeenM w' mb n S := by
  obtain ⟨k, h1, h2⟩ := h
  exact ⟨k, h1, h2.same hb⟩
theorem SeenM.lt {w : World} {mb n : Nat} {S : List Pt} (h : SeenM w mb n S) : mb < w.heap.size := by
  obtain ⟨k, _, h2⟩ := h
  exact h2.lt

/-- what holds while the wave runs -/
structure PtR (mb sb nb lo n0 : Nat) (S0 : List Pt) (w3 : World) (pre : List (Pt × Nat)) (W : World) : Prop where
  cn : W.cell? ⟨nb, 0, none⟩ = some (.int .i64 pre.length)
  fn : W.frozen? ⟨nb, 0, none⟩ = false
  cm : W.cell? ⟨sb, 0, none⟩ = some (.map (some mb))
  se : SeenM W mb (n0 + pre.length) (insAll S0 (pre.map (·.1)))
  ch : Chg (fun k => k = nb ∨ k = mb) w3 W
  be : Below lo w3 W
theorem PtR.below {mb sb nb lo n0 : Nat} {S0 : List Pt} {w3 : World} {pre : List (Pt × Nat)} {A B : World} (h : PtR mb sb nb lo n0 S0 w3 pre A) (k : Below w3.heap.size A B) (h1 : mb < w3.heap.size) (h2 : sb < w3.heap.size) (h3 : nb < w3.heap.size) (h4 : lo ≤ w3.heap.size) : PtR mb sb nb lo n0 S0 w3 pre B :=
  ⟨(k.cell (p := ⟨nb, 0, none⟩) h3).trans h.cn, (k.frozen (p := ⟨nb, 0, none⟩) h3).trans h.fn, (k.cell (p := ⟨sb, 0, none⟩) h2).trans h.cm, h.se.same (k.block mb h1), ⟨Nat.le_trans h.ch.1 k.size, fun i hi hb => (k.block i hi).trans (h.ch.2 i hi hb)⟩, h.be.trans (k.mono h4)⟩

set_option maxHeartbeats 4000000 in
set_option maxRecDepth 100000 in
theorem parts_range (cas cbd : Code) (hcode : rngOf (Try.f22.body.getD .skip) = [(cas, cbd)]) (g : Gr) (p : Pt) (ga : Option Addr) (gc : Nat) (w3 : World) (pb gb mb sb nb lo n0 : Nat) (S0 : List Pt)
    (hr : Right g) (hp : inside g p = true)
    (p1 : w3.cell? ⟨pb, 0, none⟩ = some (.int .i64 p.1)) (p2 : w3.cell? ⟨pb, 1, none⟩ = some (.int .i64 p.2))
    (g1 : w3.cell? ⟨gb, 0, none⟩ = some (.int .i64 g.rows)) (g2 : w3.cell? ⟨gb, 1, none⟩ = some (.int .i64 g.cols)) (g3 : w3.cell? ⟨gb, 2, none⟩ = some (.slice ga g.bl.length gc))
    (hc : Cells2 w3 ga g.bl) (m1 : ¬ (pb = nb ∨ pb = mb)) (m2 : ¬ (gb = nb ∨ gb = mb)) (m3 : g.bl ≠ [] → ∀ b off, ga = some ⟨b, off, none⟩ → ¬ (b = nb ∨ b = mb))
    (h0 : PtR mb sb nb lo n0 S0 w3 [] w3) (hs1 : sb ≠ nb) (hs2 : sb ≠ mb) (hmn : mb ≠ nb) (hlo : lo ≤ nb) (hlo2 : lo ≤ mb) (hn0 : n0 ≤ 16777216)
    (u0 u1 u2 u3 u4 u5 u7 u8 u9 u11 u12 u13 u14 u15 u16 u17 u18 u19 u20 u21 u22 u23 u24 u25 u26 u27 u28 u29 u30 u31 u32 u33 u34 u35 u36 u37 u38 u39 u40 u42 u43 u44 u45 u46 u47 u48 u49 u50 u51 u52 u53 u54 u55 u56 : Value) (ds : List Deferred) (Q : Exit → Act → World → Prop)
    (hdone : ∀ (D : Nat) (W : World), w3.heap.size ≤ D → D < W.heap.size → PtR mb sb nb lo n0 S0 w3 (wave g p) W → W.heap[D]? = some (.deferred (some [])) →
      Q .normal { tmps := #[u0, u1, u2, u3, u4, u5, .pointer (some ⟨sb, 0, none⟩), u7, u8, u9, .pointer (some ⟨nb, 0, none⟩), u11, u12, u13, u14, u15, u16, u17, u18, u19, u20, u21, u22, u23, u24, u25, u26, u27, u28, u29, u30, u31, u32, u33, u34, u35, u36, u37, u38, u39, u40, .func (.func 78) #[] #[.pointer (some ⟨pb, 0, none⟩), .pointer (some ⟨gb, 0, none⟩)], u42, u43, u44, u45, u46, u47, u48, u49, u50, u51, u52, u53, u54, u55, u56], defers := mark D :: ds } W) :
    (Code.rangeFunc (.tmp 41) #[42, 43] cas cbd).wp Try.prog Q { tmps := #[u0, u1, u2, u3, u4, u5, .pointer (some ⟨sb, 0, none⟩), u7, u8, u9, .pointer (some ⟨nb, 0, none⟩), u11, u12, u13, u14, u15, u16, u17, u18, u19, u20, u21, u22, u23, u24, u25, u26, u27, u28, u29, u30, u31, u32, u33, u34, u35, u36, u37, u38, u39, u40, .func (.func 78) #[] #[.pointer (some ⟨pb, 0, none⟩), .pointer (some ⟨gb, 0, none⟩)], u42, u43, u44, u45, u46, u47, u48, u49, u50, u51, u52, u53, u54, u55, u56], defers := ds } w3 := by
  have HC := Lib.hid hcode
  have HR := Lib.hid hr
  have HP := Lib.hid hp
  have hzm := h0.se.lt
  have hzs : sb < w3.heap.size := cell_lt h0.cm
  have hzn : nb < w3.heap.size := cell_lt h0.cn
  have hlo3 : lo ≤ w3.heap.size := by omega
  refine wp_range (n := 0) (gf := 78) (lb := #[.pointer (some ⟨pb, 0, none⟩), .pointer (some ⟨gb, 0, none⟩)]) rfl (enters_of Try.func78 (by kernel_rfl) rfl)
    (wave1_iter g p ga gc w3 pb gb (fun k => k = nb ∨ k = mb) hr hp p1 p2 g1 g2 g3 hc m1 m2 m3) (fun q => rfl)
    (fun A B h k o hk ho => by rw [Below.block h k hk]; exact ho)
    (PtR mb sb nb lo n0 S0 w3) (fun _ _ _ => False)
    (fun pre A B h k => h.below (k.mono (by omega)) hzm hzs hzn hlo3) (fun _ _ _ _ h _ => h.elim)
    (fun pre A B h k => h.below k.1 hzm hzs hzn hlo3) (fun _ _ _ _ h _ => h.elim)
    h0
    (fun (x : Pt × Nat) a' W => ∃ qb, w3.heap.size + 2 ≤ qb ∧ W.cell? ⟨qb, 0, none⟩ = some (.int .i64 x.1.1) ∧ W.cell? ⟨qb, 1, none⟩ = some (.int .i64 x.1.2) ∧ a' = { tmps := #[u0, u1, u2, u3, u4, u5, .pointer (some ⟨sb, 0, none⟩), u7, u8, u9, .pointer (some ⟨nb, 0, none⟩), .pointer (some ⟨qb, 0, none⟩), u12, u13, u14, u15, u16, u17, u18, u19, u20, u21, u22, u23, u24, u25, u26, u27, u28, u29, u30, u31, u32, u33, u34, u35, u36, u37, u38, u39, u40, .func (.func 78) #[] #[.pointer (some ⟨pb, 0, none⟩), .pointer (some ⟨gb, 0, none⟩)], .agg #[.int .i64 x.1.1, .int .i64 x.1.2], .int .i64 x.2, u44, u45, u46, u47, u48, u49, u50, u51, u52, u53, u54, u55, u56], defers := [] })
    ?hax ?assign ?body (fun pre A B h k => h.below (k.mono (Nat.le_trans (Nat.le_refl _) h.ch.1)) hzm hzs hzn hlo3) ?done (fun _ _ _ _ _ _ _ h _ => h.elim)
  case hax =>
    rintro q a' A B ⟨qb, h1, h2, h3, h4⟩ hk
    exact ⟨qb, h1, hk.cell h2, hk.cell h3, h4⟩
  case assign =>
    simp only [Try.f22, rngOf, Option.getD, List.nil_append, List.append_nil] at hcode
    cases hcode
    intro l pre x W K hm hI hK
    clear HC
    gi_wp2
    exact hK _ _ ((Ext.refl _).alloc _) ⟨W.heap.size, by omega, by go_simp, by go_simp, rfl⟩
  case body =>
    simp only [Try.f22, rngOf, Option.getD, List.nil_append, List.append_nil] at hcode
    cases hcode
    rintro l pre x a' W hpre hm hI ⟨qb, hqb, q1, q2, rfl⟩
    have hxi : inside g x.1 = true := wave_inside hp x (hpre.subset (by simp))
    have hlen : pre.length + 1 ≤ 4096 := by
      have h1 := hpre.length_le
      have h2 := wave_len hr hp
      simp at h1
      omega
    have c1 := hI.cn
    have c2 := hI.fn
    have c3 := hI.cm
    have HI := Lib.hid hI
    obtain ⟨kn, hkn, hS⟩ := hI.se
    obtain ⟨kl, hkl⟩ := keyPl (wf_inG (inG_of HR.out hxi)).1 (wf_inG (inG_of HR.out hxi)).2
    have hnl : kn < maxLen := by unfold maxLen; omega
    have hmx : maxLen = 9223372036854775807 := rfl
    obtain ⟨w6, hup, hS6, hg6⟩ := hS.update (t := 98) lawPl Try.underlying98 Try.underlying4 hnl evPl_inj hkl
    have HS6 := Lib.hid hS6
    have HG6 := Lib.hid hg6
    have HKN := Lib.hid hkn
    have C6 : Chg (fun k => k = nb ∨ k = mb) W w6 := ⟨hg6.size, fun k hk hn => hg6.block k hk (fun e => hn (.inr (by cases e; rfl)))⟩
    have CM : Chg (fun k => k = mb) W w6 := ⟨hg6.size, fun k hk hn => hg6.block k hk (fun e => hn (by cases e; rfl))⟩
    have KM : Kept (fun k => k ≠ mb) 0 W w6 := CM.kept (fun k hk _ => hk)
    have d1 : w6.cell? ⟨nb, 0, none⟩ = some (.int .i64 pre.length) := KM.cell (p := ⟨nb, 0, none⟩) (fun e => hmn e.symm) c1
    have d2 : w6.frozen? ⟨nb, 0, none⟩ = false := (KM.frozen (p := ⟨nb, 0, none⟩) (fun e => hmn e.symm) c1).trans c2
    have d3 : w6.cell? ⟨sb, 0, none⟩ = some (.map (some mb)) := KM.cell (p := ⟨sb, 0, none⟩) hs2 c3
    have q0 : IntKind.i64.wrap ((pre.length : Int) + 1) = (pre.length : Int) + 1 := IntWalk.i64_in _ (by omega)
    have HC6 := Lib.hid C6
    unfold evPl at hup
    clear HC hI hp hr hpre m3 hc h0 p1 p2 g1 g2 g3 hS hS6 hg6 hkn C6 CM KM hkl hnl hmx
    gi_wp2
    have C : Chg (fun k => k = nb ∨ k = mb) W (w6.setCell ⟨nb, 0, none⟩ (.int .i64 ((pre.length : Int) + 1))) := HC6.out.trans (Chg.setCell (B := fun k => k = nb ∨ k = mb) ⟨nb, _, none⟩ _ (.inl rfl))
    have zm : lo ≤ W.heap.size := by have := HI.out.ch.1; omega
    refine ⟨C.kept ?_, ⟨C.1, fun k o hB hk _ => (C.2 k (Array.getElem?_eq_some_iff.1 hk).1 (by omega)).trans hk⟩, ?_⟩
    · rintro k (⟨_, h1, h2⟩ | h) _ (e | e)
      · exact h1 e
      · exact h2 e
      · omega
      · omega
    · exact {
        cn := by
          rw [World.cell?_setCell_same _ _ _ d1, List.length_append, List.length_singleton]
          rfl
        fn := by rw [World.frozen?_setCell]; exact d2
        cm := by
          rw [World.cell?_setCell_other _ _ _ _ (fun h => by simp only [Addr.mk.injEq] at h; exact hs1 h.1.symm)]
          exact d3
        se := by
          have h1 : SeenM w6 mb (n0 + (pre ++ [x]).length) (insAll S0 ((pre ++ [x]).map (·.1))) := by
            refine ⟨kn + 1, ?_, ?_⟩
            · have := HKN.out; simp; omega
            · rw [List.map_append, List.map_singleton, insAll_snoc]
              have h9 := HS6.out
              unfold ins
              split at h9 <;> split <;> first | exact h9 | contradiction
          exact h1.same (Below.heap_setCell _ _ _ _ (fun e => hmn e))
        ch := HI.out.ch.trans C
        be := (HI.out.be.grown HG6.out zm (fun j hj => by cases hj; exact hlo2)).setCell (p := ⟨nb, _, none⟩) hlo _ }
  case done =>
    rintro D W h1 h2 h3 h6
    exact hdone D W h1 h2 h3 h6
end Go.Proofs.Ytfigooilhnahfaa
