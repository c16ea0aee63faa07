/- The waves: the loop over the cells around one. -/
import Derived.Test.YtfigooilhnahfaaKept
import Derived.Test.YtfigooilhnahfaaRound
namespace Go.Proofs.Ytfigooilhnahfaa
open Go.RowKit
attribute [local go_sem] Oper.semAt_some

def inWave (n nb : Nat) (v0 : Value) (k : Nat) : Prop := k = n ∨ k = nb ∨ v0.ownBlock = some k

theorem infoPl : (Try.prog.info? 26).map (fun i => (i.zero, i.size, i.bytes)) = some (some (.agg #[.int .i64 0, .int .i64 0]), 2, 16) := by kernel_rfl

set_option maxHeartbeats 4000000 in
set_option maxRecDepth 100000 in
theorem wave1_range (cas cbd : Code) (hcode : rngOf (Try.f78.body.getD .skip) = [(cas, cbd)]) (g : Gr) (x : Pt) (ga : Option Addr) (gc : Nat) (w3 : World) (pb gb n nb : Nat) (X : Nat → Prop) (S0 N0 : List Pt) (v0 : Value) (JJ : World → Prop)
    (hr : Right g) (hx : inside g x = true) (hwi : WI g S0 N0) (hN0 : N0.length ≤ 4096)
    (p1 : w3.cell? ⟨pb, 0, none⟩ = some (.int .i64 x.1)) (p2 : w3.cell? ⟨pb, 1, none⟩ = some (.int .i64 x.2))
    (g1 : w3.cell? ⟨gb, 0, none⟩ = some (.int .i64 g.rows)) (g2 : w3.cell? ⟨gb, 1, none⟩ = some (.int .i64 g.cols)) (g3 : w3.cell? ⟨gb, 2, none⟩ = some (.slice ga g.bl.length gc))
    (hc : Cells2 w3 ga g.bl) (m1 : ¬ inWave n nb v0 pb) (m2 : ¬ inWave n nb v0 gb) (m3 : g.bl ≠ [] → ∀ b off, ga = some ⟨b, off, none⟩ → ¬ inWave n nb v0 b)
    (hX : ∀ k, X k → ¬ inWave n nb v0 k) (hJ : ∀ A B, JJ A → Below n A B → JJ B) (hn : n < nb) (hnb : nb < w3.heap.size) (hv : ∀ b, v0.ownBlock = some b → nb < b ∧ b < w3.heap.size)
    (j0 : JJ w3) (s0 : SeenAt w3 n S0) (n1 : w3.cell? ⟨nb, 0, none⟩ = some v0) (n2 : w3.frozen? ⟨nb, 0, none⟩ = false) (n3 : Owns w3 v0 N0)
    (u0 u1 u2 u3 u5 u6 u8 u9 u10 u11 u12 u13 u14 u15 u16 u17 u18 u19 u20 u21 u22 u23 u24 u25 u26 u27 u28 u29 u30 u31 u32 u33 u34 u35 u36 u38 u39 u40 u41 u42 u43 u44 u45 u46 u47 u48 u49 u50 u51 u52 u53 u54 u55 u56 u57 u58 : Value) (ds : List Deferred) (Q : Exit → Act → World → Prop)
    (hdone : ∀ (D : Nat) (W : World), w3.heap.size ≤ D → D < W.heap.size → WRng n nb X S0 N0 v0 JJ w3 (near g x) W → W.heap[D]? = some (.deferred (some [])) → Q .normal { tmps := #[u0, u1, u2, u3, .pointer (some ⟨n, 0, none⟩), u5, u6, .pointer (some ⟨nb, 0, none⟩), u8, u9, u10, u11, u12, u13, u14, u15, u16, u17, u18, u19, u20, u21, u22, u23, u24, u25, u26, u27, u28, u29, u30, u31, u32, u33, u34, u35, u36, .func (.func 82) #[] #[.pointer (some ⟨pb, 0, none⟩), .pointer (some ⟨gb, 0, none⟩)], u38, u39, u40, u41, u42, u43, u44, u45, u46, u47, u48, u49, u50, u51, u52, u53, u54, u55, u56, u57, u58], defers := mark D :: ds } W) :
    (Code.rangeFunc (.tmp 37) #[38] cas cbd).wp Try.prog Q { tmps := #[u0, u1, u2, u3, .pointer (some ⟨n, 0, none⟩), u5, u6, .pointer (some ⟨nb, 0, none⟩), u8, u9, u10, u11, u12, u13, u14, u15, u16, u17, u18, u19, u20, u21, u22, u23, u24, u25, u26, u27, u28, u29, u30, u31, u32, u33, u34, u35, u36, .func (.func 82) #[] #[.pointer (some ⟨pb, 0, none⟩), .pointer (some ⟨gb, 0, none⟩)], u38, u39, u40, u41, u42, u43, u44, u45, u46, u47, u48, u49, u50, u51, u52, u53, u54, u55, u56, u57, u58], defers := ds } w3 := by
  have HC := Lib.hid hcode
  have HR := Lib.hid hr
  refine wp_range (n := 0) (gf := 82) (lb := #[.pointer (some ⟨pb, 0, none⟩), .pointer (some ⟨gb, 0, none⟩)]) rfl (enters_of Try.func82 (by kernel_rfl) rfl)
    (around1_iter g x ga gc w3 pb gb (inWave n nb v0) hr hx p1 p2 g1 g2 g3 hc m1 m2 m3) (fun q => rfl)
    (fun A B h k o hk ho => by rw [Below.block h k (Array.getElem?_eq_some_iff.1 ho).1]; exact ho)
    (WRng n nb X S0 N0 v0 JJ w3) (fun _ _ _ => False)
    (fun pre A B h k => h.ext hJ (by omega) k) (fun _ _ _ _ h _ => h.elim)
    (fun pre A B h k => h.keep hJ (by omega) hnb k) (fun _ _ _ _ h _ => h.elim)
    ⟨j0, Kept.refl _ _ _, s0, v0, n1, n2, n3, .inl rfl⟩
    (fun (q : Pt) a' W => ∃ qb, w3.heap.size + 2 < qb ∧ W.cell? ⟨qb, 0, none⟩ = some (.int .i64 q.1) ∧ W.cell? ⟨qb, 1, none⟩ = some (.int .i64 q.2) ∧ a' = { tmps := #[u0, u1, u2, u3, .pointer (some ⟨n, 0, none⟩), u5, u6, .pointer (some ⟨nb, 0, none⟩), u8, u9, .pointer (some ⟨qb, 0, none⟩), u11, u12, u13, u14, u15, u16, u17, u18, u19, u20, u21, u22, u23, u24, u25, u26, u27, u28, u29, u30, u31, u32, u33, u34, u35, u36, .func (.func 82) #[] #[.pointer (some ⟨pb, 0, none⟩), .pointer (some ⟨gb, 0, none⟩)], .agg #[.int .i64 q.1, .int .i64 q.2], u39, u40, u41, u42, u43, u44, u45, u46, u47, u48, u49, u50, u51, u52, u53, u54, u55, u56, u57, u58], defers := [] })
    ?hax ?assign ?body (fun pre A B h k => h.ext hJ (by omega) k) ?done (fun _ _ _ _ _ _ _ h _ => h.elim)
  case hax =>
    rintro q a' A B ⟨qb, h1, h2, h3, h4⟩ hk
    exact ⟨qb, h1, hk.cell h2, hk.cell h3, h4⟩
  case assign =>
    simp only [Try.f78, rngOf, Option.getD, List.nil_append, List.append_nil] at hcode
    cases hcode
    intro l pre q W K hm hI hK
    clear HC
    gi_wp2
    exact hK _ _ ((Ext.refl _).alloc _) ⟨W.heap.size, by omega, by go_simp, by go_simp, rfl⟩
  case body =>
    simp only [Try.f78, rngOf, Option.getD, List.nil_append, List.append_nil] at hcode
    cases hcode
    rintro l pre q a' W hpre hm hI ⟨qb, hqb, q1, q2, rfl⟩
    have hqn : q ∈ near g x := hpre.subset (by simp)
    have hqi : inside g q = true := near_inside hqn
    obtain ⟨r1, r2, r3, r4⟩ := inG_of HR.out hqi
    have hsn := addN_snoc S0 N0 pre q
    have hwp := addN_inv pre S0 N0 hwi (fun y hy => near_inside (hpre.subset (by simp [hy])))
    have HQ := Lib.hid hqi
    have HS := Lib.hid hsn
    have HI := Lib.hid hI
    have HW := Lib.hid hwp
    have HQN := Lib.hid hqn
    have HJ := Lib.hid hJ
    have HXX := Lib.hid hX
    have HV := Lib.hid hv
    have hDW : n < W.heap.size := by omega
    have c1 := (hI.sn q ⟨r1, r2, r3, r4⟩).1
    have c2 := (hI.sn q ⟨r1, r2, r3, r4⟩).2
    clear HC hqn hqi hsn hI hwp hX hJ hv m1 m2 m3 hc s0 n3 j0 p1 p2 g1 g2 g3 n1 n2
    by_cases hmem : q ∈ (addN S0 N0 pre).1
    · rw [show decide (q ∈ (addN S0 N0 pre).1) = true from by simpa using hmem] at c1
      have HM := Lib.hid hmem
      clear hmem
      gi_wp2
      refine round_quiet (by kernel_rfl) (by kernel_rfl) (by kernel_rfl) (fun ⟨_, _, h⟩ => h) ?_
      repeat (go_big_quiet_step (fail))
      refine wpQuiet_nil ?_
      rintro _ ⟨nq, rfl⟩
      gi_wp2
      have hd : Ext W (W.drewN nq) := (Ext.refl _).drewN _
      refine ⟨Kept.ext hd _ _, (Chg.others (Chg.ext (B := fun _ => False) hd) (fun _ h => h.elim)).from _, ?_⟩
      have := HI.out.ext HJ.out (by omega) hd
      have e : addN S0 N0 (pre ++ [q]) = addN S0 N0 pre := by rw [HS.out, if_pos HM.out]
      exact ⟨this.j, this.kp, by rw [e]; exact this.sn, by rw [e]; exact this.nx⟩
    · rw [show decide (q ∈ (addN S0 N0 pre).1) = false from by simpa using hmem] at c1
      have HM := Lib.hid hmem
      clear hmem
      gi_wp2
      refine round_quiet (by kernel_rfl) (by kernel_rfl) (by kernel_rfl) (fun ⟨_, _, h⟩ => h) ?_
      repeat (go_big_quiet_step (fail))
      refine wpQuiet_nil ?_
      rintro _ ⟨nq, rfl⟩
      gi_wp2
      refine round_tail 6 (by kernel_rfl) (by kernel_rfl) (by kernel_rfl) (fun ⟨_, _, h⟩ => h) ?_
      simp only [List.take_succ_cons, List.take_zero, List.drop_succ_cons, List.drop_zero]
      repeat still_step
      refine wpStill_nil ?_
      go_wp2
      obtain ⟨v, a1, a2, a3, a4⟩ := HI.out.nx
      have hvb : Hid (∀ b, v.ownBlock = some b → nb < b ∧ (v0.ownBlock = some b ∨ w3.heap.size + 2 < b)) := by
        intro b hb
        rcases a4 with a4 | ⟨c, a4, a5⟩
        · rw [a4] at hb; exact ⟨(HV.out b hb).1, .inl hb⟩
        · rw [a4] at hb
          cases hb
          have h9 : nb < w3.heap.size := hnb
          exact ⟨Nat.lt_trans h9 (by omega), .inr a5⟩
      have A4 := Lib.hid a4
      have KO : Hid (∀ k, (k = n ∨ k = nb ∨ v.ownBlock = some k) → ∀ o, W.heap[k]? = some o → o.isCells = true) := by
        rintro k (rfl | rfl | hk) o ho
        · exact isCells_of_cell c1 ho
        · exact isCells_of_cell a1 ho
        · exact a3.isCells hk ho
      have C4 : Hid (Chg (fun k => k = n ∨ k = nb ∨ v.ownBlock = some k) W ((W.drewN (nq + 1)).setCell ⟨n, q.1.toNat * 64 + q.2.toNat, none⟩ (.bool true))) := (Chg.ext ((Ext.refl W).drewN _)).trans (Chg.setCell _ _ (.inl rfl))
      have hnW : n ≤ W.heap.size := by omega
      have L4 : Hid (Below n W ((W.drewN (nq + 1)).setCell ⟨n, q.1.toNat * 64 + q.2.toNat, none⟩ (.bool true))) := (Below.mono ((Ext.refl W).drewN (nq + 1)) hnW).setCell (p := ⟨n, _, none⟩) (Nat.le_refl _) _
      have hqb2 : qb < W.heap.size := cell_lt q1
      have S4 : Hid (SeenAt ((W.drewN (nq + 1)).setCell ⟨n, q.1.toNat * 64 + q.2.toNat, none⟩ (.bool true)) n (q :: (addN S0 N0 pre).1)) := (HI.out.sn.ext ((Ext.refl W).drewN (nq + 1))).set ⟨r1, r2, r3, r4⟩
      have d1 : ((W.drewN (nq + 1)).setCell ⟨n, q.1.toNat * 64 + q.2.toNat, none⟩ (.bool true)).cell? ⟨nb, 0, none⟩ = some v := by rw [World.cell?_setCell_other _ _ _ _ (fun h => by simp only [Addr.mk.injEq] at h; omega)]; exact ((Ext.refl W).drewN (nq + 1)).cell a1
      have d2 : ((W.drewN (nq + 1)).setCell ⟨n, q.1.toNat * 64 + q.2.toNat, none⟩ (.bool true)).frozen? ⟨nb, 0, none⟩ = false := by rw [World.frozen?_setCell]; exact (Below.frozen ((Ext.refl W).drewN (nq + 1)) (p := ⟨nb, 0, none⟩) (cell_lt a1)).trans a2
      have d3 : ((W.drewN (nq + 1)).setCell ⟨n, q.1.toNat * 64 + q.2.toNat, none⟩ (.bool true)).cell? ⟨qb, 0, none⟩ = some (.int .i64 q.1) := by rw [World.cell?_setCell_other _ _ _ _ (fun h => by simp only [Addr.mk.injEq] at h; omega)]; exact ((Ext.refl W).drewN (nq + 1)).cell q1
      have d4 : ((W.drewN (nq + 1)).setCell ⟨n, q.1.toNat * 64 + q.2.toNat, none⟩ (.bool true)).cell? ⟨qb, 1, none⟩ = some (.int .i64 q.2) := by rw [World.cell?_setCell_other _ _ _ _ (fun h => by simp only [Addr.mk.injEq] at h; omega)]; exact ((Ext.refl W).drewN (nq + 1)).cell q2
      have O4 : Hid (Owns ((W.drewN (nq + 1)).setCell ⟨n, q.1.toNat * 64 + q.2.toNat, none⟩ (.bool true)) v (addN S0 N0 pre).2) := a3.kept (X := fun k => nb < k) (n := 0) ((Kept.ext ((Ext.refl W).drewN _) _ _).trans (Kept.setCell _ _ (by simp; omega))) (fun b hb => (hvb.out b hb).1)
      have z4 : W.heap.size = ((W.drewN (nq + 1)).setCell ⟨n, q.1.toNat * 64 + q.2.toNat, none⟩ (.bool true)).heap.size := by simp [World.setCell, World.drewN]
      have N4 : Hid (v.ownBlock ≠ some n) := fun h => by have := (hvb.out n h).1; omega
      clear a1 a2 a3 a4 c1 c2 q1 q2
      generalize ((W.drewN (nq + 1)).setCell ⟨n, q.1.toNat * 64 + q.2.toNat, none⟩ (.bool true)) = W4 at C4 L4 S4 d1 d2 d3 d4 O4 z4 ⊢
      obtain ⟨i0, hi, hz0, hz1, hz2⟩ := info_parts infoPl
      have hlen : (addN S0 N0 pre).2.length ≤ 8192 := by
        have h1 := HW.out.1.len HR.out
        have h2 := HW.out.2
        omega
      have Z4 := Lib.hid z4
      clear z4
      gi_wp2_with (gi_at_builtin; refine wpListIn_append1 _ rfl _ _ 22 rfl 26 i0 (.agg #[.int .i64 0, .int .i64 0]) 2 16 Try.underlying22 hi hz0 hz1 hz2 rfl (by decide) v _ _ rfl (O4.out.ext ((Ext.refl _).alloc _)) ⟨W4.heap.size, 0, none⟩ 1 1 (by decide) [.int .i64 q.1, .int .i64 q.2] rfl rfl (cell_two_new _ _ _ _) ?c1 ?c2 ?c3 ?c4)
      case c1 => intro u hu; simp at hu; rcases hu with rfl | rfl <;> rfl
      case c2 => unfold maxLen; omega
      case c3 => omega
      case c4 =>
        intro v' w5 hown hend
        have O5 := owns_succ hown
        obtain ⟨av, cv, rfl, _, hbk⟩ := O5.reads
        have hnv : v.ownBlock ≠ some nb := fun h => by have := (hvb.out nb h).1; omega
        have E4 : Ext W4 (W4.alloc (.cells #[.int .i64 q.1, .int .i64 q.2] 26)) := (Ext.refl _).alloc _
        have CA : Chg (fun k => v.ownBlock = some k) (W4.alloc (.cells #[.int .i64 q.1, .int .i64 q.2] 26)) w5 := Chg.app hend (fun b hb => hb)
        have KA : Kept (fun k => v.ownBlock ≠ some k) 0 (W4.alloc (.cells #[.int .i64 q.1, .int .i64 q.2] 26)) w5 := CA.kept (fun k hk _ => hk)
        have d5 : w5.cell? ⟨nb, 0, none⟩ = some v := KA.cell (p := ⟨nb, 0, none⟩) hnv (E4.cell d1)
        have d6 : w5.frozen? ⟨nb, 0, none⟩ = false := (KA.frozen (p := ⟨nb, 0, none⟩) hnv (E4.cell d1)).trans ((Below.frozen E4 (p := ⟨nb, 0, none⟩) (cell_lt d1)).trans d2)
        have HKA := Lib.hid KA
        have HCA := Lib.hid CA
        have HE4 := Lib.hid E4
        have HEND := Lib.hid hend
        clear KA CA E4 hend d1 d2
        gi_wp2
        have hsz : W.heap.size = W4.heap.size := Z4.out
        have e : addN S0 N0 (pre ++ [q]) = (q :: (addN S0 N0 pre).1, (addN S0 N0 pre).2 ++ [q]) := by rw [HS.out, if_neg HM.out]
        generalize hv6 : (Value.slice av ((addN S0 N0 pre).2.length + 1) cv) = v6
        rw [show (Value.slice av ((addN S0 N0 pre).2 ++ [q]).length cv) = v6 from by rw [← hv6]; simp] at O5
        have hend6 : AppEnd (W4.alloc (.cells #[.int .i64 q.1, .int .i64 q.2] 26)) w5 v v6 := by
          have := HEND.out
          rwa [show (Value.slice av ((addN S0 N0 pre).2 ++ [q]).length cv) = v6 from by rw [← hv6]; simp] at this
        have C5 : Chg (fun k => k = nb ∨ v.ownBlock = some k) W4 (w5.setCell ⟨nb, 0, none⟩ v6) :=
          ((Chg.ext HE4.out).trans (Chg.app hend6 (fun b hb => .inr hb))).trans (Chg.setCell _ _ (.inl rfl))
        have C6 : Chg (fun k => k = n ∨ k = nb ∨ v.ownBlock = some k) W (w5.setCell ⟨nb, 0, none⟩ v6) :=
          C4.out.trans (((Chg.ext HE4.out).trans (Chg.app hend6 (fun b hb => .inr (.inr hb)))).trans (Chg.setCell _ _ (.inr (.inl rfl))))
        have L6 : Below n W (w5.setCell ⟨nb, 0, none⟩ v6) :=
          ((L4.out.trans (HE4.out.mono (by omega))).trans (hend6.below (by simp; omega) (fun b hb => by have := (hvb.out b hb).1; omega))).setCell (p := ⟨nb, 0, none⟩) (by simp; omega) _
        refine ⟨C6.kept ?_, (C6.others KO.out).from _, ?_⟩
        · rintro k (⟨hk1, hk2⟩ | hk1) hl (hk3 | hk3 | hk3)
          · exact hk2 (.inl hk3)
          · exact hk2 (.inr (.inl hk3))
          · rcases (hvb.out k hk3).2 with h | h
            · exact hk2 (.inr (.inr h))
            · omega
          · omega
          · omega
          · rcases (hvb.out k hk3).2 with h | h
            · have := (HV.out k h).2; omega
            · omega
        · refine ⟨HJ.out _ _ HI.out.j L6, ⟨Nat.le_trans HI.out.kp.1 C6.1, fun k o hx ho hr => ?_⟩, ?_, v6, ?_, ?_, ?_, ?_⟩
          · have hk := (Array.getElem?_eq_some_iff.1 ho).1
            have h1 := HI.out.kp.2 k o hx ho hr
            rw [C6.2 k (by omega) ?_]
            · exact h1
            · rintro (hk3 | hk3 | hk3)
              · exact HXX.out k hx (.inl hk3)
              · exact HXX.out k hx (.inr (.inl hk3))
              · rcases (hvb.out k hk3).2 with h | h
                · exact HXX.out k hx (.inr (.inr h))
                · omega
          · rw [e]
            exact S4.out.kept (C5.kept (X := fun k => k = n) (n := 0) (fun k hk _ hB => by
              rcases hB with hB | hB
              · omega
              · rw [hk] at hB; exact N4.out hB)) rfl
          · exact World.cell?_setCell_same _ _ _ d5
          · rw [World.frozen?_setCell]; exact d6
          · rw [e]
            exact O5.kept (X := fun k => k ≠ nb) (n := 0) (Kept.setCell _ _ (by simp)) (fun b hb h => by
              subst h
              rcases hend6 with ⟨h1, _, _⟩ | ⟨h1, _⟩
              · rw [h1] at hb; exact hnv hb
              · rw [h1] at hb; simp at hb; omega)
          · rcases hend6 with ⟨h1, _, _⟩ | ⟨h1, _⟩
            · rw [h1]; exact A4.out
            · exact .inr ⟨_, h1, by simp; omega⟩
  case done =>
    intro D W h1 h2 h3 h4
    exact hdone D W h1 h2 h3 h4
end Go.Proofs.Ytfigooilhnahfaa
