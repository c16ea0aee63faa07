/- Steps of the proof: FOrdR, FComp, FHalf, FIns, FInsA, FMinus, Round, FRound, FOverP, FOverR, FOver. No conditions. -/
import Derived.Shelf.Spec.SlicesInsert
import Derived.Lib.AppendZerosOnto
import Derived.Lib.Overlaps
import Derived.Laws.NewBlocks
import Derived.Deep.QuietTactic
import Derived.BigQuiet
import Derived.StillTailTactics
import Derived.Deep.RegionHeld3
import Derived.Test.YtlhpfhnbeagnaaaGreatDoorZCB1
import Derived.Test.YtlhpfhnbeagnaaaGreatDoorZCB2
import Derived.Test.YtlhpfhnbeagnaaaGreatDoorZCB3
namespace Go.Proofs.YtlhpfhnbeagnaaaGreatDoor
open Go.RowKit
theorem ordN_lt {a b : Nat} (h : a < b) : ordN a b = -1 := by unfold ordN; rw [if_pos h]
theorem ordN_gt {a b : Nat} (h : b < a) : ordN a b = 1 := by unfold ordN; rw [if_neg (by omega), if_pos h]
theorem ordN_eq {a b : Nat} (h : a = b) : ordN a b = 0 := by unfold ordN; rw [if_neg (by omega), if_neg (by omega)]
end Go.Proofs.YtlhpfhnbeagnaaaGreatDoor
namespace Go.Proofs.YtlhpfhnbeagnaaaGreatDoor
open Go.RowKit
attribute [local go_sem] Oper.semAt_some
theorem ordI_nat (p q : Nat) : ordI (p : Int) (q : Int) = ordN p q := by
  unfold ordI ordN
  by_cases h : p < q
  · rw [if_pos (by omega), if_pos h]
  · rw [if_neg (by omega), if_neg h]
    by_cases k : q < p
    · rw [if_pos (by omega), if_pos k]
    · rw [if_neg (by omega), if_neg k]
set_option maxHeartbeats 4000000 in
set_option maxRecDepth 100000 in
theorem cmp_range (cas cbd : Code) (hcode : rngOf (Tryz.f138.body.getD .skip) = [(cas, cbd)]) (x y : Nat) (la lb : List Nat) (a b : Option Addr) (ca cb : Nat) (w0 w3 : World) (sb bb rb : Nat)
    (hla : la.length ≤ 200) (hlen : la.length = lb.length)
    (hx : la = toB 1000000000 x) (hy : lb = toB 1000000000 y)
    (ha : CellsN .u64 w0 a la) (hb : CellsN .u64 w0 b lb) (E0 : Ext w0 w3) (s0 : w3.cell? ⟨sb, 0, none⟩ = some (.slice a la.length ca)) (b0 : w3.cell? ⟨bb, 0, none⟩ = some (.slice b lb.length cb))
    (r0 : w3.cell? ⟨rb, 0, none⟩ = some (.int .i64 0)) (rf : w3.frozen? ⟨rb, 0, none⟩ = false) (hsr : sb ≠ rb) (hbr : bb ≠ rb) (hwr : w0.heap.size ≤ rb)
    (u2 u5 u6 u7 u8 u9 u10 u11 u12 u13 u14 u15 u16 u17 u19 u20 u21 u22 u23 u24 u25 u26 u27 u28 u29 u30 u31 u32 : Value) (ds : List Deferred) (Q : Exit → Act → World → Prop)
    (hdone : ∀ (D : Nat) (W : World), w3.heap.size ≤ D → D < W.heap.size → Ext w3 W → ordN x y = 0 → W.heap[D]? = some (.deferred (some [])) → Q .normal { tmps := #[.slice a la.length ca, .slice b lb.length cb, u2, .pointer (some ⟨bb, 0, none⟩), .pointer (some ⟨rb, 0, none⟩), u5, u6, u7, u8, u9, u10, u11, u12, u13, u14, u15, u16, u17, .func (.func 188) #[] #[.pointer (some ⟨sb, 0, none⟩)], u19, u20, u21, u22, u23, u24, u25, u26, u27, u28, u29, u30, u31, u32], defers := mark D :: ds } W)
    (hstop : ∀ (D : Nat) (W : World), w3.heap.size ≤ D → D < W.heap.size → Ext w0 W → W.cell? ⟨rb, 0, none⟩ = some (.int .i64 (ordN x y)) → W.heap[D]? = some (.deferred (some [])) → Code.ret.wp Tryz.prog Q { tmps := #[.slice a la.length ca, .slice b lb.length cb, u2, .pointer (some ⟨bb, 0, none⟩), .pointer (some ⟨rb, 0, none⟩), u5, u6, u7, u8, u9, u10, u11, u12, u13, u14, u15, u16, u17, .func (.func 188) #[] #[.pointer (some ⟨sb, 0, none⟩)], u19, u20, u21, u22, u23, u24, u25, u26, u27, u28, u29, u30, u31, u32], defers := mark D :: ds } W) :
    (Code.rangeFunc (.tmp 18) #[19, 20] cas cbd).wp Tryz.prog Q { tmps := #[.slice a la.length ca, .slice b lb.length cb, u2, .pointer (some ⟨bb, 0, none⟩), .pointer (some ⟨rb, 0, none⟩), u5, u6, u7, u8, u9, u10, u11, u12, u13, u14, u15, u16, u17, .func (.func 188) #[] #[.pointer (some ⟨sb, 0, none⟩)], u19, u20, u21, u22, u23, u24, u25, u26, u27, u28, u29, u30, u31, u32], defers := ds } w3 := by
  have HC := Lib.hid hcode
  have OA : OkB 1000000000 la := by rw [hx]; exact okB_toB (by omega) x
  have OB : OkB 1000000000 lb := by rw [hy]; exact okB_toB (by omega) y
  have VA : valB 1000000000 la = x := by rw [hx, valB_toB (by omega)]
  have VB : valB 1000000000 lb = y := by rw [hy, valB_toB (by omega)]
  have hrz : rb < w3.heap.size := cell_lt r0
  have hsz : sb < w3.heap.size := cell_lt s0
  have hwz := E0.size
  refine wp_bwd la a ca w0 sb (by omega) ha E0 s0 rfl
    (fun k W => valB 1000000000 (la.drop (la.length - k)) = valB 1000000000 (lb.drop (la.length - k)) ∧ Ext w3 W)
    (fun _ W => Ext w0 W ∧ W.cell? ⟨rb, 0, none⟩ = some (.int .i64 (ordN x y)))
    (fun k A B h q => ⟨h.1, h.2.trans' q.1 (Nat.le_refl _)⟩) (fun k A B h q => ⟨h.1.trans' q.1 hwz, q.cell h.2⟩)
    (fun k A B h q => ⟨h.1, h.2.trans q⟩)
    ⟨by rw [Nat.sub_zero, List.drop_eq_nil_of_le (Nat.le_refl _), List.drop_eq_nil_of_le (by rw [hlen]; exact Nat.le_refl _)], Ext.refl _⟩
    (fun k a' W => a' = { tmps := #[.slice a la.length ca, .slice b lb.length cb, u2, .pointer (some ⟨bb, 0, none⟩), .pointer (some ⟨rb, 0, none⟩), .int .i64 ((la.length : Int) - 1 - (k : Int)), .int .u64 (la.getD (la.length - 1 - k) 0 : Nat), u7, u8, u9, u10, u11, u12, u13, u14, u15, u16, u17, .func (.func 188) #[] #[.pointer (some ⟨sb, 0, none⟩)], .int .i64 ((la.length : Int) - 1 - (k : Int)), .int .u64 (la.getD (la.length - 1 - k) 0 : Nat), u21, u22, u23, u24, u25, u26, u27, u28, u29, u30, u31, u32], defers := [] }) (fun k a' A B h _ => h)
    ?assign ?body ?done ?stop
  case assign =>
    simp only [Tryz.f138, rngOf, Option.getD, List.nil_append, List.append_nil] at hcode
    cases hcode
    intro l' k m W K hm hI hK
    clear HC hx hy hlen
    unfold bwEnc
    gi_wp2
    exact hK _ _ (Ext.refl _) rfl
  case body =>
    simp only [Tryz.f138, rngOf, Option.getD, List.nil_append, List.append_nil] at hcode
    cases hcode
    rintro l' k a' W hk hm ⟨hv, E⟩ rfl
    obtain ⟨n, hn⟩ : ∃ n, n = la.length - 1 - k := ⟨_, rfl⟩
    have hnl : n < la.length := by omega
    have hnb : n < lb.length := by omega
    have e1 : la.length - k = n + 1 := by omega
    have e2 : la.length - (k + 1) = n := by omega
    have e3 : (la.length : Int) - 1 - (k : Int) = (n : Int) := by omega
    rw [← hn, e3]
    rw [e1] at hv
    have HE2 := Lib.hid e2
    have hst := ord_step OA OB n hv hnl hnb
    rw [VA, VB] at hst
    obtain ⟨b1, o1, hb1, p1⟩ := hb.ext (E0.trans E) n hnb
    subst hb1
    have b0 := E.cell b0
    have r0 := E.cell r0
    have rf := (Below.frozen (p := ⟨rb, 0, none⟩) E hrz).trans rf
    have EW : Ext w0 W := E0.trans E
    generalize la.getD n 0 = p at hst
    generalize lb.getD n 0 = q at hst p1
    obtain ⟨h1, h2, h3⟩ := hst
    have HS := Lib.hid (And.intro h1 (And.intro h2 h3))
    have HE := Lib.hid E
    have HW := Lib.hid EW
    have zr := cell_lt r0
    dsimp only at zr
    clear HC hv h1 h2 h3 E EW E0 s0 ha hb OA OB VA VB hx hy e1 e2 e3 hn hdone hstop hk hm hlen
    by_cases hpq : p = q
    · have HV := HS.out.2.2 hpq
      rw [← HE2.out] at HV
      have HV2 := Lib.hid HV
      subst hpq
      have hne : ((p : Int) != (p : Int)) = false := by simp
      clear HV HS
      gi_wp2
      exact ⟨⟨fun _ => False, Chg.refl _ _, fun _ h => h.elim, fun _ h => h.elim⟩, HV2.out, HE.out⟩
    · have hne : ((p : Int) != (q : Int)) = true := by rw [bne_iff_ne]; omega
      have HO : Hid (ordI (p : Int) (q : Int) = ordN x y) := by
        show _ = _
        rw [ordI_nat]
        by_cases hlt : p < q
        · rw [ordN_lt hlt, ordN_lt (HS.out.1 hlt)]
        · rw [ordN_gt (by omega), ordN_gt (HS.out.2.1 (by omega))]
      clear HS
      gi_wp2_with fail
      refine ⟨trivial, rfl, ?_⟩
      gi_at_call 157
      refine (callsIn_wide.2 (CmpU_any _ _ _)).mono ?_
      rintro e w5 ⟨rfl, rfl⟩
      rw [HO.out]
      obtain ⟨z, hz⟩ : ∃ z, z = ordN x y := ⟨_, rfl⟩
      rw [← hz]
      have HZ := Lib.hid hz
      clear hz
      have C := Chg.setCell (B := fun i => i = rb) (A := W) ⟨rb, 0, none⟩ (.int .i64 z) rfl
      have R1 := World.cell?_setCell_same W ⟨rb, 0, none⟩ (.int .i64 z) r0
      have HC1 := Lib.hid C
      have HR1 := Lib.hid R1
      have HR0 := Lib.hid r0
      have E6 := Lib.hid (HW.out.set hwr (.int .i64 z) (o := 0))
      clear C R1
      gi_wp2
      refine ⟨⟨fun i => i = rb, HC1.out, ?_, ?_⟩, E6.out, by rw [← HZ.out]; exact HR1.out⟩
      · rintro i rfl; exact ⟨fun e => hsr e.symm, hwr⟩
      · rintro i rfl o ho; exact isCells_of_cell HR0.out ho
  case done =>
    rintro D W h1 h2 ⟨h3, h4⟩ h5
    refine hdone D W h1 h2 h4 (ordN_eq ?_) h5
    rw [Nat.sub_self, List.drop_zero, List.drop_zero, VA, VB] at h3
    exact h3
  case stop =>
    rintro D k W h1 h2 _ ⟨h3, h4⟩ h5
    exact hstop D W h1 h2 h3 h4 h5
set_option maxHeartbeats 4000000 in
set_option maxRecDepth 100000 in
theorem compare_any (x y : Nat) (la lb : List Nat) (a b : Option Addr) (ca cb : Nat) (w : World) (hx : la = toB 1000000000 x) (hy : lb = toB 1000000000 y)
    (hla : la.length ≤ 200) (_ : lb.length ≤ 200) (ha : CellsN .u64 w a la) (hb : CellsN .u64 w b lb) :
    Calls Tryz.prog 138 #[.slice a la.length ca, .slice b lb.length cb] w fun e w' => e = .returned (.int .i64 (ordN x y)) ∧ Ext w w' := by
  have HX := Lib.hid hx
  have HY := Lib.hid hy
  have HA := Lib.hid ha
  have HB := Lib.hid hb
  clear hx hy ha hb
  have E1 : Ext w ((w.alloc (.cells #[.slice b lb.length cb] 155)).alloc (.cells #[.int .i64 0] 3)) := extA
  have b0 : (((w.alloc (.cells #[.slice b lb.length cb] 155)).alloc (.cells #[.int .i64 0] 3))).cell? ⟨w.heap.size, 0, none⟩ = some (.slice b lb.length cb) := by go_simp
  have r0 : (((w.alloc (.cells #[.slice b lb.length cb] 155)).alloc (.cells #[.int .i64 0] 3))).cell? ⟨w.heap.size + 1, 0, none⟩ = some (.int .i64 0) := by go_simp
  have rf : (((w.alloc (.cells #[.slice b lb.length cb] 155)).alloc (.cells #[.int .i64 0] 3))).frozen? ⟨w.heap.size + 1, 0, none⟩ = false := by go_simp
  have E2 : Ext w (((w.alloc (.cells #[.slice b lb.length cb] 155)).alloc (.cells #[.int .i64 0] 3)).alloc (.cells #[.slice a la.length ca] 155)) := extA
  have b2 : ((((w.alloc (.cells #[.slice b lb.length cb] 155)).alloc (.cells #[.int .i64 0] 3)).alloc (.cells #[.slice a la.length ca] 155))).cell? ⟨w.heap.size, 0, none⟩ = some (.slice b lb.length cb) := by go_simp
  have r2 : ((((w.alloc (.cells #[.slice b lb.length cb] 155)).alloc (.cells #[.int .i64 0] 3)).alloc (.cells #[.slice a la.length ca] 155))).cell? ⟨w.heap.size + 1, 0, none⟩ = some (.int .i64 0) := by go_simp
  have rf2 : ((((w.alloc (.cells #[.slice b lb.length cb] 155)).alloc (.cells #[.int .i64 0] 3)).alloc (.cells #[.slice a la.length ca] 155))).frozen? ⟨w.heap.size + 1, 0, none⟩ = false := by go_simp
  have s2 : ((((w.alloc (.cells #[.slice b lb.length cb] 155)).alloc (.cells #[.int .i64 0] 3)).alloc (.cells #[.slice a la.length ca] 155))).cell? ⟨w.heap.size + 1 + 1, 0, none⟩ = some (.slice a la.length ca) := by go_simp
  have HVV : Hid ((((w.alloc (.cells #[.slice b lb.length cb] 155)).alloc (.cells #[.int .i64 0] 3)).alloc (.cells #[.slice a la.length ca] 155)) = (((w.alloc (.cells #[.slice b lb.length cb] 155)).alloc (.cells #[.int .i64 0] 3)).alloc (.cells #[.slice a la.length ca] 155))) := rfl
  refine (callsIn_wide (n := 0)).1 ?_
  refine callsIn_of_wp_marks Tryz.func138 rfl trivial ?_
  simp only [Tryz.ntmps138, List.size_toArray, List.length_cons, List.length_nil, Nat.reduceAdd, Nat.reduceSub, Array.replicate_succ, Array.replicate_zero, List.push_toArray, List.append_toArray, List.nil_append, List.cons_append]
  by_cases hlen : la.length = lb.length
  · have hne : ((la.length : Int) != (lb.length : Int)) = false := by simp [hlen]
    have HL := Lib.hid hlen
    clear hlen b0 r0 rf E1 HVV
    gi_wp2_with fail
    refine ⟨trivial, rfl, ?_⟩
    gi_at_call 156
    refine (callsIn_wide.2 (Backward_any a la.length ca _)).mono ?_
    rintro e w3 ⟨rfl, rfl⟩
    have hsz : ((w.alloc (.cells #[.slice b lb.length cb] 155)).alloc (.cells #[.int .i64 0] 3)).heap.size = w.heap.size + 1 + 1 := by simp
    rw [hsz]
    clear hsz
    generalize (((w.alloc (.cells #[.slice b lb.length cb] 155)).alloc (.cells #[.int .i64 0] 3)).alloc (.cells #[.slice a la.length ca] 155)) = w3 at E2 b2 r2 rf2 s2 ⊢
    have hz := E2.size
    gi_wp2_with fail
    refine wpIn_wide.2 (cmp_range _ _ rfl x y la lb a b ca cb w w3 (w.heap.size + 1 + 1) w.heap.size (w.heap.size + 1) hla HL.out HX.out HY.out HA.out HB.out E2 s2 b2 r2 rf2 (by omega) (by omega) (by omega) _ _ _ _ _ _ _ _ _ _ _ _ _ _ _ _ _ _ _ _ _ _ _ _ _ _ _ _ [] _ ?_ ?_)
    · intro D W k1 k2 E3 h0 hD
      have r3 := E3.cell r2
      have E4 := Lib.hid ((E2.trans E3).set (b := w.heap.size + 1) (o := 0) (by omega) (.int .i64 0))
      have rf3 := (Below.frozen (p := ⟨w.heap.size + 1, 0, none⟩) E3 (cell_lt r2)).trans rf2
      have HD := Lib.hid hD
      have HH0 := Lib.hid h0
      have HR3 := Lib.hid r3
      have hrl : w.heap.size + 1 < w3.heap.size := cell_lt r2
      clear b2 r2 rf2 s2 hD h0 HL E2 E3
      gi_wp2
      refine leaves_cells (v := .int .i64 (ordN x y)) (n := w3.heap.size) [mark D] _ ⟨[D], rfl, by simp, fun E hE => by simp at hE; subst hE; exact ⟨k1, by show (W.setCell _ _).heap[E]? = _; rw [Below.heap_setCell W ⟨w.heap.size + 1, 0, none⟩ _ E (fun e => by dsimp only at e; omega)]; exact HD.out⟩⟩ (fun W6 hk => ?_)
      have r6 := hk.cell (World.cell?_setCell_same W ⟨w.heap.size + 1, 0, none⟩ (.int .i64 0) HR3.out)
      refine ⟨by rw [results_cell1 rfl, HH0.out]; go_simp, rfl, E4.out.trans' hk.1 hz⟩
    · intro D W k1 k2 E3 r3 hD
      refine (wpIn_wide (n := 0)).1 ?_
      gi_wp2
      refine leaves_cells (v := .int .i64 (ordN x y)) (n := w3.heap.size) [mark D] W ⟨[D], rfl, by simp, fun E hE => by simp at hE; subst hE; exact ⟨k1, hD⟩⟩ (fun W6 hk => ?_)
      have r6 := hk.cell r3
      exact ⟨by rw [results_cell1 rfl]; go_simp, rfl, E3.trans' hk.1 hz⟩
  · have hne : ((la.length : Int) != (lb.length : Int)) = true := by rw [bne_iff_ne]; omega
    have HO : Hid (ordI (la.length : Int) (lb.length : Int) = ordN x y) := by
      show _ = _
      have OA : OkB 1000000000 la := by rw [HX.out]; exact okB_toB (by omega) x
      have OB : OkB 1000000000 lb := by rw [HY.out]; exact okB_toB (by omega) y
      have TA : Trim la := HX.out ▸ trim_toB (by omega) x
      have TB : Trim lb := HY.out ▸ trim_toB (by omega) y
      have VA : valB 1000000000 la = x := by rw [HX.out, valB_toB (by omega)]
      have VB : valB 1000000000 lb = y := by rw [HY.out, valB_toB (by omega)]
      rw [ordI_nat]
      by_cases hlt : la.length < lb.length
      · rw [ordN_lt hlt, ordN_lt (by rw [← VA, ← VB]; exact ord_len (by omega) OA TB hlt)]
      · rw [ordN_gt (by omega), ordN_gt (by rw [← VA, ← VB]; exact ord_len (by omega) OB TA (by omega))]
    clear b2 r2 rf2 s2 E2 HVV hne
    have hne : ((la.length : Int) != (lb.length : Int)) = true := by rw [bne_iff_ne]; omega
    gi_wp2_with fail
    generalize ((w.alloc (.cells #[.slice b lb.length cb] 155)).alloc (.cells #[.int .i64 0] 3)) = W at E1 b0 r0 rf ⊢
    refine ⟨trivial, rfl, ?_⟩
    gi_at_call 102
    refine (callsIn_wide.2 (CmpI_any _ _ _)).mono ?_
    rintro e w3 ⟨rfl, rfl⟩
    rw [HO.out]
    have E4 := Lib.hid (E1.set (b := w.heap.size + 1) (o := 0) (by omega) (.int .i64 (ordN x y)))
    have HR0 := Lib.hid r0
    have hrl : w.heap.size + 1 < W.heap.size := cell_lt r0
    clear b0 E1
    gi_wp2
    refine leaves_cells (v := .int .i64 (ordN x y)) (n := w.heap.size) [] _ (Marks.nil _ _) (fun W6 hk => ?_)
    have r6 := hk.cell (World.cell?_setCell_same W ⟨w.heap.size + 1, 0, none⟩ (.int .i64 (ordN x y)) HR0.out)
    exact ⟨by rw [results_cell1 rfl]; go_simp, rfl, E4.out.trans' hk.1 (Nat.le_refl _)⟩
end Go.Proofs.YtlhpfhnbeagnaaaGreatDoor
namespace Go.Proofs.YtlhpfhnbeagnaaaGreatDoor
open Go.RowKit
attribute [local go_sem] Oper.semAt_some
set_option maxHeartbeats 2000000 in
set_option maxRecDepth 100000 in
theorem CloneN_any (la : List Nat) (eb eo ec : Nat) (w : World) (hla : la.length ≤ 200) (h0 : 0 < la.length) (he : CellsN .u64 w (some ⟨eb, eo, none⟩) la) :
    Calls Tryz.prog 190 #[.slice (some ⟨eb, eo, none⟩) la.length ec] w (OwnNPost .u64 153 la w) := by
  have HE := Lib.hid he
  clear he
  obtain ⟨i0, hi, hi0, hi1, hi2⟩ := info_parts infoU64
  have heq : ∀ w' : World, (binOp .eql 155 (.slice (some ⟨eb, eo, none⟩) la.length ec) (.slice none 0 0)).run Tryz.prog w' = .ok (.bool false) w' := fun w' => Lib.run_eql_slice_nil (P := Tryz.prog) w' 155 153 (some ⟨eb, eo, none⟩) la.length ec 0 0 Tryz.underlying155
  have E1 : Ext w (w.alloc (.cells #[] 153)) := extA
  have hown : (w.alloc (.cells #[] 153)).ownsRow 0 153 1 (.slice (some ⟨w.heap.size, 0, none⟩) 0 0) 0 [] :=
    World.ownsRow_made (w := w) (base := 0) (e := 153) (size := 1) #[] 0 (Nat.zero_le _) (Nat.zero_le _) rfl
  have ez : (w.alloc (.cells #[] 153)).heap.size = w.heap.size + 1 := by simp
  go_enter Tryz.func190, Tryz.ntmps190
  go_wp2_with (at_builtin; refine wpList_append1 _ rfl _ _ 155 rfl 153 i0 (.int .u64 0) 1 8 Tryz.underlying155 hi hi0 hi1 hi2 rfl (by decide) (.slice (some ⟨w.heap.size, 0, none⟩) 0 0) 0 [] rfl hown ⟨eb, eo, none⟩ la.length ec h0 (natsV .u64 la) rfl ?c0 ?c1 ?c2 ?c3 ?c4 ?c5)
  case c0 => rw [natsV_len, Nat.mul_one]
  case c1 =>
    intro j u hu
    have hj : j < la.length := by
      have := (List.getElem?_eq_some_iff.1 hu).1
      rwa [natsV_len] at this
    rw [natsV_get hj] at hu
    cases hu
    obtain ⟨b, off, hb, hcell⟩ := HE.out.ext E1 j hj
    cases hb
    rw [Addr.add_lit]; exact hcell
  case c2 => intro u hu; unfold natsV at hu; simp at hu; obtain ⟨i, _, rfl⟩ := hu; rfl
  case c3 => unfold maxLen; omega
  case c4 => omega
  case c5 =>
    intro v' w5 hown5 hend5
    have B5 : Below w.heap.size _ w5 := hend5.below (n := w.heap.size) (by rw [ez]; omega) (fun b hb => by cases hb; exact Nat.le_refl _)
    have G5 := hend5.ge (n := w.heap.size) (by rw [ez]; omega) (fun b hb => by cases hb; exact Nat.le_refl _)
    have F5 : Ext w w5 := E1.trans' B5 (Nat.le_refl _)
    have HO := Lib.hid (show OwnsN .u64 153 w5 v' la from hown5)
    have HG := Lib.hid G5
    clear hown5 hend5 hown B5 E1 ez G5
    go_wp2
    go_ret
    exact ⟨v', rfl, HO.out, HG.out, F5⟩
structure HalfW (la : List Nat) (g gc pb cb : Nat) (w0 : World) (k : Nat) (W : World) : Prop where
  ext : Ext w0 W
  p : W.cell? ⟨pb, 0, none⟩ = some (.slice (some ⟨g, 0, none⟩) la.length gc)
  fc : W.frozen? ⟨cb, 0, none⟩ = false
  st : ∃ c o, HalfI 1000000000 la (la.length - k) c o ∧ W.cell? ⟨cb, 0, none⟩ = some (.int .u64 (c : Nat)) ∧ OwnsN .u64 153 W (.slice (some ⟨g, 0, none⟩) la.length gc) o
theorem HalfW.keep {la : List Nat} {g gc pb cb : Nat} {w0 : World} {k n : Nat} {A B : World} (h : HalfW la g gc pb cb w0 k A) (q : Keep n A B) (hn : w0.heap.size ≤ n) : HalfW la g gc pb cb w0 k B := by
  obtain ⟨c, o, h1, h2, h3⟩ := h.st
  exact ⟨h.ext.trans' q.1 hn, q.cell h.p, (q.frozen h2).trans h.fc, c, o, h1, q.cell h2, rowKeep h3 q⟩
theorem HalfW.exts {la : List Nat} {g gc pb cb : Nat} {w0 : World} {k : Nat} {A B : World} (h : HalfW la g gc pb cb w0 k A) (q : Ext A B) : HalfW la g gc pb cb w0 k B :=
  h.keep (Keep.ext q (Nat.le_refl _)) h.ext.size
theorem OwnsN.isCells {k : IntKind} {t : TypeId} {A : World} {v : Value} {l : List Nat} (h : OwnsN k t A v l) {b : Nat} (hb : v.ownBlock = some b) {o : Obj} (ho : A.heap[b]? = some o) : o.isCells = true := by
  rcases h.2 with ⟨hv, _⟩ | ⟨g, cap, cur, hv, _, hh, _⟩
  · rw [hv] at hb; cases hb
  · rw [hv] at hb; cases hb
    rw [hh] at ho; cases ho; rfl
set_option maxHeartbeats 4000000 in
set_option maxRecDepth 100000 in
theorem half_range (cas cbd : Code) (hcode : rngOf (Tryz.f159.body.getD .skip) = [(cas, cbd)]) (la : List Nat) (a : Option Addr) (ca : Nat) (w0 w3 : World) (sb g gc pb cb : Nat)
    (hla : la.length ≤ 200) (OA : OkB 1000000000 la)
    (ha : CellsN .u64 w0 a la) (E0 : Ext w0 w3) (s0 : w3.cell? ⟨sb, 0, none⟩ = some (.slice a la.length ca)) (h3 : HalfW la g gc pb cb w0 0 w3)
    (hsg : sb ≠ g) (hsc : sb ≠ cb) (hwg : w0.heap.size ≤ g) (hwc : w0.heap.size ≤ cb) (hgc : g ≠ cb) (hpg : pb ≠ g) (hpc : pb ≠ cb)
    (u1 u2 u5 u6 u7 u8 u9 u10 u12 u13 u14 u15 u16 u17 u18 u19 u20 u21 u22 u23 u24 u25 u26 : Value) (ds : List Deferred) (Q : Exit → Act → World → Prop)
    (hdone : ∀ (D : Nat) (W : World), w3.heap.size ≤ D → D < W.heap.size → HalfW la g gc pb cb w0 la.length W → W.heap[D]? = some (.deferred (some [])) → Q .normal { tmps := #[.slice a la.length ca, u1, u2, .pointer (some ⟨pb, 0, none⟩), .pointer (some ⟨cb, 0, none⟩), u5, u6, u7, u8, u9, u10, .func (.func 188) #[] #[.pointer (some ⟨sb, 0, none⟩)], u12, u13, u14, u15, u16, u17, u18, u19, u20, u21, u22, u23, u24, u25, u26], defers := mark D :: ds } W) :
    (Code.rangeFunc (.tmp 11) #[12, 13] cas cbd).wp Tryz.prog Q { tmps := #[.slice a la.length ca, u1, u2, .pointer (some ⟨pb, 0, none⟩), .pointer (some ⟨cb, 0, none⟩), u5, u6, u7, u8, u9, u10, .func (.func 188) #[] #[.pointer (some ⟨sb, 0, none⟩)], u12, u13, u14, u15, u16, u17, u18, u19, u20, u21, u22, u23, u24, u25, u26], defers := ds } w3 := by
  have HC := Lib.hid hcode
  have hsz : sb < w3.heap.size := cell_lt s0
  have hwz := E0.size
  refine wp_bwd la a ca w0 sb (by omega) ha E0 s0 rfl
    (fun k W => HalfW la g gc pb cb w0 k W) (fun _ _ => False)
    (fun k A B h q => h.keep q hwz) (fun k A B h q => h.elim)
    (fun k A B h q => h.exts q) h3
    (fun k a' W => a' = { tmps := #[.slice a la.length ca, u1, u2, .pointer (some ⟨pb, 0, none⟩), .pointer (some ⟨cb, 0, none⟩), .int .i64 ((la.length : Int) - 1 - (k : Int)), .int .u64 (la.getD (la.length - 1 - k) 0 : Nat), u7, u8, u9, u10, .func (.func 188) #[] #[.pointer (some ⟨sb, 0, none⟩)], .int .i64 ((la.length : Int) - 1 - (k : Int)), .int .u64 (la.getD (la.length - 1 - k) 0 : Nat), u14, u15, u16, u17, u18, u19, u20, u21, u22, u23, u24, u25, u26], defers := [] }) (fun k a' A B h _ => h)
    ?assign ?body (fun D W h1 h2 h3 h4 => hdone D W h1 h2 h3 h4) (fun _ _ _ _ _ _ h _ => h.elim)
  case assign =>
    simp only [Tryz.f159, rngOf, Option.getD, List.nil_append, List.append_nil] at hcode
    cases hcode
    intro l' k m W K hm hI hK
    clear HC
    unfold bwEnc
    gi_wp2
    exact hK _ _ (Ext.refl _) rfl
  case body =>
    simp only [Tryz.f159, rngOf, Option.getD, List.nil_append, List.append_nil] at hcode
    cases hcode
    rintro l' k a' W hk hm hI rfl
    obtain ⟨n, hn⟩ : ∃ n, n = la.length - 1 - k := ⟨_, rfl⟩
    have hnl : n < la.length := by omega
    have e1 : la.length - k = n + 1 := by omega
    have e2 : la.length - (k + 1) = n := by omega
    have e3 : (la.length : Int) - 1 - (k : Int) = (n : Int) := by omega
    rw [← hn, e3]
    obtain ⟨c, o, hI1, c1, O1⟩ := hI.st
    have p1 := hI.p
    have fc := hI.fc
    have EW := hI.ext
    rw [e1] at hI1
    have hnx := hI1.next (by omega) (by decide) OA hnl
    have hc2 : c ≤ 1 := by have := hI1.c1; omega
    have hol : n < o.length := by rw [hI1.len]; exact hnl
    obtain ⟨s1, s2⟩ := O1.at hol
    have hxb : la.getD n 0 < 1000000000 := okB_getD OA (by omega) n
    generalize la.getD n 0 = x at *
    generalize o.getD n 0 = y at s1
    obtain ⟨d, hd⟩ : ∃ d, d = (c * 1000000000 + x) / 2 := ⟨_, rfl⟩
    obtain ⟨r, hr⟩ : ∃ r, r = (c * 1000000000 + x) % 2 := ⟨_, rfl⟩
    rw [← hd, ← hr] at hnx
    have HN := Lib.hid hnx
    have hw1 : IntKind.u64.wrap ((c : Int) * 1000000000) = (c : Int) * 1000000000 := by rw [IntKind.wrap_u64]; omega
    have hw2 : IntKind.u64.wrap ((c : Int) * 1000000000 + (x : Int)) = (c : Int) * 1000000000 + (x : Int) := by rw [IntKind.wrap_u64]; omega
    have ht1 : ((c : Int) * 1000000000 + (x : Int)).tmod 2 = (r : Int) := by rw [Int.tmod_eq_emod_of_nonneg (by omega)]; omega
    have ht2 : ((c : Int) * 1000000000 + (x : Int)).tdiv 2 = (d : Int) := by rw [Int.tdiv_eq_ediv_of_nonneg (by omega)]; omega
    have hw4 : IntKind.u64.wrap (d : Int) = (d : Int) := by rw [IntKind.wrap_u64]; omega
    have O2 := O1.set n d
    have C1 : Chg (fun i => i = g ∨ i = cb) W ((W.setCell ⟨g, n, none⟩ (.int .u64 (d : Int))).setCell ⟨cb, 0, none⟩ (.int .u64 (r : Int))) :=
      (Chg.setCell (B := fun i => i = g ∨ i = cb) ⟨g, n, none⟩ _ (.inl rfl)).trans (Chg.setCell (B := fun i => i = g ∨ i = cb) ⟨cb, 0, none⟩ _ (.inr rfl))
    have O3 : OwnsN .u64 153 ((W.setCell ⟨g, n, none⟩ (.int .u64 (d : Int))).setCell ⟨cb, 0, none⟩ (.int .u64 (r : Int))) (.slice (some ⟨g, 0, none⟩) la.length gc) (o.set n d) :=
      O2.same (fun b hb => by cases hb; exact Below.heap_setCell _ ⟨cb, 0, none⟩ _ g hgc)
    have cc1 : (W.setCell ⟨g, n, none⟩ (.int .u64 (d : Int))).cell? ⟨cb, 0, none⟩ = some (.int .u64 (c : Int)) := by
      rw [World.cell?_setCell_other _ _ _ _ (fun h => by simp only [Addr.mk.injEq] at h; omega)]; exact c1
    have cc2 := World.cell?_setCell_same (W.setCell ⟨g, n, none⟩ (.int .u64 (d : Int))) ⟨cb, 0, none⟩ (.int .u64 (r : Int)) cc1
    have pp2 : ((W.setCell ⟨g, n, none⟩ (.int .u64 (d : Int))).setCell ⟨cb, 0, none⟩ (.int .u64 (r : Int))).cell? ⟨pb, 0, none⟩ = some (.slice (some ⟨g, 0, none⟩) la.length gc) := by
      rw [World.cell?_setCell_other _ _ _ _ (fun h => by simp only [Addr.mk.injEq] at h; omega), World.cell?_setCell_other _ _ _ _ (fun h => by simp only [Addr.mk.injEq] at h; omega)]; exact p1
    have hf : HalfW la g gc pb cb w0 (k + 1) ((W.setCell ⟨g, n, none⟩ (.int .u64 (d : Int))).setCell ⟨cb, 0, none⟩ (.int .u64 (r : Int))) :=
      ⟨(EW.set (b := g) (o := n) hwg _).set (b := cb) (o := 0) hwc _, pp2, by rw [World.frozen?_setCell, World.frozen?_setCell]; exact fc, r, _, by rw [e2]; exact HN.out.2, cc2, O3⟩
    have HF := Lib.hid hf
    have HC1 := Lib.hid C1
    have HO1 := Lib.hid O1
    have Hc1 := Lib.hid c1
    clear HC hI hI1 hnx O1 O2 O3 C1 cc2 pp2 hf EW E0 ha OA h3 hdone hd hr hn e1 e2 e3 HN hxb hm hk hol s0
    gi_wp2
    refine ⟨⟨fun i => i = g ∨ i = cb, HC1.out, ?_, ?_⟩, HF.out⟩
    · rintro i (rfl | rfl)
      · exact ⟨fun e => hsg e.symm, hwg⟩
      · exact ⟨fun e => hsc e.symm, hwc⟩
    · rintro i (rfl | rfl) o ho
      · exact HO1.out.isCells rfl ho
      · exact isCells_of_cell Hc1.out ho
set_option maxHeartbeats 4000000 in
set_option maxRecDepth 100000 in
theorem half_any (x : Nat) (la : List Nat) (a : Option Addr) (ca : Nat) (w : World) (hx : la = toB 1000000000 x)
    (hla : la.length ≤ 200) (h0 : 0 < la.length) (ha : CellsN .u64 w a la) :
    Calls Tryz.prog 159 #[.slice a la.length ca] w (OwnNPost .u64 153 (toB 1000000000 (x / 2)) w) := by
  have HX := Lib.hid hx
  have HA := Lib.hid ha
  have OA : OkB 1000000000 la := by rw [hx]; exact okB_toB (by omega) x
  have HOA := Lib.hid OA
  obtain ⟨eb, eo, hea, _⟩ := ha 0 h0
  subst hea
  clear hx ha OA
  refine (callsIn_wide (n := 0)).1 ?_
  refine callsIn_of_wp_marks Tryz.func159 rfl trivial ?_
  simp only [Tryz.ntmps159, List.size_toArray, List.length_cons, List.length_nil, Nat.reduceAdd, Nat.reduceSub, Array.replicate_succ, Array.replicate_zero, List.push_toArray, List.append_toArray, List.nil_append, List.cons_append]
  gi_wp2_with fail
  refine ⟨trivial, rfl, ?_⟩
  gi_at_call 190
  refine (callsIn_wide.2 (CloneN_any la eb eo ca w hla h0 HA.out)).mono ?_
  rintro e w1 ⟨v, rfl, hv, hvb, hE⟩
  obtain ⟨va, vc, rfl, hvc, _, hvf⟩ := hv.reads
  obtain ⟨g, hg, hgb, _⟩ := hvf 0 h0
  subst hg
  have hwg := hvb g hgb
  have hgl := hv.lt hgb
  clear hvf hvc hgb hvb
  have E2 : Ext w1 (((w1.alloc (.cells #[.slice (some ⟨g, 0, none⟩) la.length vc] 155)).alloc (.cells #[.int .u64 0] 153)).alloc (.cells #[.slice (some ⟨eb, eo, none⟩) la.length ca] 155)) := extA
  have p2 : ((((w1.alloc (.cells #[.slice (some ⟨g, 0, none⟩) la.length vc] 155)).alloc (.cells #[.int .u64 0] 153)).alloc (.cells #[.slice (some ⟨eb, eo, none⟩) la.length ca] 155))).cell? ⟨w1.heap.size, 0, none⟩ = some (.slice (some ⟨g, 0, none⟩) la.length vc) := by go_simp
  have c2 : ((((w1.alloc (.cells #[.slice (some ⟨g, 0, none⟩) la.length vc] 155)).alloc (.cells #[.int .u64 0] 153)).alloc (.cells #[.slice (some ⟨eb, eo, none⟩) la.length ca] 155))).cell? ⟨w1.heap.size + 1, 0, none⟩ = some (.int .u64 0) := by go_simp
  have f2 : ((((w1.alloc (.cells #[.slice (some ⟨g, 0, none⟩) la.length vc] 155)).alloc (.cells #[.int .u64 0] 153)).alloc (.cells #[.slice (some ⟨eb, eo, none⟩) la.length ca] 155))).frozen? ⟨w1.heap.size + 1, 0, none⟩ = false := by go_simp
  have s2 : ((((w1.alloc (.cells #[.slice (some ⟨g, 0, none⟩) la.length vc] 155)).alloc (.cells #[.int .u64 0] 153)).alloc (.cells #[.slice (some ⟨eb, eo, none⟩) la.length ca] 155))).cell? ⟨w1.heap.size + 1 + 1, 0, none⟩ = some (.slice (some ⟨eb, eo, none⟩) la.length ca) := by go_simp
  have HH : HalfW la g vc w1.heap.size (w1.heap.size + 1) w 0 (((w1.alloc (.cells #[.slice (some ⟨g, 0, none⟩) la.length vc] 155)).alloc (.cells #[.int .u64 0] 153)).alloc (.cells #[.slice (some ⟨eb, eo, none⟩) la.length ca] 155)) := ⟨hE.trans E2, p2, f2, 0, la, HalfI.start HOA.out, c2, hv.ext E2⟩
  have HW := Lib.hid HH
  have hsz : ((w1.alloc (.cells #[.slice (some ⟨g, 0, none⟩) la.length vc] 155)).alloc (.cells #[.int .u64 0] 153)).heap.size = w1.heap.size + 1 + 1 := by simp
  have EV := hE.trans E2
  have hz := hE.size
  clear hv p2 c2 f2 HH hE E2
  gi_wp2_with fail
  refine ⟨trivial, rfl, ?_⟩
  gi_at_call 156
  refine (callsIn_wide.2 (Backward_any (some ⟨eb, eo, none⟩) la.length ca _)).mono ?_
  rintro e w3 ⟨rfl, rfl⟩
  rw [hsz]
  clear hsz
  generalize (((w1.alloc (.cells #[.slice (some ⟨g, 0, none⟩) la.length vc] 155)).alloc (.cells #[.int .u64 0] 153)).alloc (.cells #[.slice (some ⟨eb, eo, none⟩) la.length ca] 155)) = w3 at EV s2 HW ⊢
  have hz3 := EV.size
  gi_wp2_with fail
  refine wpIn_wide.2 (half_range _ _ rfl la (some ⟨eb, eo, none⟩) ca w w3 (w1.heap.size + 1 + 1) g vc w1.heap.size (w1.heap.size + 1) hla HOA.out HA.out EV s2 HW.out (by omega) (by omega) hwg (by omega) (by omega) (by omega) (by omega) _ _ _ _ _ _ _ _ _ _ _ _ _ _ _ _ _ _ _ _ _ _ _ [] _ ?_)
  intro D W k1 k2 hW hD
  clear HW s2
  obtain ⟨c, o, hI, _, hO⟩ := hW.st
  have p3 := hW.p
  have E3 := hW.ext
  rw [Nat.sub_self] at hI
  have hol : o.length = la.length := hI.len
  rw [← hol] at p3 hO
  have HT := Lib.hid (hI.done (by omega))
  obtain ⟨_, _, hov, hoc, hor, _⟩ := hO.reads
  cases hov
  have HR := Lib.hid (trimmed_any o (some ⟨g, 0, none⟩) vc W hor hoc)
  have HO := Lib.hid hO
  have HD := Lib.hid hD
  clear hI hol hoc hor hO hD hW
  gi_wp2_with fail
  refine ⟨trivial, rfl, ?_⟩
  gi_at_call 160
  refine (callsIn_wide.2 HR.out).mono ?_
  rintro e w5 ⟨rfl, hn5, hE5⟩
  have E6 := E3.trans hE5
  have HO6 := Lib.hid ((HO.out.ext hE5).trim hn5)
  have HD6 := Lib.hid ((Below.block hE5 D k2).trans HD.out)
  clear hn5 hE5 HO HD HR
  gi_wp2
  refine leaves_cells (v := .slice (some ⟨g, 0, none⟩) (trimL o).length vc) (n := w3.heap.size) [mark D] _ ⟨[D], rfl, by simp, fun E hE => by simp at hE; subst hE; exact ⟨k1, HD6.out⟩⟩ (fun W6 hk => ?_)
  refine ⟨(results_tmp (t := 2) rfl _ _ _).trans rfl, _, rfl, ?_, fun b hb => by cases hb; exact hwg, E6.trans' hk.1 hz3⟩
  have hv2 := HT.out
  rw [HX.out, valB_toB (by omega)] at hv2
  rw [← hv2]
  exact rowKeep HO6.out hk
end Go.Proofs.YtlhpfhnbeagnaaaGreatDoor
namespace Go.Proofs.YtlhpfhnbeagnaaaGreatDoor
open Go.RowKit
def putA : Array Value → Nat → List Value → Array Value
  | c, _, [] => c
  | c, o, v :: r => putA (c.setIfInBounds o v) (o + 1) r
theorem putA_size (o : Nat) (vs : List Value) (c : Array Value) : (putA c o vs).size = c.size := by
  induction vs generalizing c o with
  | nil => rfl
  | cons v r ih => rw [putA, ih, Array.size_setIfInBounds]
theorem putA_get (o : Nat) (vs : List Value) (c : Array Value) (j : Nat) (h : o + vs.length ≤ c.size) :
    (putA c o vs)[j]? = if o ≤ j ∧ j < o + vs.length then vs[j - o]? else c[j]? := by
  induction vs generalizing c o with
  | nil => rw [putA, if_neg (by rw [List.length_nil]; omega)]
  | cons v r ih =>
    simp only [List.length_cons] at h ⊢
    rw [putA, ih _ _ (by rw [Array.size_setIfInBounds]; omega), Array.getElem?_setIfInBounds]
    by_cases hj : j = o
    · subst hj
      rw [if_neg (by omega), if_pos rfl, if_pos (by omega), if_pos (by omega), Nat.sub_self, List.getElem?_cons_zero]
    · by_cases h1 : o + 1 ≤ j ∧ j < o + 1 + r.length
      · rw [if_pos h1, if_pos (by omega), show j - o = (j - (o + 1)) + 1 by omega, List.getElem?_cons_succ]
      · rw [if_neg h1, if_neg (fun e => hj e.symm), if_neg (by omega)]
theorem heap_setCells_at (b : Nat) (e : TypeId) (z : Nat × Nat) (vs : List Value) (o : Nat) (w : World) (c : Array Value) (h : w.heap[b]? = some (.cells c e z)) :
    (w.setCells b o vs).heap[b]? = some (.cells (putA c o vs) e z) := by
  induction vs generalizing c o w with
  | nil => exact h
  | cons v r ih =>
    rw [World.setCells, putA]
    refine ih _ _ _ ?_
    simp only [World.setCell, Array.getElem?_modify, h]
    simp
theorem heap_setCells_ne {b k : Nat} (hk : k ≠ b) (vs : List Value) (o : Nat) (w : World) : (w.setCells b o vs).heap[k]? = w.heap[k]? := by
  induction vs generalizing o w with
  | nil => rfl
  | cons v r ih => rw [World.setCells, ih]; exact Below.heap_setCell _ _ _ _ hk
theorem size_setCells (b : Nat) (vs : List Value) (o : Nat) (w : World) : (w.setCells b o vs).heap.size = w.heap.size := by
  induction vs generalizing o w with
  | nil => rfl
  | cons v r ih => rw [World.setCells, ih]; simp [World.setCell]
theorem Ext.setCells {w A : World} (h : Ext w A) {b : Nat} (hb : w.heap.size ≤ b) (vs : List Value) (o : Nat) : Ext w (A.setCells b o vs) := by
  induction vs generalizing o A with
  | nil => exact h
  | cons v r ih => rw [World.setCells]; exact ih (h.set hb v) _
theorem Below.setCells {n : Nat} {w A : World} (h : Below n w A) {b : Nat} (hb : n ≤ b) (vs : List Value) (o : Nat) : Below n w (A.setCells b o vs) := by
  induction vs generalizing o A with
  | nil => exact h
  | cons v r ih => rw [World.setCells]; exact ih (Below.setCell (p := ⟨b, o, none⟩) h hb v) _
structure InsE (w w' : World) (v v' : Value) : Prop where
  ch : Chg (fun b => v.ownBlock = some b) w w'
  be : ∀ n, n ≤ w.heap.size → (∀ b, v.ownBlock = some b → n ≤ b) → Below n w w'
  ow : ∀ b, v'.ownBlock = some b → v.ownBlock = some b ∨ w.heap.size ≤ b
theorem InsE.ext {w w' : World} {v v' : Value} (h : Ext w w') (hb : ∀ b, v'.ownBlock = some b → w.heap.size ≤ b) : InsE w w' v v' :=
  ⟨Chg.ext h, fun _ hn _ => h.mono hn, fun b k => .inr (hb b k)⟩
theorem insE_set {w : World} {g n c n' : Nat} (vs us : List Value) (o p : Nat) :
    InsE w ((w.drew.setCells g o vs).setCells g p us) (.slice (some ⟨g, 0, none⟩) n c) (.slice (some ⟨g, 0, none⟩) n' c) := by
  refine ⟨⟨?_, fun k _ hk => ?_⟩, fun m hm hb => ?_, fun b hb => .inl hb⟩
  · rw [size_setCells, size_setCells]; exact Nat.le_refl _
  · have hkg : k ≠ g := fun e => hk (by rw [e]; rfl)
    rw [heap_setCells_ne hkg, heap_setCells_ne hkg]; rfl
  · exact Below.setCells (Below.setCells (Below.drew (Below.refl _ _)) (hb g rfl) _ _) (hb g rfl) _ _
theorem ownsN_of {w : World} {g c : Nat} {cur : Array Value} {k : IntKind} {t : TypeId} {l : List Nat} (hh : w.heap[g]? = some (.cells cur t (0, 0))) (hl : l.length ≤ c) (hc : c ≤ maxLen) (hs : cur.size = c)
    (hg : ∀ j, j < l.length → cur[j]? = some (.int k (l.getD j 0 : Nat))) : OwnsN k t w (.slice (some ⟨g, 0, none⟩) l.length c) l := by
  refine ⟨by rw [natsV_len, Nat.mul_one], .inr ⟨g, c, cur, rfl, Nat.zero_le _, hh, hl, hc, by rw [hs, Nat.mul_one], ?_⟩⟩
  rw [Nat.mul_one]
  apply List.ext_getElem?
  intro j
  by_cases hj : j < l.length
  · rw [List.getElem?_take_of_lt hj, natsV_get hj, Array.getElem?_toList]; exact hg j hj
  · rw [List.getElem?_eq_none (by rw [List.length_take]; omega), List.getElem?_eq_none (by rw [natsV_len]; omega)]
set_option maxHeartbeats 4000000 in
set_option maxRecDepth 100000 in
theorem ins_shift (x g n c vb : Nat) (l : List Nat) (cur : Array Value) (w : World) (hn : n = l.length) (h0 : 0 < n) (hroom : n + 1 ≤ c) (hc : c ≤ maxLen) (hvb : vb ≠ g)
    (hg : w.heap[g]? = some (.cells cur 153 (0, 0))) (hcs : cur.size = c) (hcur : ∀ j, j < n → cur[j]? = some (.int .u64 (l.getD j 0 : Nat)))
    (hv : w.heap[vb]? = some (.cells #[.int .u64 (x : Int)] 153 (0, 0))) :
    Calls Tryz.prog 161 #[.slice (some ⟨g, 0, none⟩) n c, .int .i64 0, .slice (some ⟨vb, 0, none⟩) 1 1] w fun e w' =>
      e = .returned (.slice (some ⟨g, 0, none⟩) (n + 1) c) ∧ w' = (w.drew.setCells g 1 (natsV .u64 l)).setCells g 0 [.int .u64 (x : Int)] := by
  unfold maxLen at hc
  have hz2 : ¬ ((0 : Int) = (n : Int)) := by omega
  have hsz : (Tryz.prog.info? 153).map (·.size) = some 1 := by
    obtain ⟨i0, hi0, h0, h1, h2⟩ := info_parts infoU64
    rw [hi0]; simp [h1]
  have hcell : ∀ j, w.cell? ⟨g, j, none⟩ = cur[j]? := fun j => by simp [World.cell?, hg]
  have hfz : ∀ j, w.frozen? ⟨g, j, none⟩ = false := fun j => by simp [World.frozen?, hg]
  have hvc : w.cell? ⟨vb, 0, none⟩ = some (.int .u64 (x : Int)) := by simp [World.cell?, hv]
  have hsa : w.shape? vb = some (153, 1) := by simp [World.shape?, hv]
  have hsb : w.shape? g = some (153, c) := by simp [World.shape?, hg, hcs]
  have hfa : w.frozen? ⟨vb, 0, none⟩ = false := by simp [World.frozen?, hv]
  have hfe : w.frozen? ⟨vb, 1, none⟩ = false := by simp [World.frozen?, hv]
  have hov : ∀ lb cb, (callFunc 191 #[.slice (some ⟨vb, 0, none⟩) 1 1, .slice (some ⟨g, 1, none⟩) lb cb]).run Tryz.prog w = .ok (.value (.bool false)) w := fun lb cb => by
    rw [run_callFunc_extern Tryz.func191 (by kernel_rfl) (by kernel_rfl) (by kernel_rfl) (e := Extern.SlicesOverlaps.overlaps #[154, 154] #[4]) (by kernel_rfl),
      Lib.run_overlaps_apart w 154 4 153 Tryz.underlying154 1 Tryz.sizeOf153 ⟨vb, 0, none⟩ ⟨g, 1, none⟩ 1 1 lb cb hvb 153 153 1 c hsa hsb (by omega) hfa hfe]
    rfl
  have hl1 : (natsV .u64 l).length = n := by rw [natsV_len, hn]
  have h1c : ∀ v ∈ natsV .u64 l, v.oneCell' = true := fun u hu => by unfold natsV at hu; simp at hu; obtain ⟨i, _, rfl⟩ := hu; rfl
  have hroom2 : (n : Int) + 1 ≤ (c : Int) := by omega
  have hb3 : (0 : Int) ≤ (n : Int) + 1 := by omega
  have hw1 : IntKind.i64.wrap ((n : Int) + 1) = (n : Int) + 1 := by rw [IntKind.wrap_i64]; omega
  have hcg : ¬ ((c : Int) < (n : Int) + 1) := by omega
  have hcp1 : ∀ ty dc sc, (Builtin.copy_ #[155, 155] ty #[.slice (some ⟨g, 1, none⟩) n dc, .slice (some ⟨g, 0, none⟩) (n + 1) sc]).run Tryz.prog w.drew = .ok (goInt (natsV .u64 l).length) (w.drew.setCells g 1 (natsV .u64 l)) := fun ty dc sc =>
    run_copy_cells w.drew _ _ ty 153 g 1 n dc ⟨g, 0, none⟩ (n + 1) sc (natsV .u64 l) Tryz.underlying155 hsz (by rw [hl1]; simp only [Nat.min_def]; split <;> omega)
      (fun j v hj => by
        have hjn : j < n := by rw [← hl1]; exact (List.getElem?_eq_some_iff.1 hj).1
        rw [natsV_get (by omega)] at hj
        rw [Addr.add_lit, Nat.zero_add]
        show w.cell? _ = _
        rw [hcell, hcur j hjn]; exact hj)
      (fun j hj => by show (w.cell? _).isSome = true; rw [hcell, Array.getElem?_eq_getElem (by omega)]; rfl) (fun j hj => hfz _) h1c
  obtain ⟨W1, hW1⟩ : ∃ W1, W1 = w.drew.setCells g 1 (natsV .u64 l) := ⟨_, rfl⟩
  have hg1 : W1.heap[g]? = some (.cells (putA cur 1 (natsV .u64 l)) 153 (0, 0)) := by rw [hW1]; exact heap_setCells_at g _ _ _ _ w.drew _ hg
  have hv1 : W1.heap[vb]? = some (.cells #[.int .u64 (x : Int)] 153 (0, 0)) := by rw [hW1, heap_setCells_ne hvb]; exact hv
  have hcp2 : ∀ ty dc, (Builtin.copy_ #[155, 154] ty #[.slice (some ⟨g, 0, none⟩) (n + 1) dc, .slice (some ⟨vb, 0, none⟩) 1 1]).run Tryz.prog W1 = .ok (goInt 1) (W1.setCells g 0 [.int .u64 (x : Int)]) := fun ty dc =>
    run_copy_cells W1 _ _ ty 153 g 0 (n + 1) dc ⟨vb, 0, none⟩ 1 1 [.int .u64 (x : Int)] Tryz.underlying155 hsz (by simp only [List.length_singleton, Nat.min_def]; split <;> omega)
      (fun j v hj => by
        have hj0 : j = 0 := by have := (List.getElem?_eq_some_iff.1 hj).1; simpa using this
        subst hj0
        rw [Addr.add_lit]
        simp [World.cell?, hv1]
        simpa using hj)
      (fun j hj => by
        have hj0 : j = 0 := by simpa using hj
        subst hj0
        simp only [World.cell?, hg1]
        rw [Array.getElem?_eq_getElem (by rw [putA_size]; omega)]; rfl) (fun j hj => by simp [World.frozen?, hg1]) (fun v hv => by simp at hv; subst hv; rfl)
  rw [← hW1] at hcp1 ⊢
  have mixed : Tryz.prog.follows Departure.mixedOrders = true := by kernel_rfl
  have hwr1 : IntKind.i64.wrap 1 = 1 := by rw [IntKind.wrap_i64]; rfl
  have hb5 : (1 : Int) ≤ (n : Int) + 1 := by omega
  have hb6 : ¬ (c = 1) := by omega
  have hb7 : ¬ (c = 0) := by omega
  clear hW1 hg1 hv1 hcell hcur hg hv hsz hvc hsa hsb hfa hfe hfz h1c hcs hl1 hn
  go_enter Tryz.func161, Tryz.ntmps161
  go_wp2_with (simp only [hov])
  go_region_law_o (refine step_copy_runI rfl _ _ 155 155 rfl _ _ (by simp [Act.eval, Act.put]) (by simp [Act.eval, Act.put]) (hcp1 _ _ _) ?_)
  go_wp2_with (at_builtin; refine wpList_copy_runI _ rfl _ _ 155 154 rfl _ _ rfl rfl (hcp2 _ _) ?_)
  go_ret
  exact ⟨rfl, rfl⟩
set_option maxHeartbeats 4000000 in
set_option maxRecDepth 100000 in
theorem ins_grow (x g n c vb : Nat) (l : List Nat) (w : World) (hn : n = l.length) (h0 : 0 < n) (hnc : n ≤ c) (hroom : c < n + 1) (hn2 : n ≤ 1000)
    (hgw : g < w.heap.size) (hvw : vb < w.heap.size) (hcur : ∀ j, j < n → w.cell? ⟨g, j, none⟩ = some (.int .u64 (l.getD j 0 : Nat)))
    (hvc : w.cell? ⟨vb, 0, none⟩ = some (.int .u64 (x : Int))) :
    Calls Tryz.prog 161 #[.slice (some ⟨g, 0, none⟩) n c, .int .i64 0, .slice (some ⟨vb, 0, none⟩) 1 1] w fun e w' =>
      ∃ G, n + 1 ≤ G ∧ G ≤ maxLen ∧ e = .returned (.slice (some ⟨w.heap.size, 0, none⟩) (n + 1) G) ∧
      w' = (((w.alloc (.cells (Builtin.zeroCells (Value.int .u64 0).cells (n + 1) ++ Builtin.zeroCells (Value.int .u64 0).cells (G - (n + 1))) 153)).drew.setCells w.heap.size 0 [.int .u64 (x : Int)]).drew).setCells w.heap.size 1 (natsV .u64 l) := by
  obtain ⟨i0, hi0, hz0, hzs, hzb⟩ := info_parts infoU64
  have hz2 : ¬ ((0 : Int) = (n : Int)) := by omega
  have hz3 : (c : Int) < (n : Int) + 1 := by omega
  have hsz : (Tryz.prog.info? 153).map (·.size) = some 1 := by rw [hi0]; simp [hzs]
  have hl1 : (natsV .u64 l).length = n := by rw [natsV_len, hn]
  have h1c : ∀ v ∈ natsV .u64 l, v.oneCell' = true := fun u hu => by unfold natsV at hu; simp at hu; obtain ⟨i, _, rfl⟩ := hu; rfl
  have hold : (Builtin.firstCells i0.size 0 (.slice (some ⟨g, 0, none⟩) 0 c)).run Tryz.prog w.drew = .ok ([] : List Value).toArray w.drew :=
    run_firstCells_some w.drew i0.size 0 ⟨g, 0, none⟩ 0 c [] (by simp) (fun j v hj => by simp at hj)
  have hrz : ∀ ty, (Builtin.append_ #[155, 3] ty #[.slice (some ⟨g, 0, none⟩) 0 c, .int .i64 ((n : Int) + 1)]).run Tryz.prog w =
      .ok (.slice (some ⟨w.heap.size, 0, none⟩) (n + 1) (grownCap w (n + 1) c 153)) (w.drew.alloc (.cells (Builtin.zeroCells (Value.int .u64 0).cells (n + 1) ++ Builtin.zeroCells (Value.int .u64 0).cells (grownCap w (n + 1) c 153 - (n + 1))) 153)) := fun ty => by
    have h := Lib.run_append_grow_zeros w 155 3 ty 153 i0 _ .i64 .i64 Tryz.underlying155 Tryz.underlying3 hi0 hz0 (some ⟨g, 0, none⟩) 0 c [] hold (n + 1) (by omega) (by omega) (by omega) (by omega) (by rw [hzb]; omega) (by rw [hzb, Nat.zero_add]; exact growslice_fits hroom (by omega))
    rw [Nat.zero_add] at h
    simpa using h
  obtain ⟨G, hG⟩ : ∃ G, G = grownCap w (n + 1) c 153 := ⟨_, rfl⟩
  have hGn : n + 1 ≤ G := by rw [hG]; exact grownCap_ge w _ _ _
  have hGm : G ≤ maxLen := by rw [hG]; exact grownCap_le_maxLen w (n + 1) c 153 (by unfold maxLen; omega)
  rw [← hG] at hrz
  obtain ⟨ROW, hROW⟩ : ∃ ROW : Array Value, ROW = Builtin.zeroCells (Value.int .u64 0).cells (n + 1) ++ Builtin.zeroCells (Value.int .u64 0).cells (G - (n + 1)) := ⟨_, rfl⟩
  have HG := Lib.hid (And.intro hGn (And.intro hGm hROW))
  rw [← hROW] at hrz
  have hRl : n + 1 ≤ ROW.size := by rw [hROW]; simp [Builtin.zeroCells, Value.cells]
  obtain ⟨W1, hW1⟩ : ∃ W1, W1 = w.drew.alloc (.cells ROW 153) := ⟨_, rfl⟩
  rw [← hW1] at hrz
  have hN : ∀ j, j < n + 1 → (W1.cell? ⟨w.heap.size, j, none⟩).isSome = true := fun j hj => by
    rw [hW1, World.cell?_alloc_at (w := w.drew) ROW _ w.heap.size j rfl, Array.getElem?_eq_getElem (by omega)]; rfl
  have hNf : ∀ j, W1.frozen? ⟨w.heap.size, j, none⟩ = false := fun j => by rw [hW1]; exact World.frozen?_alloc_at (w := w.drew) ROW _ w.heap.size j rfl
  have hOb : ∀ j v, w.cell? ⟨g, j, none⟩ = some v → W1.cell? ⟨g, j, none⟩ = some v := fun j v h => by rw [hW1, World.cell?_alloc_past (w := w.drew) _ g j hgw]; exact h
  have hOv : ∀ j v, w.cell? ⟨vb, j, none⟩ = some v → W1.cell? ⟨vb, j, none⟩ = some v := fun j v h => by rw [hW1, World.cell?_alloc_past (w := w.drew) _ vb j hvw]; exact h
  have hcpA : ∀ (W : World), (∀ x, W.cell? x = W1.cell? x) → (∀ x, W.frozen? x = W1.frozen? x) → ∀ ty dc, (Builtin.copy_ #[155, 154] ty #[.slice (some ⟨w.heap.size, 0, none⟩) (n + 1) dc, .slice (some ⟨vb, 0, none⟩) 1 1]).run Tryz.prog W = .ok (goInt 1) (W.setCells w.heap.size 0 [.int .u64 (x : Int)]) := fun W hWc hWf ty dc =>
    run_copy_cells W _ _ ty 153 w.heap.size 0 (n + 1) dc ⟨vb, 0, none⟩ 1 1 [.int .u64 (x : Int)] Tryz.underlying155 hsz (by simp only [List.length_singleton, Nat.min_def]; split <;> omega)
      (fun j v hj => by
        have hj0 : j = 0 := by have := (List.getElem?_eq_some_iff.1 hj).1; simpa using this
        subst hj0
        rw [Addr.add_lit, hWc]
        refine hOv _ _ ?_
        rw [hvc]; simpa using hj)
      (fun j hj => by
        have hj0 : j = 0 := by simpa using hj
        subst hj0
        rw [hWc]; exact hN _ (by omega)) (fun j hj => by rw [hWf]; exact hNf _) (fun v hv => by simp at hv; subst hv; rfl)
  have hbN : g ≠ w.heap.size := by omega
  have hcpB : ∀ (W : World), (∀ y, W.cell? y = (W1.setCells w.heap.size 0 [.int .u64 (x : Int)]).cell? y) → (∀ y, W.frozen? y = (W1.setCells w.heap.size 0 [.int .u64 (x : Int)]).frozen? y) → ∀ ty dc sc, (Builtin.copy_ #[155, 155] ty #[.slice (some ⟨w.heap.size, 1, none⟩) n dc, .slice (some ⟨g, 0, none⟩) n sc]).run Tryz.prog W = .ok (goInt (natsV .u64 l).length) (W.setCells w.heap.size 1 (natsV .u64 l)) := fun W hWc hWf ty dc sc =>
    run_copy_cells W _ _ ty 153 w.heap.size 1 n dc ⟨g, 0, none⟩ n sc (natsV .u64 l) Tryz.underlying155 hsz (by rw [hl1]; simp only [Nat.min_def]; split <;> omega)
      (fun j v hj => by
        have hjn : j < n := by rw [← hl1]; exact (List.getElem?_eq_some_iff.1 hj).1
        rw [natsV_get (by omega)] at hj
        rw [Addr.add_lit, Nat.zero_add, hWc, World.cell?_setCells_out _ _ _ _ _ (fun h _ => absurd h hbN)]
        refine hOb _ _ ?_
        rw [hcur j hjn]; exact hj)
      (fun j hj => by rw [hWc]; exact isSome_setCells _ _ _ _ (fun t ht => hN _ (by simp at ht; omega)) _ (hN _ (by omega)))
      (fun j hj => by rw [hWf, World.frozen?_setCells]; exact hNf _) h1c
  subst hW1
  have hE1 : ∀ x, ((w.alloc (.cells ROW 153)).drew).cell? x = (w.drew.alloc (.cells ROW 153)).cell? x := fun x => rfl
  have hE2 : ∀ x, ((w.alloc (.cells ROW 153)).drew).frozen? x = (w.drew.alloc (.cells ROW 153)).frozen? x := fun x => rfl
  have hF1 : ∀ y, (((w.alloc (.cells ROW 153)).drew.setCells w.heap.size 0 [.int .u64 (x : Int)]).drew).cell? y = ((w.drew.alloc (.cells ROW 153)).setCells w.heap.size 0 [.int .u64 (x : Int)]).cell? y := fun y => rfl
  have hF2 : ∀ y, (((w.alloc (.cells ROW 153)).drew.setCells w.heap.size 0 [.int .u64 (x : Int)]).drew).frozen? y = ((w.drew.alloc (.cells ROW 153)).setCells w.heap.size 0 [.int .u64 (x : Int)]).frozen? y := fun y => rfl
  have hw1 : IntKind.i64.wrap ((n : Int) + 1) = (n : Int) + 1 := by rw [IntKind.wrap_i64]; omega
  have hwr1 : IntKind.i64.wrap 1 = 1 := by rw [IntKind.wrap_i64]; rfl
  have mixed : Tryz.prog.follows Departure.mixedOrders = true := by kernel_rfl
  have hb5 : (1 : Int) ≤ (n : Int) + 1 := by omega
  have hb6 : ¬ (G = 1) := by omega
  have hb7 : ¬ (G = 0) := by omega
  have hb8 : ¬ (c = 0) := by omega
  unfold maxLen at hGm
  clear hold hROW hG hRl hl1 h1c hcur hvc hsz hOb hOv hN hNf hn hnc hroom hgw hvw hbN
  go_enter Tryz.func161, Tryz.ntmps161
  go_wp2_with (first
    | (at_builtin; refine Lib.wpList_append_run _ rfl _ _ _ _ rfl _ _ rfl rfl _ _ (hrz _) ?_)
    | (at_builtin; refine wpList_copy_runI _ rfl _ _ 155 154 rfl _ _ rfl rfl (hcpA _ hE1 hE2 _ _) ?_))
  go_region_law_o (refine step_copy_runI rfl _ _ 155 155 rfl (.slice (some ⟨w.heap.size, 1, none⟩) n (G - 1)) (.slice (some ⟨g, 0, none⟩) n c) (by simp [Act.eval, Act.put]) (by simp [Act.eval, Act.put]) (hcpB _ hF1 hF2 3 (G - 1) c) ?_)
  go_wp2
  go_ret
  exact ⟨G, HG.out.1, HG.out.2.1, rfl, by rw [← HG.out.2.2]⟩
set_option maxHeartbeats 4000000 in
set_option maxRecDepth 100000 in
theorem ins_room (x g c vb : Nat) (cur : Array Value) (w : World) (hc : 1 ≤ c) (hg : w.heap[g]? = some (.cells cur 153 (0, 0))) (hcs : cur.size = c)
    (hvc : w.cell? ⟨vb, 0, none⟩ = some (.int .u64 (x : Int))) :
    Calls Tryz.prog 161 #[.slice (some ⟨g, 0, none⟩) 0 c, .int .i64 0, .slice (some ⟨vb, 0, none⟩) 1 1] w fun e w' =>
      e = .returned (.slice (some ⟨g, 0, none⟩) 1 c) ∧ w' = w.setCells g 0 [.int .u64 (x : Int)] := by
  have mixed : Tryz.prog.follows Departure.mixedOrders = true := by kernel_rfl
  have hsrc : Src Tryz.prog 1 154 (.slice (some ⟨vb, 0, none⟩) 1 1) 1 [.int .u64 (x : Int)] w := Src.ofSlice w Tryz.underlying154 ⟨vb, 0, none⟩ 1 1 [.int .u64 (x : Int)] (by simp) (fun j u hj => by
    have hj0 : j = 0 := by have := (List.getElem?_eq_some_iff.1 hj).1; simpa using this
    subst hj0
    rw [Addr.add_lit, hvc]; simpa using hj) (fun v hv => by simp at hv; subst hv; rfl)
  have hsp : ∀ j, j < [Value.int .u64 (x : Int)].length → (w.cell? ⟨g, 0 + 0 + j, none⟩).isSome = true := fun j hj => by
    have hj0 : j = 0 := by simpa using hj
    subst hj0
    simp only [World.cell?, hg]
    rw [Array.getElem?_eq_getElem (by omega)]; rfl
  have hfz : ∀ j, j < [Value.int .u64 (x : Int)].length → w.frozen? ⟨g, 0 + 0 + j, none⟩ = false := fun j hj => by simp [World.frozen?, hg]
  have hb8 : ¬ (c = 0) := by omega
  have hr1 : 0 + 1 ≤ c := by omega
  clear hg hcs hvc hc
  go_enter Tryz.func161, Tryz.ntmps161
  go_wp2_with (at_builtin; refine wpList_append_room1 _ rfl _ _ 155 154 rfl 153 _ _ Tryz.underlying155 infoU64 g 0 0 c rfl _ rfl 1 [.int .u64 (x : Int)] hsrc hr1 hsp hfz ?_)
  go_ret
  exact ⟨rfl, rfl⟩
set_option maxHeartbeats 4000000 in
set_option maxRecDepth 100000 in
theorem ins_new (x vb : Nat) (base : Option Addr) (w : World) (hvc : w.cell? ⟨vb, 0, none⟩ = some (.int .u64 (x : Int))) :
    Calls Tryz.prog 161 #[.slice base 0 0, .int .i64 0, .slice (some ⟨vb, 0, none⟩) 1 1] w fun e w' =>
      ∃ G, 1 ≤ G ∧ G ≤ maxLen ∧ e = .returned (.slice (some ⟨w.heap.size, 0, none⟩) 1 G) ∧
      w' = w.drew.alloc (.cells (#[Value.int .u64 (x : Int)] ++ Builtin.zeroCells (Value.int .u64 0).cells (G - 1)) 153) := by
  have mixed : Tryz.prog.follows Departure.mixedOrders = true := by kernel_rfl
  obtain ⟨i0, hi0, hz0, hzs, hzb⟩ := info_parts infoU64
  have hsrc : Src Tryz.prog i0.size 154 (.slice (some ⟨vb, 0, none⟩) 1 1) 1 [.int .u64 (x : Int)] w := by
    rw [hzs]
    exact Src.ofSlice w Tryz.underlying154 ⟨vb, 0, none⟩ 1 1 [.int .u64 (x : Int)] (by simp) (fun j u hj => by
      have hj0 : j = 0 := by have := (List.getElem?_eq_some_iff.1 hj).1; simpa using this
      subst hj0
      rw [Addr.add_lit, hvc]; simpa using hj) (fun v hv => by simp at hv; subst hv; rfl)
  have hold : (Builtin.firstCells i0.size 0 (.slice base 0 0)).run Tryz.prog w.drew = .ok ([] : List Value).toArray w.drew := by
    cases base with
    | none => exact run_firstCells_none w.drew i0.size 0 0 0
    | some a => exact run_firstCells_some w.drew i0.size 0 a 0 0 [] (by simp) (fun j v hj => by simp at hj)
  have hrun : ∀ ty, (Builtin.append_ #[155, 154] ty #[.slice base 0 0, .slice (some ⟨vb, 0, none⟩) 1 1]).run Tryz.prog w = .ok (.slice (some ⟨w.heap.size, 0, none⟩) 1 (grownCap w 1 0 153)) (w.drew.alloc (.cells (#[Value.int .u64 (x : Int)] ++ Builtin.zeroCells (Value.int .u64 0).cells (grownCap w 1 0 153 - 1)) 153)) := fun ty => by
    have h := run_append_grow_src w 155 154 ty 153 i0 _ Tryz.underlying155 hi0 hz0 base 0 0 [] hold _ 1 _ hsrc (by omega) (by omega) (by rw [hzb]; exact growslice_fits (by omega) (by omega))
    simpa using h
  obtain ⟨G, hG⟩ : ∃ G, G = grownCap w 1 0 153 := ⟨_, rfl⟩
  have hGn : 1 ≤ G := by rw [hG]; exact grownCap_ge w _ _ _
  have hGm : G ≤ maxLen := by rw [hG]; exact grownCap_le_maxLen w 1 0 153 (by unfold maxLen; omega)
  rw [← hG] at hrun
  have HG := Lib.hid (And.intro hGn hGm)
  clear hG hGn hGm hold hsrc hvc
  go_enter Tryz.func161, Tryz.ntmps161
  cases base with
  | none =>
    go_wp2_with (at_builtin; refine Lib.wpList_append_run _ rfl _ _ _ _ rfl _ _ rfl rfl _ _ (hrun _) ?_)
    go_ret
    exact ⟨G, HG.out.1, HG.out.2, rfl, rfl⟩
  | some a =>
    obtain ⟨ab, ao, asp⟩ := a
    go_wp2_with (at_builtin; refine Lib.wpList_append_run _ rfl _ _ _ _ rfl _ _ rfl rfl _ _ (hrun _) ?_)
    all_goals (go_ret; exact ⟨G, HG.out.1, HG.out.2, rfl, rfl⟩)
end Go.Proofs.YtlhpfhnbeagnaaaGreatDoor
namespace Go.Proofs.YtlhpfhnbeagnaaaGreatDoor
open Go.RowKit
theorem zeros_size (n : Nat) : (Builtin.zeroCells (Value.int .u64 0).cells n).size = n := by simp [Builtin.zeroCells, Value.cells]
theorem getD_cons {x : Nat} {l : List Nat} (j : Nat) : (x :: l).getD (j + 1) 0 = l.getD j 0 := by simp [List.getD_eq_getElem?_getD]
theorem Insert_any (x : Nat) (l : List Nat) (v : Value) (vb : Nat) (w : World) (hv : OwnsN .u64 153 w v l) (hl : l.length ≤ 300)
    (hvb : w.heap[vb]? = some (.cells #[.int .u64 (x : Int)] 153 (0, 0))) (hne : v.ownBlock ≠ some vb) :
    Calls Tryz.prog 161 #[v, .int .i64 0, .slice (some ⟨vb, 0, none⟩) 1 1] w fun e w' =>
      ∃ v', e = .returned v' ∧ OwnsN .u64 153 w' v' (x :: l) ∧ InsE w w' v v' := by
  have hvc : w.cell? ⟨vb, 0, none⟩ = some (.int .u64 (x : Int)) := by simp [World.cell?, hvb]
  have hvw : vb < w.heap.size := cell_lt hvc
  have new : ∀ (base : Option Addr), v = .slice base 0 0 → l = [] → Calls Tryz.prog 161 #[v, .int .i64 0, .slice (some ⟨vb, 0, none⟩) 1 1] w fun e w' =>
      ∃ v', e = .returned v' ∧ OwnsN .u64 153 w' v' (x :: l) ∧ InsE w w' v v' := fun base e1 e2 => by
    subst e1 e2
    refine (ins_new x vb base w hvc).mono ?_
    rintro e w' ⟨G, hG1, hG2, rfl, rfl⟩
    refine ⟨_, rfl, ?_, InsE.ext ((Ext.refl _).drew.alloc _) (fun b hb => by cases hb; exact Nat.le_refl _)⟩
    refine ownsN_of (l := [x]) (cur := #[Value.int .u64 (x : Int)] ++ Builtin.zeroCells (Value.int .u64 0).cells (G - 1)) ?_ hG1 hG2 (by rw [Array.size_append, zeros_size]; simp; omega) ?_
    · show (w.heap.push _)[w.heap.size]? = _
      exact Array.getElem?_push_size
    · intro j hj
      have hj0 : j = 0 := by simpa using hj
      subst hj0
      rw [Array.getElem?_append_left (by simp)]
      rfl
  rcases hv.2 with ⟨h1, h2⟩ | ⟨g, c, cur, h1, _, hg, hnc, hcm, hcs, ht⟩
  · exact new none (h1.trans (by rfl)) (List.length_eq_zero_iff.1 h2)
  · subst h1
    rw [Nat.mul_one] at hcs ht
    have hng : vb ≠ g := fun e => hne (by rw [e]; rfl)
    have hgw : g < w.heap.size := (Array.getElem?_eq_some_iff.1 hg).1
    by_cases h0 : l.length = 0
    · have hl0 : l = [] := List.length_eq_zero_iff.1 h0
      subst hl0
      by_cases hc : 1 ≤ c
      · refine (ins_room x g c vb cur w hc hg hcs hvc).mono ?_
        rintro e w' ⟨rfl, rfl⟩
        have he : w.setCells g 0 [Value.int .u64 (x : Int)] = w.setCells g 0 [Value.int .u64 (x : Int)] := rfl
        refine ⟨_, rfl, ?_, ⟨⟨by rw [size_setCells]; exact Nat.le_refl _, fun k _ hk => heap_setCells_ne (fun e => hk (by rw [e]; rfl)) _ _ _⟩, fun n _ hb => Below.setCells (Below.refl _ _) (hb g rfl) _ _, fun b hb => .inl hb⟩⟩
        refine ownsN_of (l := [x]) (heap_setCells_at g _ _ _ _ _ _ hg) hc hcm (by rw [putA_size]; exact hcs) ?_
        intro j hj
        rw [putA_get _ _ _ _ (by simp; omega), if_pos (by simpa using hj)]
        have hj0 : j = 0 := by simpa using hj
        subst hj0
        rfl
      · have hc0 : c = 0 := by omega
        subst hc0
        exact new (some ⟨g, 0, none⟩) rfl rfl
    · have hcur : ∀ j, j < l.length → cur[j]? = some (.int .u64 (l.getD j 0 : Nat)) := fun j hj => by
        have e1 : (cur.toList.take l.length)[j]? = (natsV .u64 l)[j]? := by rw [ht]
        rw [List.getElem?_take_of_lt hj, natsV_get hj, Array.getElem?_toList] at e1
        exact e1
      by_cases hroom : l.length + 1 ≤ c
      · refine (ins_shift x g l.length c vb l cur w rfl (by omega) hroom hcm hng hg hcs hcur hvb).mono ?_
        rintro e w' ⟨rfl, rfl⟩
        refine ⟨_, rfl, ?_, insE_set _ _ _ _⟩
        refine ownsN_of (l := x :: l) (heap_setCells_at g _ _ _ _ _ _ (heap_setCells_at g _ _ _ _ w.drew _ hg)) hroom hcm (by rw [putA_size, putA_size]; exact hcs) ?_
        intro j hj
        rw [List.length_cons] at hj
        rw [putA_get _ _ _ _ (by rw [putA_size]; simp; omega)]
        rcases j with _ | j
        · rw [if_pos (by simp)]; rfl
        · rw [if_neg (by simp), putA_get _ _ _ _ (by rw [natsV_len]; omega), if_pos (by rw [natsV_len]; omega), Nat.add_sub_cancel, natsV_get (by omega), getD_cons]
      · have hcell : ∀ j, j < l.length → w.cell? ⟨g, j, none⟩ = some (.int .u64 (l.getD j 0 : Nat)) := fun j hj => by
          have : w.cell? ⟨g, j, none⟩ = cur[j]? := by simp [World.cell?, hg]
          rw [this]; exact hcur j hj
        refine (ins_grow x g l.length c vb l w rfl (by omega) hnc (by omega) (by omega) hgw hvw hcell hvc).mono ?_
        rintro e w' ⟨G, hG1, hG2, rfl, rfl⟩
        have hz : (w.alloc (.cells (Builtin.zeroCells (Value.int .u64 0).cells (l.length + 1) ++ Builtin.zeroCells (Value.int .u64 0).cells (G - (l.length + 1))) 153)).drew.heap[w.heap.size]? = some (.cells (Builtin.zeroCells (Value.int .u64 0).cells (l.length + 1) ++ Builtin.zeroCells (Value.int .u64 0).cells (G - (l.length + 1))) 153 (0, 0)) := by
          show (w.heap.push _)[w.heap.size]? = _
          exact Array.getElem?_push_size
        have hsz : (Builtin.zeroCells (Value.int .u64 0).cells (l.length + 1) ++ Builtin.zeroCells (Value.int .u64 0).cells (G - (l.length + 1))).size = G := by
          rw [Array.size_append, zeros_size, zeros_size]; omega
        generalize Builtin.zeroCells (Value.int .u64 0).cells (l.length + 1) ++ Builtin.zeroCells (Value.int .u64 0).cells (G - (l.length + 1)) = ROW at hz hsz
        refine ⟨_, rfl, ?_, InsE.ext (Ext.setCells (Ext.drew (Ext.setCells (Ext.drew ((Ext.refl w).alloc _)) (Nat.le_refl _) _ _)) (Nat.le_refl _) _ _) (fun b hb => by cases hb; exact Nat.le_refl _)⟩
        refine ownsN_of (l := x :: l) (heap_setCells_at w.heap.size _ _ (natsV .u64 l) 1 (((w.alloc (.cells ROW 153)).drew.setCells w.heap.size 0 [.int .u64 (x : Int)]).drew) _ (heap_setCells_at w.heap.size _ _ _ _ _ _ hz)) hG1 hG2 (by rw [putA_size, putA_size]; exact hsz) ?_
        intro j hj
        rw [List.length_cons] at hj
        rw [putA_get _ _ _ _ (by rw [putA_size, natsV_len]; omega)]
        rcases j with _ | j
        · rw [if_neg (by omega), putA_get _ _ _ _ (by simp; omega), if_pos (by simp)]; rfl
        · rw [if_pos (by rw [natsV_len]; omega), Nat.add_sub_cancel, natsV_get (by omega), getD_cons]
end Go.Proofs.YtlhpfhnbeagnaaaGreatDoor
namespace Go.Proofs.YtlhpfhnbeagnaaaGreatDoor
open Go.RowKit
set_option maxHeartbeats 8000000 in
set_option maxRecDepth 100000 in
theorem minus_any (x y : Nat) (la lb : List Nat) (a b : Option Addr) (ca cb : Nat) (w : World) (hx : la = toB 1000000000 x) (hy : lb = toB 1000000000 y) (hyx : y ≤ x)
    (hla : la.length ≤ 200) (ha : CellsN .u64 w a la) (hb : CellsN .u64 w b lb) :
    Calls Tryz.prog 142 #[.slice a la.length ca, .slice b lb.length cb] w (OwnNPost .u64 153 (toB 1000000000 (x - y)) w) := by
  have hlb : lb.length ≤ la.length := valB_le_len (B := 1000000000) (by rw [hx]; exact okB_toB (by omega) x) (by rw [hy]; exact trim_toB (by omega) y) (by rw [hx, hy, valB_toB (by omega), valB_toB (by omega)]; exact hyx) (by omega)
  have HA := Lib.hid ha
  have HB := Lib.hid hb
  have HX := Lib.hid hx
  have HY := Lib.hid hy
  have HYX := Lib.hid hyx
  have OA : Hid (OkB 1000000000 la) := by show OkB _ _; rw [hx]; exact okB_toB (by omega) x
  have OB : Hid (OkB 1000000000 lb) := by show OkB _ _; rw [hy]; exact okB_toB (by omega) y
  clear ha hb hx hy hyx
  obtain ⟨i0, hi, hi0, hi1, hi2⟩ := info_parts infoU64
  go_enter Tryz.func142, Tryz.ntmps142
  go_wp2
  go_loopw [5, 6, 13] (fun v c i wr => ∃ (k br : Nat) (vv : Value), k ≤ la.length ∧ br ≤ 1 ∧ i = .int .i64 k ∧ c = .int .u64 br ∧ v = vv ∧ Hid (∃ o, MinusI 1000000000 la lb k br o ∧ OwnsN .u64 153 wr vv o) ∧ Hid (∀ b, vv.ownBlock = some b → w.heap.size ≤ b) ∧ Ext w wr) (fun _ _ i _ => la.length - (intOf i).toNat)
  case atStart => exact ⟨0, 0, _, by omega, by omega, rfl, rfl, rfl, ⟨[], MinusI.start _ _ _, OwnsN.nil _ _ _⟩, (fun b hb => by cases hb), Ext.refl _⟩
  case round =>
    obtain ⟨k, br, vv, hk, hbr, rfl, rfl, hvv, hw, HN, he⟩ := hrel
    obtain rfl := hvv.symm
    obtain ⟨o, ho1, ho2⟩ := hw.out
    have HO := Lib.hid ho2
    have HP := Lib.hid ho1
    have HOL := Lib.hid ho1.len
    have hol : o.length ≤ 200 := by have := ho1.len; omega
    clear ho1 ho2 hw
    by_cases h1 : k < la.length
    · obtain ⟨p, hp⟩ : ∃ p, p = la.getD k 0 := ⟨_, rfl⟩
      obtain ⟨q, hq⟩ : ∃ q, q = lb.getD k 0 := ⟨_, rfl⟩
      have hpb : p < 1000000000 := by rw [hp]; exact okB_getD OA.out (by omega) k
      have hqb : q < 1000000000 := by rw [hq]; exact okB_getD OB.out (by omega) k
      have hq0 : ¬ k < lb.length → q = 0 := fun h => by rw [hq, List.getD_eq_getElem?_getD, List.getElem?_eq_none (by omega)]; rfl
      obtain ⟨b1, o1, ha1, p1⟩ := HA.out.ext he k h1
      subst ha1
      rw [← hp] at p1
      by_cases h2 : k < lb.length
      · obtain ⟨b2, o2, ha2, q1⟩ := HB.out.ext he k h2
        subst ha2
        rw [← hq] at q1
        clear hq0
        by_cases hlt : p < br + q
        · have hw1 : IntKind.u64.wrap ((br : Int) + (q : Int)) = (br : Int) + (q : Int) := by rw [IntKind.wrap_u64]; omega
          have hlt2 : (p : Int) < (br : Int) + (q : Int) := by omega
          have hw2 : IntKind.u64.wrap ((p : Int) + 1000000000) = (p : Int) + 1000000000 := by rw [IntKind.wrap_u64]; omega
          obtain ⟨d, hd⟩ : ∃ d, d = (p + 1000000000) - (br + q) := ⟨_, rfl⟩
          have hw3 : IntKind.u64.wrap ((p : Int) + 1000000000 - ((br : Int) + (q : Int))) = (d : Int) := by rw [IntKind.wrap_u64]; omega
          have HE : Hid (d + lb.getD k 0 + br = la.getD k 0 + 1000000000 * 1) := by show _ = _; rw [← hp, ← hq]; omega
          have hdb : d < 1000000000 := by omega
          clear hd hp hq
          go_wp2_with (at_builtin; refine wpList_append1 _ rfl _ _ 155 rfl 153 i0 (.int .u64 0) 1 8 Tryz.underlying155 hi hi0 hi1 hi2 rfl (by decide) vv o.length (natsV .u64 o) rfl (HO.out.ext ((Ext.refl _).alloc _)) ⟨wr.heap.size, 0, none⟩ 1 1 (by decide) [.int .u64 (d : Int)] rfl rfl (cells_one _ _ _) (by intro u hu; simp at hu; subst hu; rfl) (by unfold maxLen; omega) (by omega) ?_)
          all_goals
            intro v' w5 hown5 hend5
            have OB5 : Hid (∀ b, v'.ownBlock = some b → w.heap.size ≤ b) := hend5.ge (n := w.heap.size) (by have := he.size; simp; omega) HN.out
            have O5 : Hid (∃ o, MinusI 1000000000 la lb (k + 1) 1 o ∧ OwnsN .u64 153 w5 v' o) := ⟨_, HP.out.next (d := d) (br' := 1) (by omega) (by omega) HE.out, ownsN_succ hown5⟩
            have B5 : Ext w w5 := (he.trans ((Ext.refl _).alloc _)).trans' (hend5.below (n := w.heap.size) (by have := he.size; simp; omega) HN.out) (Nat.le_refl _)
            clear hown5 hend5 HO HP
            go_wp2
            refine ⟨⟨k + 1, 1, v', by omega, by omega, by go_num, rfl, rfl, O5, OB5, B5⟩, by simp [intOf]; omega⟩
        · have hw1 : IntKind.u64.wrap ((br : Int) + (q : Int)) = (br : Int) + (q : Int) := by rw [IntKind.wrap_u64]; omega
          have hlt2 : ¬ ((p : Int) < (br : Int) + (q : Int)) := by omega
          obtain ⟨d, hd⟩ : ∃ d, d = p - (br + q) := ⟨_, rfl⟩
          have hw3 : IntKind.u64.wrap ((p : Int) - ((br : Int) + (q : Int))) = (d : Int) := by rw [IntKind.wrap_u64]; omega
          have HE : Hid (d + lb.getD k 0 + br = la.getD k 0 + 1000000000 * 0) := by show _ = _; rw [← hp, ← hq]; omega
          have hdb : d < 1000000000 := by omega
          clear hd hp hq
          go_wp2_with (at_builtin; refine wpList_append1 _ rfl _ _ 155 rfl 153 i0 (.int .u64 0) 1 8 Tryz.underlying155 hi hi0 hi1 hi2 rfl (by decide) vv o.length (natsV .u64 o) rfl (HO.out.ext ((Ext.refl _).alloc _)) ⟨wr.heap.size, 0, none⟩ 1 1 (by decide) [.int .u64 (d : Int)] rfl rfl (cells_one _ _ _) (by intro u hu; simp at hu; subst hu; rfl) (by unfold maxLen; omega) (by omega) ?_)
          all_goals
            intro v' w5 hown5 hend5
            have OB5 : Hid (∀ b, v'.ownBlock = some b → w.heap.size ≤ b) := hend5.ge (n := w.heap.size) (by have := he.size; simp; omega) HN.out
            have O5 : Hid (∃ o, MinusI 1000000000 la lb (k + 1) 0 o ∧ OwnsN .u64 153 w5 v' o) := ⟨_, HP.out.next (d := d) (br' := 0) (by omega) (by omega) HE.out, ownsN_succ hown5⟩
            have B5 : Ext w w5 := (he.trans ((Ext.refl _).alloc _)).trans' (hend5.below (n := w.heap.size) (by have := he.size; simp; omega) HN.out) (Nat.le_refl _)
            clear hown5 hend5 HO HP
            go_wp2
            refine ⟨⟨k + 1, 0, v', by omega, by omega, by go_num, rfl, rfl, O5, OB5, B5⟩, by simp [intOf]; omega⟩
      · have hqz := hq0 h2
        clear hq0
        by_cases hlt : p < br
        · have hlt2 : (p : Int) < (br : Int) := by omega
          have hw2 : IntKind.u64.wrap ((p : Int) + 1000000000) = (p : Int) + 1000000000 := by rw [IntKind.wrap_u64]; omega
          obtain ⟨d, hd⟩ : ∃ d, d = (p + 1000000000) - br := ⟨_, rfl⟩
          have hw3 : IntKind.u64.wrap ((p : Int) + 1000000000 - (br : Int)) = (d : Int) := by rw [IntKind.wrap_u64]; omega
          have HE : Hid (d + lb.getD k 0 + br = la.getD k 0 + 1000000000 * 1) := by show _ = _; rw [← hp, ← hq]; omega
          have hdb : d < 1000000000 := by omega
          clear hd hp hq
          go_wp2_with (at_builtin; refine wpList_append1 _ rfl _ _ 155 rfl 153 i0 (.int .u64 0) 1 8 Tryz.underlying155 hi hi0 hi1 hi2 rfl (by decide) vv o.length (natsV .u64 o) rfl (HO.out.ext ((Ext.refl _).alloc _)) ⟨wr.heap.size, 0, none⟩ 1 1 (by decide) [.int .u64 (d : Int)] rfl rfl (cells_one _ _ _) (by intro u hu; simp at hu; subst hu; rfl) (by unfold maxLen; omega) (by omega) ?_)
          all_goals
            intro v' w5 hown5 hend5
            have OB5 : Hid (∀ b, v'.ownBlock = some b → w.heap.size ≤ b) := hend5.ge (n := w.heap.size) (by have := he.size; simp; omega) HN.out
            have O5 : Hid (∃ o, MinusI 1000000000 la lb (k + 1) 1 o ∧ OwnsN .u64 153 w5 v' o) := ⟨_, HP.out.next (d := d) (br' := 1) (by omega) (by omega) HE.out, ownsN_succ hown5⟩
            have B5 : Ext w w5 := (he.trans ((Ext.refl _).alloc _)).trans' (hend5.below (n := w.heap.size) (by have := he.size; simp; omega) HN.out) (Nat.le_refl _)
            clear hown5 hend5 HO HP
            go_wp2
            refine ⟨⟨k + 1, 1, v', by omega, by omega, by go_num, rfl, rfl, O5, OB5, B5⟩, by simp [intOf]; omega⟩
        · have hlt2 : ¬ ((p : Int) < (br : Int)) := by omega
          obtain ⟨d, hd⟩ : ∃ d, d = p - br := ⟨_, rfl⟩
          have hw3 : IntKind.u64.wrap ((p : Int) - (br : Int)) = (d : Int) := by rw [IntKind.wrap_u64]; omega
          have HE : Hid (d + lb.getD k 0 + br = la.getD k 0 + 1000000000 * 0) := by show _ = _; rw [← hp, ← hq]; omega
          have hdb : d < 1000000000 := by omega
          clear hd hp hq
          go_wp2_with (at_builtin; refine wpList_append1 _ rfl _ _ 155 rfl 153 i0 (.int .u64 0) 1 8 Tryz.underlying155 hi hi0 hi1 hi2 rfl (by decide) vv o.length (natsV .u64 o) rfl (HO.out.ext ((Ext.refl _).alloc _)) ⟨wr.heap.size, 0, none⟩ 1 1 (by decide) [.int .u64 (d : Int)] rfl rfl (cells_one _ _ _) (by intro u hu; simp at hu; subst hu; rfl) (by unfold maxLen; omega) (by omega) ?_)
          all_goals
            intro v' w5 hown5 hend5
            have OB5 : Hid (∀ b, v'.ownBlock = some b → w.heap.size ≤ b) := hend5.ge (n := w.heap.size) (by have := he.size; simp; omega) HN.out
            have O5 : Hid (∃ o, MinusI 1000000000 la lb (k + 1) 0 o ∧ OwnsN .u64 153 w5 v' o) := ⟨_, HP.out.next (d := d) (br' := 0) (by omega) (by omega) HE.out, ownsN_succ hown5⟩
            have B5 : Ext w w5 := (he.trans ((Ext.refl _).alloc _)).trans' (hend5.below (n := w.heap.size) (by have := he.size; simp; omega) HN.out) (Nat.le_refl _)
            clear hown5 hend5 HO HP
            go_wp2
            refine ⟨⟨k + 1, 0, v', by omega, by omega, by go_num, rfl, rfl, O5, OB5, B5⟩, by simp [intOf]; omega⟩
    · have hkl : k = la.length := by omega
      have hdone : Hid (trimL o = toB 1000000000 (x - y)) := by
        have h5 := HP.out
        rw [hkl] at h5
        have h6 := h5.done (by omega) OA.out (by rw [HY.out]; exact trim_toB (by omega) y) (by rw [HX.out, HY.out, valB_toB (by omega), valB_toB (by omega)]; exact HYX.out)
        rw [HX.out, HY.out, valB_toB (by omega), valB_toB (by omega)] at h6
        exact h6
      obtain ⟨oa, oc, hov, hoc, hor, _⟩ := HO.out.reads
      subst hov
      have HOR := Lib.hid hor
      have HOC := Lib.hid hoc
      clear hor hoc
      have HN2 : Hid (∀ b, (Value.slice oa (trimL o).length oc).ownBlock = some b → w.heap.size ≤ b) := fun b hb => HN.out b (by cases oa <;> exact hb)
      go_wp2_with (go_at_call 160; refine (trimmed_any o oa oc wr HOR.out HOC.out).mono ?_; rintro e w5 ⟨rfl, hn5, hE5⟩)
      go_ret
      refine ⟨.slice oa (trimL o).length oc, rfl, ?_, HN2.out, he.trans hE5⟩
      · rw [← hdone.out]
        exact (HO.out.ext hE5).trim hn5
end Go.Proofs.YtlhpfhnbeagnaaaGreatDoor
namespace Go.Proofs.YtlhpfhnbeagnaaaGreatDoor
open Go.RowKit
def noDefer (ops : Array Oper) : Bool := ops.all fun o => match o.op with | .defer _ => false | _ => true
section
variable {P : Program} {ops : Array Oper} {Q : Exit → Act → World → Prop} {md : Region.Mode} {l n : Nat}
theorem oper_round {o : Oper} {a : Act} {w : World} {K K' : Act → World → Prop} (hd : ∀ c, o.op ≠ .defer c) (_hQ : ¬ LetsOut Q) (hK : ∀ a w, K a w → K' a w) (h : o.wp P a w K Q) :
    o.wpIn (Fence.wide.inRound l) n P a w K' Q := by
  unfold Oper.wpIn
  refine ⟨fun _ _ => trivial, ?_⟩
  rw [Oper.semAt_plain (Fence.wide.inRound l) a.eval o hd]
  unfold Oper.wp at h
  generalize (execOp a.eval o).run P w = r at h ⊢
  cases r with
  | ok x w' =>
    cases x with
    | value v => exact hK _ _ h
    | skip => exact hK _ _ h
    | defer d => exact hK _ _ h
    | enter f args =>
      refine ⟨fun e => (by cases e), CallsIn.inRound l (callsIn_wide.2 (Calls.mono h fun e w'' he => ?_))⟩
      cases e with
      | returned v => exact hK _ _ he
      | panicked c => exact he
      | outgrown => exact he
    | row row args =>
      refine ⟨fun e => (by cases e), ?_⟩
      intro c cs _
      obtain ⟨v, w'', hv, hs⟩ := h c cs
      exact ⟨v, w'', hK _ _ hv, stepsIn_wide.2 hs⟩
    | _ => exact h.elim
  | halt x w' =>
    cases x with
    | panic v => exact h
    | _ => exact h.elim
theorem any_round (hd : noDefer ops = true) (hQ : ¬ LetsOut Q) : ∀ (fuel : Nat) (listed : Array Bool) (a : Act) (w : World), wpAny P md ops Q fuel listed a w → wpAnyIn (Fence.wide.inRound l) n P md ops Q fuel listed a w
  | 0, _, _, _, h => h
  | fuel + 1, listed, a, w, h => by
    refine ⟨h.1, fun i hi => ?_⟩
    have hi' := h.2 i hi
    unfold wpOp at hi'
    unfold wpOpIn
    cases ho : ops[i]? with
    | none => rw [ho] at hi'; exact any_round hd hQ fuel _ a w hi'
    | some o =>
      rw [ho] at hi'
      have hdo : ∀ c, o.op ≠ .defer c := fun c e => by
        have hm := Array.all_eq_true'.1 hd o (Array.mem_of_getElem? ho)
        rw [e] at hm
        cases hm
      dsimp only at hi' ⊢
      split
      · rename_i hw
        rw [if_pos hw] at hi'
        rcases hi' with hi' | ⟨_, hi'⟩
        · exact oper_round hdo hQ (fun a w => any_round hd hQ fuel _ a w) hi'
        · exact absurd hi' hQ
      · rename_i hw
        rw [if_neg hw] at hi'
        exact ⟨fun _ _ => trivial, any_round hd hQ fuel _ _ w hi'⟩
end
end Go.Proofs.YtlhpfhnbeagnaaaGreatDoor
namespace Go.Proofs.YtlhpfhnbeagnaaaGreatDoor
open Go.RowKit
section
variable {P : Program} {ops : Array Oper} {Q : Exit → Act → World → Prop} {l n : Nat}
theorem round_heldE (f : Nat) (S : World → Prop) {id : Nat} {a : Act} {w : World} (hm : P.follows .mixedOrders = true) (hd : noDefer ops = true) (hQ : ¬ LetsOut Q)
    (h : wpAnyE P .any ops Q S f ops.size (Array.replicate ops.size false) a w.drew) : (Code.region id ops true).wpIn (Fence.wide.inRound l) n P Q a w :=
  wpIn_region_any hm (any_round hd hQ _ _ _ _ (wpAny_of_heldE _ _ _ _ h))
theorem wide_heldE (f : Nat) (S : World → Prop) {id : Nat} {a : Act} {w : World} (hm : P.follows .mixedOrders = true)
    (h : wpAnyE P .any ops (NoPanic Q) S f ops.size (Array.replicate ops.size false) a w.drew) : (Code.region id ops true).wpIn Fence.wide n P Q a w :=
  wpIn_wide.2 (wp_region_noPanic (wp_region_heldE f S hm h))
end
end Go.Proofs.YtlhpfhnbeagnaaaGreatDoor
namespace Go.Proofs.YtlhpfhnbeagnaaaGreatDoor
open Go.RowKit
theorem Chg.cellAt {M : Nat → Prop} {A B : World} (h : Chg M A B) {p : Addr} {v : Value} (hc : A.cell? p = some v) (hn : ¬ M p.block) : B.cell? p = some v :=
  (World.cell?_of_block (w := A) (a := p) (h.2 p.block (cell_lt hc) hn)).trans hc
theorem Chg.frozenAt {M : Nat → Prop} {A B : World} (h : Chg M A B) {p : Addr} {v : Value} (hc : A.cell? p = some v) (hn : ¬ M p.block) : B.frozen? p = A.frozen? p :=
  World.frozen?_of_block (w := A) (a := p) (h.2 p.block (cell_lt hc) hn)
theorem OwnsN.chg {k : IntKind} {t : TypeId} {M : Nat → Prop} {A B : World} {v : Value} {l : List Nat} (h : OwnsN k t A v l) (c : Chg M A B) (hn : ∀ b, v.ownBlock = some b → ¬ M b) : OwnsN k t B v l :=
  h.same (fun b hb => c.2 b (h.lt hb) (hn b hb))
theorem Chg.mono {B C : Nat → Prop} {A D : World} (h : Chg B A D) (k : ∀ b, B b → C b) : Chg C A D := ⟨h.1, fun i hi hn => h.2 i hi (fun hb => hn (k i hb))⟩
theorem ordN_le {a b : Nat} : ordN a b ≤ 0 ↔ a ≤ b := by
  unfold ordN
  by_cases h : a < b
  · rw [if_pos h]; omega
  · rw [if_neg h]
    by_cases k : b < a
    · rw [if_pos k]; omega
    · rw [if_neg k]; omega
structure OverW (la lb : List Nat) (y : Nat) (b : Option Addr) (cb g bb qb rb n3 : Nat) (w0 : World) (k : Nat) (W : World) : Prop where
  ext : Ext w0 W
  pb : W.cell? ⟨bb, 0, none⟩ = some (.slice b lb.length cb)
  pq : W.cell? ⟨qb, 0, none⟩ = some (.slice (some ⟨g, 0, none⟩) la.length la.length)
  fr : W.frozen? ⟨rb, 0, none⟩ = false
  st : ∃ r q v, OverI 1000000000 la y (la.length - k) r q ∧ OwnsN .u64 153 W (.slice (some ⟨g, 0, none⟩) la.length la.length) q ∧ W.cell? ⟨rb, 0, none⟩ = some v ∧
    OwnsN .u64 153 W v (toB 1000000000 r) ∧ ∀ b, v.ownBlock = some b → n3 ≤ b
theorem OverW.keep {la lb : List Nat} {y : Nat} {b : Option Addr} {cb g bb qb rb n3 : Nat} {w0 : World} {k n : Nat} {A B : World} (h : OverW la lb y b cb g bb qb rb n3 w0 k A) (q : Keep n A B) (hn : w0.heap.size ≤ n) : OverW la lb y b cb g bb qb rb n3 w0 k B := by
  obtain ⟨r, t, v, h1, h2, h3, h4, h5⟩ := h.st
  exact ⟨h.ext.trans' q.1 hn, q.cell h.pb, q.cell h.pq, (q.frozen h3).trans h.fr, r, t, v, h1, rowKeep h2 q, q.cell h3, rowKeep h4 q, h5⟩
theorem OverW.exts {la lb : List Nat} {y : Nat} {b : Option Addr} {cb g bb qb rb n3 : Nat} {w0 : World} {k : Nat} {A B : World} (h : OverW la lb y b cb g bb qb rb n3 w0 k A) (q : Ext A B) : OverW la lb y b cb g bb qb rb n3 w0 k B :=
  h.keep (Keep.ext q (Nat.le_refl _)) h.ext.size
structure FindW (y s L H : Nat) : Prop where
  lt : L < H
  le : H ≤ 1000000000
  lo : L * y ≤ s
  hi : s < H * y
theorem FindW.done {y s L H : Nat} (h : FindW y s L H) (h1 : H - L ≤ 1) : L = s / y := by
  have := h.lt
  have e : H = L + 1 := by omega
  have h2 := h.hi
  rw [e] at h2
  exact (Nat.div_eq_of_lt_le h.lo h2).symm
theorem FindW.low {y s L H M : Nat} (h : FindW y s L H) (h1 : 1 < H - L) (hM : M = (L + H) / 2) (hs : y * M ≤ s) : FindW y s M H ∧ H - M < H - L := by
  rw [Nat.mul_comm] at hs
  exact ⟨⟨by omega, h.le, hs, h.hi⟩, by omega⟩
theorem FindW.high {y s L H M : Nat} (h : FindW y s L H) (h1 : 1 < H - L) (hM : M = (L + H) / 2) (hs : s < y * M) : FindW y s L M ∧ M - L < H - L := by
  have := h.le
  rw [Nat.mul_comm] at hs
  exact ⟨⟨by omega, by omega, h.lo, hs⟩, by omega⟩
end Go.Proofs.YtlhpfhnbeagnaaaGreatDoor
namespace Go.Proofs.YtlhpfhnbeagnaaaGreatDoor
open Go.RowKit
attribute [local go_sem] Oper.semAt_some
set_option maxHeartbeats 4000000 in
set_option maxRecDepth 100000 in
theorem over_range (cas cbd : Code) (hcode : rngOf (Tryz.f147.body.getD .skip) = [(cas, cbd)]) (y : Nat) (la lb : List Nat) (a b : Option Addr) (ca cb : Nat) (w0 w3 : World) (sb g bb qb rb : Nat)
    (hla : la.length ≤ 100) (hlb : lb.length ≤ 100) (OA : OkB 1000000000 la) (hy : lb = toB 1000000000 y) (hy0 : 0 < y)
    (ha : CellsN .u64 w0 a la) (hb : CellsN .u64 w0 b lb) (E0 : Ext w0 w3) (s0 : w3.cell? ⟨sb, 0, none⟩ = some (.slice a la.length ca)) (h3 : OverW la lb y b cb g bb qb rb w3.heap.size w0 0 w3)
    (hsg : sb ≠ g) (hsr : sb ≠ rb) (hwg : w0.heap.size ≤ g) (hwr : w0.heap.size ≤ rb) (hgr : g ≠ rb) (hbg : bb ≠ g) (hbr : bb ≠ rb) (hqg : qb ≠ g) (hqr : qb ≠ rb) (hg3 : g < w3.heap.size) (hq3 : qb < w3.heap.size)
    (u2 u4 u5 u8 u9 u10 u11 u12 u13 u14 u15 u16 u18 u19 u20 u21 u22 u23 u24 u25 u26 u27 u28 u29 u30 u31 u32 u33 u34 u35 u36 u37 u38 u39 u40 u41 u42 u43 u44 u45 u46 u47 u48 u49 u50 u51 u52 : Value) (ds : List Deferred) (Q : Exit → Act → World → Prop)
    (hdone : ∀ (D : Nat) (W : World), w3.heap.size ≤ D → D < W.heap.size → OverW la lb y b cb g bb qb rb w3.heap.size w0 la.length W → W.heap[D]? = some (.deferred (some [])) → Q .normal { tmps := #[.slice a la.length ca, .slice b lb.length cb, u2, .pointer (some ⟨bb, 0, none⟩), u4, u5, .pointer (some ⟨qb, 0, none⟩), .pointer (some ⟨rb, 0, none⟩), u8, u9, u10, u11, u12, u13, u14, u15, u16, .func (.func 188) #[] #[.pointer (some ⟨sb, 0, none⟩)], u18, u19, u20, u21, u22, u23, u24, u25, u26, u27, u28, u29, u30, u31, u32, u33, u34, u35, u36, u37, u38, u39, u40, u41, u42, u43, u44, u45, u46, u47, u48, u49, u50, u51, u52], defers := mark D :: ds } W) :
    (Code.rangeFunc (.tmp 17) #[18, 19] cas cbd).wp Tryz.prog Q { tmps := #[.slice a la.length ca, .slice b lb.length cb, u2, .pointer (some ⟨bb, 0, none⟩), u4, u5, .pointer (some ⟨qb, 0, none⟩), .pointer (some ⟨rb, 0, none⟩), u8, u9, u10, u11, u12, u13, u14, u15, u16, .func (.func 188) #[] #[.pointer (some ⟨sb, 0, none⟩)], u18, u19, u20, u21, u22, u23, u24, u25, u26, u27, u28, u29, u30, u31, u32, u33, u34, u35, u36, u37, u38, u39, u40, u41, u42, u43, u44, u45, u46, u47, u48, u49, u50, u51, u52], defers := ds } w3 := by
  have HC := Lib.hid hcode
  have hsz : sb < w3.heap.size := cell_lt s0
  have hwz := E0.size
  have hbz : bb < w3.heap.size := cell_lt h3.pb
  have hrz : rb < w3.heap.size := by obtain ⟨_, _, _, _, _, h, _⟩ := h3.st; exact cell_lt h
  refine wp_bwd la a ca w0 sb (by omega) ha E0 s0 rfl
    (fun k W => OverW la lb y b cb g bb qb rb w3.heap.size w0 k W) (fun _ _ => False)
    (fun k A B h q => h.keep q hwz) (fun k A B h q => h.elim)
    (fun k A B h q => h.exts q) h3
    (fun k a' W => a' = { tmps := #[.slice a la.length ca, .slice b lb.length cb, u2, .pointer (some ⟨bb, 0, none⟩), u4, u5, .pointer (some ⟨qb, 0, none⟩), .pointer (some ⟨rb, 0, none⟩), .int .i64 ((la.length : Int) - 1 - (k : Int)), .int .u64 (la.getD (la.length - 1 - k) 0 : Nat), u10, u11, u12, u13, u14, u15, u16, .func (.func 188) #[] #[.pointer (some ⟨sb, 0, none⟩)], .int .i64 ((la.length : Int) - 1 - (k : Int)), .int .u64 (la.getD (la.length - 1 - k) 0 : Nat), u20, u21, u22, u23, u24, u25, u26, u27, u28, u29, u30, u31, u32, u33, u34, u35, u36, u37, u38, u39, u40, u41, u42, u43, u44, u45, u46, u47, u48, u49, u50, u51, u52], defers := [] }) (fun k a' A B h _ => h)
    ?assign ?body (fun D W h1 h2 h3 h4 => hdone D W h1 h2 h3 h4) (fun _ _ _ _ _ _ h _ => h.elim)
  case assign =>
    simp only [Tryz.f147, rngOf, Option.getD, List.nil_append, List.append_nil] at hcode
    cases hcode
    intro l' k m W K hm hI hK
    clear HC hy
    unfold bwEnc
    gi_wp2
    exact hK _ _ (Ext.refl _) rfl
  case body =>
    simp only [Tryz.f147, rngOf, Option.getD, List.nil_append, List.append_nil] at hcode
    cases hcode
    rintro l' k a' W hk hm hI rfl
    obtain ⟨n, hn⟩ : ∃ n, n = la.length - 1 - k := ⟨_, rfl⟩
    have hnl : n < la.length := by omega
    have e1 : la.length - k = n + 1 := by omega
    have e2 : la.length - (k + 1) = n := by omega
    have e3 : (la.length : Int) - 1 - (k : Int) = (n : Int) := by omega
    rw [← hn, e3]
    obtain ⟨r, q, v, hI1, O1, r1, V1, hvn⟩ := hI.st
    have p1 := hI.pb
    have q1 := hI.pq
    have fr := hI.fr
    have EW := hI.ext
    rw [e1] at hI1
    have hnx := hI1.next (by omega) OA hnl
    have hql : q.length = la.length := hI1.len
    have hrl := hI1.lt
    have hxb : la.getD n 0 < 1000000000 := okB_getD OA (by omega) n
    generalize la.getD n 0 = x at *
    obtain ⟨s, hs⟩ : ∃ s, s = x + 1000000000 * r := ⟨_, rfl⟩
    rw [← hs] at hnx
    have HN := Lib.hid hnx
    have hyB : y < 1000000000 ^ 100 := by
      have h1 := valB_lt (okB_toB (B := 1000000000) (by omega) y)
      rw [valB_toB (by omega), ← hy] at h1
      exact Nat.lt_of_lt_of_le h1 (Nat.pow_le_pow_right (by omega) hlb)
    have HYB : Hid (∀ m, m ≤ 1000000000 → (toB 1000000000 (y * m)).length ≤ 102) := fun m hm => toB_len (by omega) 102 (by
      have h1 : y * m < 1000000000 ^ 100 * 1000000000 ^ 2 := Nat.mul_lt_mul_of_lt_of_le hyB (by omega) (by omega)
      rw [← Nat.pow_add] at h1
      exact h1)
    have hRl : (toB 1000000000 r).length ≤ 100 := toB_len (by omega) 100 (by omega)
    have hxr : trimL (x :: toB 1000000000 r) = toB 1000000000 s := by
      rw [trimL_toB (B := 1000000000) (by omega) (fun z hz => by
        rcases List.mem_cons.1 hz with rfl | hz
        · exact hxb
        · exact okB_toB (by omega) r z hz), hs]
      congr 1
      show x + 1000000000 * valB 1000000000 (toB 1000000000 r) = _
      rw [valB_toB (by omega)]
    have hsB : s < 1000000000 * y := by
      rw [hs]
      have : 1000000000 * (r + 1) ≤ 1000000000 * y := Nat.mul_le_mul_left _ hrl
      rw [Nat.mul_add] at this
      omega
    have hSl : (toB 1000000000 s).length ≤ 102 := by
      have := HYB.out 1000000000 (Nat.le_refl _)
      exact toB_len (by omega) 102 (Nat.lt_of_lt_of_le hsB (by
        have h1 : 1000000000 * y ≤ 1000000000 ^ 2 * 1000000000 ^ 100 := Nat.mul_le_mul (by omega) (by omega)
        rw [← Nat.pow_add] at h1
        exact h1))
    have HSB := Lib.hid hsB
    have HXR := Lib.hid hxr
    have HY := Lib.hid hy
    have HB := Lib.hid hb
    have HVN := Lib.hid hvn
    have HO1 := Lib.hid O1
    have HV1 := Lib.hid V1
    have HFR := Lib.hid fr
    have hbn : ∀ i, i < w3.heap.size → v.ownBlock ≠ some i := fun i hi h => by have := hvn i h; omega
    have hvL : ∀ i, v.ownBlock = some i → i < W.heap.size := fun i h => V1.lt h
    have HBN := Lib.hid (And.intro hbn hvL)
    have HCELL : Hid ((∀ i, v.ownBlock = some i → ∀ o, W.heap[i]? = some o → o.isCells = true) ∧ (∀ o, W.heap[rb]? = some o → o.isCells = true) ∧ ∀ o, W.heap[g]? = some o → o.isCells = true) :=
      ⟨fun i h o ho => V1.isCells h ho, fun o ho => isCells_of_cell r1 ho, fun o ho => O1.isCells rfl ho⟩
    clear HC hI hI1 hnx hxr hsB hyB hy ha hb E0 h3 hdone hrl hxb hs hvn V1 O1 fr hbn hvL hn hk e1 e3 OA s0
    have EA : Ext W (W.alloc (.cells #[.int .u64 (x : Int)] 153)) := extA
    gi_wp2_with fail
    refine ⟨trivial, rfl, ?_⟩
    gi_at_call 161
    refine (callsIn_wide.2 (Insert_any x (toB 1000000000 r) v W.heap.size _ (HV1.out.ext EA) (by omega) (by show (W.heap.push _)[W.heap.size]? = _; exact Array.getElem?_push_size) (fun h => Nat.lt_irrefl _ (HBN.out.2 _ h)))).mono ?_
    rintro e w5 ⟨v5, rfl, V5, I5⟩
    have C1 : Chg (fun i => v.ownBlock = some i) W w5 := (Chg.ext EA).trans I5.ch
    have p5 := C1.cellAt p1 (HBN.out.1 _ hbz)
    have q5 := C1.cellAt q1 (HBN.out.1 _ hq3)
    have r5 := C1.cellAt r1 (HBN.out.1 _ hrz)
    have f5 := (C1.frozenAt r1 (HBN.out.1 _ hrz)).trans HFR.out
    have O5 := HO1.out.chg C1 (fun i hi => by cases hi; exact HBN.out.1 _ hg3)
    have E5 : Ext w0 w5 := (EW.trans EA).trans' (I5.be w0.heap.size (by have := EA.size; omega) (fun i hi => by have := HVN.out i hi; omega)) (Nat.le_refl _)
    have N5 : ∀ i, v5.ownBlock = some i → w3.heap.size ≤ i := fun i hi => by
      rcases I5.ow i hi with h | h
      · exact HVN.out i h
      · have := EA.size; omega
    obtain ⟨a5, c5, rfl, hc5, hr5, _⟩ := V5.reads
    have HT := Lib.hid (trimmed_any (x :: toB 1000000000 r) a5 c5 w5 hr5 hc5)
    have HV5 := Lib.hid V5
    have HC1 := Lib.hid C1
    have HN5 := Lib.hid N5
    have HO5 := Lib.hid O5
    clear hc5 hr5 V5 C1 N5 O5 I5 p1 q1 r1 EA EW HV1 HO1 HFR
    gi_wp2_with fail
    refine ⟨trivial, rfl, ?_⟩
    gi_at_call 160
    refine (callsIn_wide.2 HT.out).mono ?_
    rintro e w6 ⟨rfl, hn6, hE6⟩
    have V6 := (HV5.out.ext hE6).trim hn6
    rw [HXR.out] at V6 ⊢
    have E7 : Ext w0 (w6.setCell ⟨rb, 0, none⟩ (.slice a5 (toB 1000000000 s).length c5)) := (E5.trans hE6).set hwr _
    have p7 : (w6.setCell ⟨rb, 0, none⟩ (.slice a5 (toB 1000000000 s).length c5)).cell? ⟨bb, 0, none⟩ = some (.slice b lb.length cb) := by
      rw [World.cell?_setCell_other _ _ _ _ (fun h => by simp only [Addr.mk.injEq] at h; omega)]; exact hE6.cell p5
    have q7 : (w6.setCell ⟨rb, 0, none⟩ (.slice a5 (toB 1000000000 s).length c5)).cell? ⟨qb, 0, none⟩ = some (.slice (some ⟨g, 0, none⟩) la.length la.length) := by
      rw [World.cell?_setCell_other _ _ _ _ (fun h => by simp only [Addr.mk.injEq] at h; omega)]; exact hE6.cell q5
    have r7 := World.cell?_setCell_same w6 ⟨rb, 0, none⟩ (.slice a5 (toB 1000000000 s).length c5) (hE6.cell r5)
    have f7 : (w6.setCell ⟨rb, 0, none⟩ (.slice a5 (toB 1000000000 s).length c5)).frozen? ⟨rb, 0, none⟩ = false := by rw [World.frozen?_setCell]; exact (Below.frozen (p := ⟨rb, 0, none⟩) hE6 (cell_lt r5)).trans f5
    have N7 : ∀ i, (Value.slice a5 (toB 1000000000 s).length c5).ownBlock = some i → w3.heap.size ≤ i := fun i hi => HN5.out i (by cases a5 <;> exact hi)
    have O7 : OwnsN .u64 153 (w6.setCell ⟨rb, 0, none⟩ (.slice a5 (toB 1000000000 s).length c5)) (.slice (some ⟨g, 0, none⟩) la.length la.length) q := (HO5.out.ext hE6).same (fun i hi => by cases hi; exact Below.heap_setCell _ ⟨rb, 0, none⟩ _ g hgr)
    have V7 : OwnsN .u64 153 (w6.setCell ⟨rb, 0, none⟩ (.slice a5 (toB 1000000000 s).length c5)) (.slice a5 (toB 1000000000 s).length c5) (toB 1000000000 s) := V6.same (fun i hi => Below.heap_setCell _ ⟨rb, 0, none⟩ _ i (fun e => by have := N7 i hi; dsimp only at e; omega))
    have C7 : Chg (fun i => v.ownBlock = some i ∨ i = rb) W (w6.setCell ⟨rb, 0, none⟩ (.slice a5 (toB 1000000000 s).length c5)) := ((HC1.out.mono (fun i hi => .inl hi)).trans (Chg.ext hE6)).trans (Chg.setCell (B := fun i => v.ownBlock = some i ∨ i = rb) ⟨rb, 0, none⟩ _ (.inr rfl))
    have s7 : rb < (w6.setCell ⟨rb, 0, none⟩ (.slice a5 (toB 1000000000 s).length c5)).heap.size := cell_lt r7
    have r6 := hE6.cell r5
    have f6 := (Below.frozen (p := ⟨rb, 0, none⟩) hE6 (cell_lt r5)).trans f5
    have HV7 := Lib.hid V7
    have HN7 := Lib.hid N7
    have HRC : Hid (CellsN .u64 (w6.setCell ⟨rb, 0, none⟩ (.slice a5 (toB 1000000000 s).length c5)) a5 (toB 1000000000 s)) := by
      obtain ⟨a', c', e1, e2, _⟩ := V7.reads
      cases e1
      exact e2
    have HO7 := Lib.hid O7
    have HC7 := Lib.hid C7
    have hz7 : w3.heap.size ≤ (w6.setCell ⟨rb, 0, none⟩ (.slice a5 (toB 1000000000 s).length c5)).heap.size := by have := C7.1; omega
    have HP7 := Lib.hid (And.intro p7 (And.intro q7 (And.intro r7 (And.intro f7 E7))))
    clear V6 V7 O7 C7 N7 HN5 hn6 hE6 E5 p5 q5 r5 f5 HT HV5 HC1 HO5 p7 q7 r7 f7 E7
    gi_wp2
    generalize (w6.setCell ⟨rb, 0, none⟩ (.slice a5 (toB 1000000000 s).length c5)) = W2 at HV7 HO7 HC7 HP7 HRC hz7 s7 ⊢
    clear r6 f6
    gi_loopw [10, 11] (fun lo hi wr => ∃ (L H : Nat), lo = .int .u64 (L : Int) ∧ hi = .int .u64 (H : Int) ∧ H ≤ 1000000000 ∧ L < H ∧ Hid (FindW y s L H) ∧ Hid (Ext W2 wr)) (fun lo hi _ => (intOf hi - intOf lo).toNat)
    case atStart => exact ⟨0, 1000000000, rfl, rfl, Nat.le_refl _, by omega, ⟨by omega, Nat.le_refl _, by rw [Nat.zero_mul]; exact Nat.zero_le _, HSB.out⟩, Ext.refl _⟩
    case round =>
      obtain ⟨L, H, rfl, rfl, hHB, hLH, HF, HE⟩ := hrel
      obtain ⟨D, hD⟩ : ∃ D, D = H - L := ⟨_, rfl⟩
      have hw1 : IntKind.u64.wrap ((H : Int) - (L : Int)) = (D : Int) := by rw [IntKind.wrap_u64]; omega
      obtain ⟨p7, q7, r7, f7, E7⟩ := HP7.out
      have p8 := HE.out.cell p7
      have r8 := HE.out.cell r7
      have HE0 := Lib.hid (E7.trans HE.out)
      by_cases hgt : 1 < D
      · obtain ⟨M, hM⟩ : ∃ M, M = (L + H) / 2 := ⟨_, rfl⟩
        have hw2 : IntKind.u64.wrap ((L : Int) + (H : Int)) = (L : Int) + (H : Int) := by rw [IntKind.wrap_u64]; omega
        have ht1 : ((L : Int) + (H : Int)).tdiv 2 = (M : Int) := by rw [Int.tdiv_eq_ediv_of_nonneg (by omega)]; omega
        have hw3 : IntKind.u64.wrap (M : Int) = (M : Int) := by rw [IntKind.wrap_u64]; omega
        have hgi : (1 : Int) < (D : Int) := by omega
        have hMB : M < 1000000000 := by omega
        have hML : L < M ∧ M < H := by omega
        have hyl := HYB.out M (by omega)
        have HM := Lib.hid hM
        have HD := Lib.hid hD
        have HYL := Lib.hid hyl
        have hdr : Ext W2 wr.drew := HE.out.trans extA
        have hS : wr.drew.cell? ⟨bb, 0, none⟩ = some (.slice b lb.length cb) ∧ wr.drew.cell? ⟨rb, 0, none⟩ = some (.slice a5 (toB 1000000000 s).length c5) := ⟨hdr.cell p7, hdr.cell r7⟩
        by_cases hle : y * M ≤ s
        · obtain ⟨hF1, hF2⟩ := HF.out.low (by omega) hM hle
          have HF1 := Lib.hid hF1
          obtain ⟨z, hz, hz0⟩ : ∃ z, ordN (y * M) s = z ∧ z ≤ 0 := ⟨_, rfl, ordN_le.2 hle⟩
          have HZ := Lib.hid hz
          clear hM hD hle hF1 hz hyl p7 q7 r7 f7 E7
          gi_wp2
          refine round_heldE 99 (fun w' => w'.cell? ⟨bb, 0, none⟩ = some (.slice b lb.length cb) ∧ w'.cell? ⟨rb, 0, none⟩ = some (.slice a5 (toB 1000000000 s).length c5)) (by kernel_rfl) (by kernel_rfl) (fun ⟨_, _, h⟩ => h) ?_
          ((refine eTk 0 ?_); (refine eTk 1 ?_); (refine eTk 3 ?_))
          (refine wpAnyE_one (i := 2) (o := ?_) ?_ (by kernel_rfl) (fun K hK => ?_); rotate_left; (focus ((simp only [List.getElem?_toArray, List.getElem?_cons_succ, List.getElem?_cons_zero]; exact rfl))); go_simp; go_at_call 162; refine (by_any y M lb b cb _ HY.out hMB (by omega) (HB.out.ext (HP7.out.2.2.2.2.trans hdr))).mono ?_; rintro e w8 ⟨pv, rfl, P1, P2, hE8⟩; obtain ⟨pa, pc, rfl, hpc, _, _⟩ := P1.reads; go_wp2_with fail; refine hK.out _ _ ?_ (fun hHeld => ?_); rotate_left; clear hK K; (try simp only [Act.put, List.setIfInBounds_toArray, List.set_cons_zero, List.set_cons_succ]))
          rotate_left
          · exact ⟨hE8.cell hS.1, hE8.cell hS.2⟩
          have hdr2 := hdr.trans hE8
          have hS2 : w8.cell? ⟨bb, 0, none⟩ = some (.slice b lb.length cb) ∧ w8.cell? ⟨rb, 0, none⟩ = some (.slice a5 (toB 1000000000 s).length c5) := ⟨hE8.cell hS.1, hE8.cell hS.2⟩
          have HPC := Lib.hid hpc
          clear hpc P1 P2 hE8 hS
          (refine wpAnyE_one (i := 4) (o := ?_) ?_ (by kernel_rfl) (fun K hK => ?_); rotate_left; (focus ((simp only [List.getElem?_toArray, List.getElem?_cons_succ, List.getElem?_cons_zero]; exact rfl))); go_simp; go_at_call 138; refine (compare_any (y * M) s (toB 1000000000 (y * M)) (toB 1000000000 s) pa a5 pc c5 w8 rfl rfl (by have := HYL.out; omega) (by omega) HPC.out (HRC.out.ext hdr2)).mono ?_; rintro e w9 ⟨rfl, hE9⟩; rw [HZ.out]; go_wp2_with fail; refine hK.out _ _ ?_ (fun hHeld => ?_); rotate_left; clear hK K; (try simp only [Act.put, List.setIfInBounds_toArray, List.set_cons_zero, List.set_cons_succ]))
          rotate_left
          · exact ⟨hE9.cell hS2.1, hE9.cell hS2.2⟩
          have hdr3 := Lib.hid (hdr2.trans hE9)
          clear hE9 hdr2 hS2 hdr
          (refine eTk 5 ?_)
          refine wpAnyE_done (by kernel_rfl) ?_ _
          clear hHeld
          gi_wp2
          refine ⟨⟨_, _, rfl, rfl, by omega, by omega, HF1, hdr3⟩, by simp [intOf]; omega⟩
        · obtain ⟨hF1, hF2⟩ := HF.out.high (by omega) hM (by omega)
          have HF1 := Lib.hid hF1
          obtain ⟨z, hz, hz0⟩ : ∃ z, ordN (y * M) s = z ∧ ¬ z ≤ 0 := ⟨_, rfl, fun h => hle (ordN_le.1 h)⟩
          have HZ := Lib.hid hz
          clear hM hD hle hF1 hz hyl p7 q7 r7 f7 E7
          gi_wp2
          refine round_heldE 99 (fun w' => w'.cell? ⟨bb, 0, none⟩ = some (.slice b lb.length cb) ∧ w'.cell? ⟨rb, 0, none⟩ = some (.slice a5 (toB 1000000000 s).length c5)) (by kernel_rfl) (by kernel_rfl) (fun ⟨_, _, h⟩ => h) ?_
          ((refine eTk 0 ?_); (refine eTk 1 ?_); (refine eTk 3 ?_))
          (refine wpAnyE_one (i := 2) (o := ?_) ?_ (by kernel_rfl) (fun K hK => ?_); rotate_left; (focus ((simp only [List.getElem?_toArray, List.getElem?_cons_succ, List.getElem?_cons_zero]; exact rfl))); go_simp; go_at_call 162; refine (by_any y M lb b cb _ HY.out hMB (by omega) (HB.out.ext (HP7.out.2.2.2.2.trans hdr))).mono ?_; rintro e w8 ⟨pv, rfl, P1, P2, hE8⟩; obtain ⟨pa, pc, rfl, hpc, _, _⟩ := P1.reads; go_wp2_with fail; refine hK.out _ _ ?_ (fun hHeld => ?_); rotate_left; clear hK K; (try simp only [Act.put, List.setIfInBounds_toArray, List.set_cons_zero, List.set_cons_succ]))
          rotate_left
          · exact ⟨hE8.cell hS.1, hE8.cell hS.2⟩
          have hdr2 := hdr.trans hE8
          have hS2 : w8.cell? ⟨bb, 0, none⟩ = some (.slice b lb.length cb) ∧ w8.cell? ⟨rb, 0, none⟩ = some (.slice a5 (toB 1000000000 s).length c5) := ⟨hE8.cell hS.1, hE8.cell hS.2⟩
          have HPC := Lib.hid hpc
          clear hpc P1 P2 hE8 hS
          (refine wpAnyE_one (i := 4) (o := ?_) ?_ (by kernel_rfl) (fun K hK => ?_); rotate_left; (focus ((simp only [List.getElem?_toArray, List.getElem?_cons_succ, List.getElem?_cons_zero]; exact rfl))); go_simp; go_at_call 138; refine (compare_any (y * M) s (toB 1000000000 (y * M)) (toB 1000000000 s) pa a5 pc c5 w8 rfl rfl (by have := HYL.out; omega) (by omega) HPC.out (HRC.out.ext hdr2)).mono ?_; rintro e w9 ⟨rfl, hE9⟩; rw [HZ.out]; go_wp2_with fail; refine hK.out _ _ ?_ (fun hHeld => ?_); rotate_left; clear hK K; (try simp only [Act.put, List.setIfInBounds_toArray, List.set_cons_zero, List.set_cons_succ]))
          rotate_left
          · exact ⟨hE9.cell hS2.1, hE9.cell hS2.2⟩
          have hdr3 := Lib.hid (hdr2.trans hE9)
          clear hE9 hdr2 hS2 hdr
          (refine eTk 5 ?_)
          refine wpAnyE_done (by kernel_rfl) ?_ _
          clear hHeld
          gi_wp2
          refine ⟨⟨_, _, rfl, rfl, by omega, by omega, HF1, hdr3⟩, by simp [intOf]; omega⟩
      · have hLs : L = s / y := HF.out.done (by omega)
        have hgi : ¬ (1 : Int) < (D : Int) := by omega
        have hnq : n < q.length := by omega
        obtain ⟨s1, s2⟩ := (HO7.out.ext HE.out).at hnq
        have q8 := HE.out.cell q7
        have O8 : OwnsN .u64 153 (wr.setCell ⟨g, n, none⟩ (.int .u64 (L : Int))) (.slice (some ⟨g, 0, none⟩) la.length la.length) (q.set n L) := (HO7.out.ext HE.out).set n L
        have V8 : OwnsN .u64 153 (wr.setCell ⟨g, n, none⟩ (.int .u64 (L : Int))) (.slice a5 (toB 1000000000 s).length c5) (toB 1000000000 s) := (HV7.out.ext HE.out).same (fun i hi => Below.heap_setCell _ ⟨g, n, none⟩ _ i (fun e => by have := HN7.out i hi; dsimp only at e; omega))
        have P8 : (wr.setCell ⟨g, n, none⟩ (.int .u64 (L : Int))).cell? ⟨bb, 0, none⟩ = some (.slice b lb.length cb) := by
          rw [World.cell?_setCell_other _ _ _ _ (fun h => by simp only [Addr.mk.injEq] at h; omega)]; exact p8
        have Q8 : (wr.setCell ⟨g, n, none⟩ (.int .u64 (L : Int))).cell? ⟨qb, 0, none⟩ = some (.slice (some ⟨g, 0, none⟩) la.length la.length) := by
          rw [World.cell?_setCell_other _ _ _ _ (fun h => by simp only [Addr.mk.injEq] at h; omega)]; exact q8
        have R8 : (wr.setCell ⟨g, n, none⟩ (.int .u64 (L : Int))).cell? ⟨rb, 0, none⟩ = some (.slice a5 (toB 1000000000 s).length c5) := by
          rw [World.cell?_setCell_other _ _ _ _ (fun h => by simp only [Addr.mk.injEq] at h; omega)]; exact r8
        have F8 : (wr.setCell ⟨g, n, none⟩ (.int .u64 (L : Int))).frozen? ⟨rb, 0, none⟩ = false := by rw [World.frozen?_setCell]; exact (Below.frozen (p := ⟨rb, 0, none⟩) HE.out s7).trans f7
        have E8 : Ext w0 (wr.setCell ⟨g, n, none⟩ (.int .u64 (L : Int))) := (E7.trans HE.out).set hwg _
        have C8 : Chg (fun i => v.ownBlock = some i ∨ i = rb ∨ i = g) W (wr.setCell ⟨g, n, none⟩ (.int .u64 (L : Int))) := ((HC7.out.mono (fun i hi => hi.imp id .inl)).trans (Chg.ext HE.out)).trans (Chg.setCell (B := fun i => v.ownBlock = some i ∨ i = rb ∨ i = g) ⟨g, n, none⟩ _ (.inr (.inr rfl)))
        have hz8 : w3.heap.size ≤ (wr.setCell ⟨g, n, none⟩ (.int .u64 (L : Int))).heap.size := by have := C8.1; omega
        have HRC8 : Hid (CellsN .u64 (wr.setCell ⟨g, n, none⟩ (.int .u64 (L : Int))) a5 (toB 1000000000 s)) := by
          obtain ⟨a', c', e1, e2, _⟩ := V8.reads
          cases e1
          exact e2
        have HA8 := Lib.hid (And.intro O8 (And.intro Q8 (And.intro E8 C8)))
        have HP8 := Lib.hid (And.intro P8 (And.intro R8 F8))
        have HL := Lib.hid hLs
        have hLm : L ≤ 1000000000 := by omega
        have hyl := HYB.out L hLm
        have hLy : y * L ≤ s := by rw [Nat.mul_comm]; exact HF.out.lo
        have HLY := Lib.hid hLy
        have HYL := Lib.hid hyl
        clear O8 V8 P8 Q8 R8 F8 E8 C8 HV7 HO7 HC7 HP7 HRC p7 r7 q7 f7 E7 p8 r8 hD HF hLs hyl hLy hHB HE HE0
        gi_wp2
        generalize (wr.setCell ⟨g, n, none⟩ (.int .u64 (L : Int))) = W8 at HA8 HP8 HRC8 hz8 ⊢
        clear s1 s2 q8 hw1 hgi
        have hdr : Ext W8 W8.drew := extA
        obtain ⟨hP8, hR8, hF8⟩ := HP8.out
        have hS : W8.drew.cell? ⟨bb, 0, none⟩ = some (.slice b lb.length cb) ∧ W8.drew.cell? ⟨rb, 0, none⟩ = some (.slice a5 (toB 1000000000 s).length c5) := ⟨hdr.cell hP8, hdr.cell hR8⟩
        refine round_heldE 5 (fun w' => w'.cell? ⟨bb, 0, none⟩ = some (.slice b lb.length cb) ∧ w'.cell? ⟨rb, 0, none⟩ = some (.slice a5 (toB 1000000000 s).length c5)) (by kernel_rfl) (by kernel_rfl) (fun ⟨_, _, h⟩ => h) ?_
        ((refine eTk 0 ?_); (refine eTk 1 ?_); (refine eTk 2 ?_))
        (refine wpAnyE_one (i := 3) (o := ?_) ?_ (by kernel_rfl) (fun K hK => ?_); rotate_left; (focus ((simp only [List.getElem?_toArray, List.getElem?_cons_succ, List.getElem?_cons_zero]; exact rfl))); go_simp; go_at_call 162; refine (by_any y L lb b cb _ HY.out (by have := HN.out.1; have := HL.out; omega) (by omega) (HB.out.ext (HA8.out.2.2.1.trans hdr))).mono ?_; rintro e w9 ⟨pv, rfl, P1, P2, hE9⟩; obtain ⟨pa, pc, rfl, hpc, _, _⟩ := P1.reads; go_wp2_with fail; refine hK.out _ _ ?_ (fun hHeld => ?_); rotate_left; clear hK K; (try simp only [Act.put, List.setIfInBounds_toArray, List.set_cons_zero, List.set_cons_succ]))
        rotate_left
        · exact ⟨hE9.cell hS.1, hE9.cell hS.2⟩
        have hdr2 := hdr.trans hE9
        have hS2 : w9.cell? ⟨bb, 0, none⟩ = some (.slice b lb.length cb) ∧ w9.cell? ⟨rb, 0, none⟩ = some (.slice a5 (toB 1000000000 s).length c5) := ⟨hE9.cell hS.1, hE9.cell hS.2⟩
        have HPC := Lib.hid hpc
        clear hpc P1 P2 hE9 hS
        (refine wpAnyE_one (i := 4) (o := ?_) ?_ (by kernel_rfl) (fun K hK => ?_); rotate_left; (focus ((simp only [List.getElem?_toArray, List.getElem?_cons_succ, List.getElem?_cons_zero]; exact rfl))); go_simp; go_at_call 142; refine (minus_any s (y * L) (toB 1000000000 s) (toB 1000000000 (y * L)) a5 pa c5 pc w9 rfl rfl HLY.out (by omega) (HRC8.out.ext hdr2) HPC.out).mono ?_; rintro e w10 ⟨nv, rfl, N1, N2, hE10⟩; obtain ⟨na, nc, rfl, _, _, _⟩ := N1.reads; go_wp2_with fail; refine hK.out _ _ ?_ (fun hHeld => ?_); rotate_left; clear hK K; (try simp only [Act.put, List.setIfInBounds_toArray, List.set_cons_zero, List.set_cons_succ]))
        rotate_left
        · exact ⟨hE10.cell hS2.1, hE10.cell hS2.2⟩
        have hdr3 := hdr2.trans hE10
        have r10 := hE10.cell hS2.2
        have f10 : w10.frozen? ⟨rb, 0, none⟩ = false := (Below.frozen (p := ⟨rb, 0, none⟩) hdr3 (cell_lt hR8)).trans hF8
        have HN2 : ∀ i, (Value.slice na (toB 1000000000 (s - y * L)).length nc).ownBlock = some i → w3.heap.size ≤ i := fun i hi => by have h1 := N2 i hi; have h2 := hdr2.size; omega
        obtain ⟨O8, Q8, E8, C8⟩ := HA8.out
        have hmod : s - y * L = s % y := by
          have := Nat.div_add_mod s y
          rw [← HL.out] at this
          omega
        have OW : OverW la lb y b cb g bb qb rb w3.heap.size w0 (k + 1) (w10.setCell ⟨rb, 0, none⟩ (.slice na (toB 1000000000 (s - y * L)).length nc)) := by
          refine ⟨(E8.trans hdr3).set hwr _, ?_, ?_, ?_, s % y, q.set n L, _, ?_, (O8.ext hdr3).same (fun i hi => by cases hi; exact Below.heap_setCell _ ⟨rb, 0, none⟩ _ g hgr), World.cell?_setCell_same w10 ⟨rb, 0, none⟩ _ r10, ?_, HN2⟩
          · rw [World.cell?_setCell_other _ _ _ _ (fun h => by simp only [Addr.mk.injEq] at h; omega)]; exact hdr3.cell hP8
          · rw [World.cell?_setCell_other _ _ _ _ (fun h => by simp only [Addr.mk.injEq] at h; omega)]; exact hdr3.cell Q8
          · rw [World.frozen?_setCell]; exact f10
          · rw [e2, HL.out]; exact HN.out.2
          · rw [← hmod]; exact N1.same (fun i hi => Below.heap_setCell _ ⟨rb, 0, none⟩ _ i (fun e => by have := HN2 i hi; dsimp only at e; omega))
        have HOW := Lib.hid OW
        have HCC := Lib.hid ((C8.trans (Chg.ext hdr3)).trans (Chg.setCell (B := fun i => v.ownBlock = some i ∨ i = rb ∨ i = g) (A := w10) ⟨rb, 0, none⟩ (.slice na (toB 1000000000 (s - y * L)).length nc) (.inr (.inl rfl))))
        clear N1 N2 hE10 hS2 hdr2 hdr3 hdr hP8 hR8 hF8 HPC O8 Q8 E8 C8 OW hmod HN2
        (refine wpAnyE_free (i := 5) (o := ?_) ?_ (by kernel_rfl) (by kernel_rfl) (fun K hK => ?_); rotate_left; (focus ((simp only [List.getElem?_toArray, List.getElem?_cons_succ, List.getElem?_cons_zero]; exact rfl))); go_simp; refine hK.out _ _ ?_; clear hK K; (try simp only [Act.put, List.setIfInBounds_toArray, List.set_cons_zero, List.set_cons_succ]))
        refine wpAnyE_done (by kernel_rfl) ?_ _
        clear hHeld
        refine ⟨⟨fun i => v.ownBlock = some i ∨ i = rb ∨ i = g, HCC.out, ?_, ?_⟩, HOW.out⟩
        · rintro i (h | rfl | rfl)
          · have := HVN.out i h
            exact ⟨by omega, by omega⟩
          · exact ⟨fun e => hsr e.symm, hwr⟩
          · exact ⟨fun e => hsg e.symm, hwg⟩
        · rintro i (h | rfl | rfl) o ho
          · exact HCELL.out.1 i h o ho
          · exact HCELL.out.2.1 o ho
          · exact HCELL.out.2.2 o ho
end Go.Proofs.YtlhpfhnbeagnaaaGreatDoor
namespace Go.Proofs.YtlhpfhnbeagnaaaGreatDoor
open Go.RowKit
attribute [local go_sem] Oper.semAt_some
def OwnNPost2 (k : IntKind) (t : TypeId) (l m : List Nat) (w : World) (e : Ending) (w' : World) : Prop :=
  ∃ v u, e = .returned (.tuple #[v, u]) ∧ OwnsN k t w' v l ∧ OwnsN k t w' u m ∧ (∀ b, v.ownBlock = some b → w.heap.size ≤ b) ∧ (∀ b, u.ownBlock = some b → w.heap.size ≤ b) ∧ Ext w w'
set_option maxHeartbeats 4000000 in
set_option maxRecDepth 100000 in
theorem over_any (x y : Nat) (la lb : List Nat) (a b : Option Addr) (ca cb : Nat) (w : World) (hx : la = toB 1000000000 x) (hy : lb = toB 1000000000 y) (hy0 : 0 < y)
    (hla : la.length ≤ 100) (hlb : lb.length ≤ 100) (ha : CellsN .u64 w a la) (hb : CellsN .u64 w b lb) :
    Calls Tryz.prog 147 #[.slice a la.length ca, .slice b lb.length cb] w (OwnNPost2 .u64 153 (toB 1000000000 (x / y)) (toB 1000000000 (x % y)) w) := by
  have HX := Lib.hid hx
  have HY := Lib.hid hy
  have HA := Lib.hid ha
  have HB := Lib.hid hb
  have HOA : Hid (OkB 1000000000 la) := by show OkB _ _; rw [hx]; exact okB_toB (by omega) x
  clear hx hy ha hb
  obtain ⟨w1, hw1⟩ : ∃ w1, w1 = w.alloc (.cells #[.slice b lb.length cb] 155) := ⟨_, rfl⟩
  have hs1 : w1.heap.size = w.heap.size + 1 := by rw [hw1]; simp
  have hmk : (Instr.makeSlice 155 (.int .i64 (la.length : Int)) (.int .i64 (la.length : Int))).run Tryz.prog w1 = .ok (.slice (some ⟨w1.heap.size, 0, none⟩) la.length la.length) (w1.alloc (.cells (madeCells #[.int .u64 0] la.length) 153)) :=
    run_make_row' _ _ (.int .u64 0) 8 Tryz.underlying155 infoU64 rfl _ _ la.length (by omega) (by omega) w1
  obtain ⟨w2, hw2⟩ : ∃ w2, w2 = w1.alloc (.cells (madeCells #[.int .u64 0] la.length) 153) := ⟨_, rfl⟩
  rw [← hw2] at hmk
  have hs2 : w2.heap.size = w.heap.size + 1 + 1 := by rw [hw2]; simp [hs1]
  have E2 : Ext w w2 := by rw [hw2, hw1]; exact extA
  have O2 : OwnsN .u64 153 w2 (.slice (some ⟨w1.heap.size, 0, none⟩) la.length la.length) (List.replicate la.length 0) := by rw [hw2]; exact madeN _ _ w1 _ (by omega)
  have b2 : w2.cell? ⟨w.heap.size, 0, none⟩ = some (.slice b lb.length cb) := by rw [hw2, hw1]; go_simp
  rw [hs1] at O2 hmk
  have E3 : Ext w2 (((w2.alloc (.cells #[.slice (some ⟨w.heap.size + 1, 0, none⟩) la.length la.length] 155)).alloc (.cells #[.slice none 0 0] 155)).alloc (.cells #[.slice a la.length ca] 155)) := extA
  have hs3 : ((w2.alloc (.cells #[.slice (some ⟨w.heap.size + 1, 0, none⟩) la.length la.length] 155)).alloc (.cells #[.slice none 0 0] 155)).heap.size = w.heap.size + 1 + 1 + 1 + 1 := by simp [hs2]
  have q3 : (((w2.alloc (.cells #[.slice (some ⟨w.heap.size + 1, 0, none⟩) la.length la.length] 155)).alloc (.cells #[.slice none 0 0] 155)).alloc (.cells #[.slice a la.length ca] 155)).cell? ⟨w2.heap.size, 0, none⟩ = some (.slice (some ⟨w.heap.size + 1, 0, none⟩) la.length la.length) := by go_simp
  have r3 : (((w2.alloc (.cells #[.slice (some ⟨w.heap.size + 1, 0, none⟩) la.length la.length] 155)).alloc (.cells #[.slice none 0 0] 155)).alloc (.cells #[.slice a la.length ca] 155)).cell? ⟨w2.heap.size + 1, 0, none⟩ = some (.slice none 0 0) := by go_simp
  have f3 : (((w2.alloc (.cells #[.slice (some ⟨w.heap.size + 1, 0, none⟩) la.length la.length] 155)).alloc (.cells #[.slice none 0 0] 155)).alloc (.cells #[.slice a la.length ca] 155)).frozen? ⟨w2.heap.size + 1, 0, none⟩ = false := by go_simp
  have s3 : (((w2.alloc (.cells #[.slice (some ⟨w.heap.size + 1, 0, none⟩) la.length la.length] 155)).alloc (.cells #[.slice none 0 0] 155)).alloc (.cells #[.slice a la.length ca] 155)).cell? ⟨w2.heap.size + 1 + 1, 0, none⟩ = some (.slice a la.length ca) := by go_simp
  rw [hs2] at q3 r3 f3 s3
  have EV := E2.trans E3
  have HW : Hid (OverW la lb y b cb (w.heap.size + 1) w.heap.size (w.heap.size + 1 + 1) (w.heap.size + 1 + 1 + 1) (((w2.alloc (.cells #[.slice (some ⟨w.heap.size + 1, 0, none⟩) la.length la.length] 155)).alloc (.cells #[.slice none 0 0] 155)).alloc (.cells #[.slice a la.length ca] 155)).heap.size w 0 (((w2.alloc (.cells #[.slice (some ⟨w.heap.size + 1, 0, none⟩) la.length la.length] 155)).alloc (.cells #[.slice none 0 0] 155)).alloc (.cells #[.slice a la.length ca] 155))) := by
    refine ⟨EV, E3.cell b2, q3, f3, 0, _, _, OverI.start (by omega) la hy0, O2.ext E3, r3, ?_, fun b hb => by cases hb⟩
    rw [toB_zero]; exact OwnsN.nil _ _ _
  have hw1' := hw1.symm
  have HW1 := Lib.hid hw1
  have HW2 := Lib.hid hw2
  clear hw2 hw1 b2 E2 E3 O2 q3 r3 f3
  refine (callsIn_wide (n := 0)).1 ?_
  refine callsIn_of_wp_marks Tryz.func147 rfl trivial ?_
  simp only [Tryz.ntmps147, List.size_toArray, List.length_cons, List.length_nil, Nat.reduceAdd, Nat.reduceSub, Array.replicate_succ, Array.replicate_zero, List.push_toArray, List.append_toArray, List.nil_append, List.cons_append]
  gi_wp2_with fail
  refine ⟨trivial, rfl, ?_⟩
  gi_at_call 156
  refine (callsIn_wide.2 (Backward_any a la.length ca _)).mono ?_
  rintro e w3 ⟨rfl, rfl⟩
  rw [hs3]
  clear hs3 hmk hw1' hs1
  generalize (((w2.alloc (.cells #[.slice (some ⟨w.heap.size + 1, 0, none⟩) la.length la.length] 155)).alloc (.cells #[.slice none 0 0] 155)).alloc (.cells #[.slice a la.length ca] 155)) = w3 at EV s3 HW ⊢
  have hz3 := EV.size
  have hsz : w.heap.size + 1 + 1 + 1 + 1 < w3.heap.size := cell_lt s3
  gi_wp2_with fail
  refine wpIn_wide.2 (over_range _ _ rfl y la lb a b ca cb w w3 (w.heap.size + 1 + 1 + 1 + 1) (w.heap.size + 1) w.heap.size (w.heap.size + 1 + 1) (w.heap.size + 1 + 1 + 1) hla hlb HOA.out HY.out hy0 HA.out HB.out EV s3 HW.out (by omega) (by omega) (by omega) (by omega) (by omega) (by omega) (by omega) (by omega) (by omega) (by omega) (by omega) _ _ _ _ _ _ _ _ _ _ _ _ _ _ _ _ _ _ _ _ _ _ _ _ _ _ _ _ _ _ _ _ _ _ _ _ _ _ _ _ _ _ _ _ _ _ _ [] _ ?_)
  intro D W k1 k2 hW hD
  clear HW s3
  obtain ⟨r, q, v, hI, hO, r4, hV, hvn⟩ := hW.st
  have q4 := hW.pq
  have E4 := hW.ext
  rw [Nat.sub_self] at hI
  have hql : q.length = la.length := hI.len
  have hdone := hI.done (by omega)
  rw [HX.out, valB_toB (by omega)] at hdone
  rw [← hql] at q4 hO
  obtain ⟨_, _, hov, hoc, hor, _⟩ := hO.reads
  cases hov
  clear hql
  obtain ⟨ra, rc, rfl, _, _, _⟩ := hV.reads
  have HR := Lib.hid (trimmed_any q (some ⟨w.heap.size + 1, 0, none⟩) q.length)
  have HC := Lib.hid (And.intro hoc hor)
  have HDN := Lib.hid hdone
  have HO := Lib.hid hO
  have HV := Lib.hid hV
  have HVN := Lib.hid hvn
  have HD := Lib.hid hD
  clear hI hoc hor hO hD hW hV hvn hdone EV
  have hdr : Ext W W.drew := extA
  have hS : W.drew.cell? ⟨w.heap.size + 1 + 1, 0, none⟩ = some (.slice (some ⟨w.heap.size + 1, 0, none⟩) q.length q.length) ∧ W.drew.cell? ⟨w.heap.size + 1 + 1 + 1, 0, none⟩ = some (.slice ra (toB 1000000000 r).length rc) := ⟨hdr.cell q4, hdr.cell r4⟩
  gi_wp2_with fail
  refine wide_heldE 99 (fun w' => w'.cell? ⟨w.heap.size + 1 + 1, 0, none⟩ = some (.slice (some ⟨w.heap.size + 1, 0, none⟩) q.length q.length) ∧ w'.cell? ⟨w.heap.size + 1 + 1 + 1, 0, none⟩ = some (.slice ra (toB 1000000000 r).length rc)) (by kernel_rfl) ?_
  ((refine eTk 0 ?_); (refine eTk 2 ?_))
  (refine wpAnyE_one (i := 1) (o := ?_) ?_ (by kernel_rfl) (fun K hK => ?_); rotate_left; (focus ((simp only [List.getElem?_toArray, List.getElem?_cons_succ, List.getElem?_cons_zero]; exact rfl))); go_simp; go_at_call 160; refine (HR.out W.drew HC.out.2 (HC.out.1.ext hdr)).mono ?_; rintro e w5 ⟨rfl, hn5, hE5⟩; go_wp2_with fail; refine hK.out _ _ ?_ (fun hHeld => ?_); rotate_left; clear hK K; (try simp only [Act.put, List.setIfInBounds_toArray, List.set_cons_zero, List.set_cons_succ]))
  rotate_left
  · exact ⟨hE5.cell hS.1, hE5.cell hS.2⟩
  have hdr2 := hdr.trans hE5
  have hS2 : w5.cell? ⟨w.heap.size + 1 + 1, 0, none⟩ = some (.slice (some ⟨w.heap.size + 1, 0, none⟩) q.length q.length) ∧ w5.cell? ⟨w.heap.size + 1 + 1 + 1, 0, none⟩ = some (.slice ra (toB 1000000000 r).length rc) := ⟨hE5.cell hS.1, hE5.cell hS.2⟩
  ((refine eTk 3 ?_); (refine eTk 4 ?_))
  refine wpAnyE_done (by kernel_rfl) ?_ _
  refine NoPanic.normal ?_
  have HO6 := Lib.hid ((HO.out.ext hdr2).trim hn5)
  have HV6 := Lib.hid (HV.out.ext hdr2)
  have HD6 := Lib.hid ((Below.block hdr2 D k2).trans HD.out)
  have E6 := E4.trans hdr2
  clear hn5 hE5 hS hS2 hdr2 hdr HO HV HD hHeld q4 r4 E4
  gi_wp2
  refine leaves_cells (v := .tuple #[.slice (some ⟨w.heap.size + 1, 0, none⟩) (trimL q).length q.length, .slice ra (toB 1000000000 r).length rc]) (n := w3.heap.size) [mark D] _ ⟨[D], rfl, by simp, fun E hE => by simp at hE; subst hE; exact ⟨k1, HD6.out⟩⟩ (fun W6 hk => ?_)
  refine ⟨(results_tmp2 (t := 4) (u := 5) rfl _ _ _).trans rfl, _, _, rfl, ?_, ?_, fun b hb => by cases hb; exact Nat.le_succ _, fun b hb => by have := HVN.out b hb; omega, E6.trans' hk.1 hz3⟩
  · rw [← HDN.out.1]; exact rowKeep HO6.out hk
  · rw [← HDN.out.2]; exact rowKeep HV6.out hk
end Go.Proofs.YtlhpfhnbeagnaaaGreatDoor
