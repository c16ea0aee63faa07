/- Steps of the proof: LTac. No conditions. -/
import Derived.Test.YtbpjbhbbkonjlaaGreatDoorZTB1
import Derived.Test.YtbpjbhbbkonjlaaGreatDoorZTB2
import Derived.Test.YtbpjbhbbkonjlaaGreatDoorZTB3
import Derived.Test.YtbpjbhbbkonjlaaGreatDoorZTB4
import Derived.Test.YtbpjbhbbkonjlaaGreatDoorZTB5
import Derived.Test.YtbpjbhbbkonjlaaGreatDoorZTB6
import Derived.Test.YtbpjbhbbkonjlaaGreatDoorZTB7
import Derived.Test.YtbpjbhbbkonjlaaGreatDoorZTB8
import Derived.Test.YtbpjbhbbkonjlaaGreatDoorZTB9
import Derived.Test.YtbpjbhbbkonjlaaGreatDoorZTB10
import Derived.Test.YtbpjbhbbkonjlaaGreatDoorZTB11
import Derived.Test.YtbpjbhbbkonjlaaGreatDoorZTB12
namespace Go.Proofs.YtbpjbhbbkonjlaaGreatDoor
open Go.RowKit
theorem badC_no {l : List Cyl} (h : badC l = false) : cylsE l = 0 := by
  unfold badC at h
  rw [decide_eq_false_iff_not] at h
  omega
theorem badC_all : ∀ {l : List Cyl}, cylsE l = 0 → ∀ c ∈ l, cylE c = 0 := by
  intro l
  induction l with
  | nil => intro _ c hc; cases hc
  | cons d l ih =>
    intro h c hc
    unfold cylsE at h
    split at h
    · rename_i h1; exact absurd h h1
    · rename_i h1
      rcases List.mem_cons.1 hc with rfl | hc
      · omega
      · exact ih h c hc
theorem stroke_lit {c : Cyl} (h : CylOk c) (o : Bool) {p : Int} (h1 : 1 ≤ p) (h2 : p ≤ 2000) : strokeS c o p = (sumT (litN c o p), 0) := by
  unfold strokeS
  rw [if_neg (not_not_intro (pres_of h h1 h2)), litT_is]
structure WdAt (s : Nat) (w : World) (a : Option Addr) (l : List Stk) : Prop where
  cells : CellsK w a l
  away : ∀ i, i < l.length → ∀ b off, a = some ⟨b, off, none⟩ → b ≠ s
theorem WdAt.ext {s : Nat} {w w' : World} {a : Option Addr} {l : List Stk} (h : WdAt s w a l) (e : Ext w w') : WdAt s w' a l := ⟨h.cells.ext e, h.away⟩
theorem WdAt.set {s : Nat} {w : World} {a : Option Addr} {l : List Stk} (h : WdAt s w a l) (o : Nat) (v : Value) : WdAt s (w.setCell ⟨s, o, none⟩ v) a l := ⟨fun i hi => by
  obtain ⟨b, off, h1, h2, h3⟩ := h.cells i hi
  have hn := h.away i hi b off h1
  refine ⟨b, off, h1, ?_, ?_⟩
  · rw [World.cell?_setCell_other _ _ _ _ (fun e => by simp only [Addr.mk.injEq] at e; exact hn e.1.symm)]; exact h2
  · rw [World.cell?_setCell_other _ _ _ _ (fun e => by simp only [Addr.mk.injEq] at e; exact hn e.1.symm)]; exact h3, h.away⟩
theorem intsAt_other {w : World} {b : Nat} {d : List Int} (h : IntsAt w b d) {c o : Nat} {v : Value} (hn : c ≠ b) : IntsAt (w.setCell ⟨c, o, none⟩ v) b d := fun i hi => by
  obtain ⟨k1, k2⟩ := h i hi
  exact ⟨by rw [World.cell?_setCell_other _ _ _ _ (fun h => by simp only [Addr.mk.injEq] at h; exact hn h.1)]; exact k1, by rw [World.frozen?_setCell]; exact k2⟩
theorem intsAt_cells {w : World} {b : Nat} {d : List Int} (h : IntsAt w b d) : CellsI w (some ⟨b, 0, none⟩) d := fun i hi => ⟨b, 0, rfl, by rw [Nat.zero_add]; exact (h i hi).1⟩
theorem back_is {m : Nat} {d : List Int} (hl : d.length = m) (h : ∀ j, j < m → d.getD j 0 = ((m - 1 - j : Nat) : Int)) : d = backT m := by
  refine List.ext_getElem (by rw [hl, backT_len]) fun i h1 h2 => ?_
  have e1 := h i (by omega)
  have e2 := backT_at (m := m) (k := i) (by omega)
  rw [List.getD_eq_getElem?_getD, List.getElem?_eq_getElem h1] at e1
  rw [List.getD_eq_getElem?_getD, List.getElem?_eq_getElem h2] at e2
  exact e1.trans e2.symm
set_option maxHeartbeats 64000000 in
set_option maxRecDepth 100000 in
theorem topAir_any (l : List Cyl) (ca : Option Addr) (cc : Nat) (n : Int) (st : List Stp) (a : Option Addr) (cap : Nat) (q : Int) (w : World) (hG : Glob w) (hc : CellsC w ca l) (h64 : ∀ c ∈ l, Cyl64 c) (hlm : l.length ≤ maxLen) (hs : CellsP w a st) (hsl : st.length ≤ maxLen) (hq0 : 0 ≤ q) (hq1 : q ≤ 255) :
    Calls Tryz.prog 3 #[.agg #[.int .i64 n, .slice a st.length cap], .slice ca l.length cc, .int .u8 q] w fun e w' => e = .returned (.bool true) ∧ Ext w w' := by
  have HG := Lib.hid hG
  have HC := Lib.hid hc
  have HT := Lib.hid (fun W => tryStock_any W)
  have HKR := Lib.hid (fun W (g : Ext w W) => CheckR_any n st a cap W hsl (hs.ext g))
  have HCN := Lib.hid (fun W (g : Ext w W) (hl100 : l.length ≤ 100) => ContainsC_any l ca cc W hl100 (hc.ext g) h64)
  have HX := fun W (g : Ext w W) => aCycle_any l n st (1 + q) ca cc a cap W (HG.out.ext g) (by have := hlm; unfold maxLen at this; omega) (hc.ext g) (hs.ext g) hsl
  have HWD := Lib.hid (fun W (g : Ext w W) => Word_any n st a cap W hsl (hs.ext g))
  have HPT : Hid (∀ W, Ext w W → Calls Tryz.prog 11 #[txt [48]] W (EncP (([48], [48]), 0) W)) := fun W g => by
    have h := ePoint_any [48] W (HG.out.ext g) (by decide)
    rwa [show pointE [48] = (([48], [48]), 0) by decide +kernel] at h
  have HSR := Lib.hid (fun (c : Cyl) o W (g : Ext w W) => aStroke_any c o (1 + q) W (HG.out.ext g))
  have HAD := Lib.hid (fun (M N : Int) (W : World) (g : Ext w W) (hM : 0 ≤ M) (hN : 0 ≤ N) (h : M + N ≤ 10 ^ 20) => by
    have hh := sum_add hM hN h
    have h1 := eAdd_any (sumT M) (sumT N) W (HG.out.ext g) hh.2.1 hh.2.2.1
    rw [hh.1] at h1
    exact h1)
  have HRN := Lib.hid (fun (t : List Int) ta tc W (g : Ext w W) (h1 : t.length ≤ tc) (h2 : tc ≤ maxLen) (h3 : CellsI W ta t) => Rename_any n st a cap t ta tc W hsl (hs.ext g) h1 h2 h3)
  unfold CycP at HX
  clear hG hc hs
  have c0 : ((w.alloc (.cells #[.int .i64 n, .slice a st.length cap] 24))).cell? ⟨w.heap.size, 0, none⟩ = some (.int .i64 n) := by go_simp
  have c1 : ((w.alloc (.cells #[.int .i64 n, .slice a st.length cap] 24))).cell? ⟨w.heap.size, 1, none⟩ = some (.slice a st.length cap) := by go_simp
  have E : Ext w (w.alloc (.cells #[.int .i64 n, .slice a st.length cap] 24)) := extA
  have HSL := Lib.hid hsl
  unfold maxLen at hsl
  by_cases h1 : 4 < n
  · go_enter Tryz.func3, Tryz.ntmps3
    go_wp2_with (go_at_call 8; refine (HT.out _).mono ?_; rintro e wz ⟨rfl, hE⟩)
    go_ret
    exact ⟨rfl, E.trans hE⟩
  by_cases h2 : 8 < st.length
  · have k2 : (8 : Int) < (st.length : Int) := by omega
    go_enter Tryz.func3, Tryz.ntmps3
    go_wp2_with (go_at_call 8; refine (HT.out _).mono ?_; rintro e wz ⟨rfl, hE⟩)
    go_ret
    exact ⟨rfl, E.trans hE⟩
  have k2 : ¬ (8 : Int) < (st.length : Int) := by omega
  obtain ⟨er, her⟩ : ∃ er, er = ckSeq (n, st) := ⟨_, rfl⟩
  rw [← her] at HKR
  have HER := Lib.hid her
  obtain ⟨bd, hbd⟩ : ∃ bd, bd = badC l := ⟨_, rfl⟩
  rw [← hbd] at HCN
  have HBD := Lib.hid hbd
  clear her hbd
  go_enter Tryz.func3, Tryz.ntmps3
  go_wp2_with fail
  generalize (w.alloc (.cells #[.int .i64 n, .slice a st.length cap] 24)) = w0 at c0 c1 E ⊢
  refine (HKR.out _ E).mono ?_
  rintro e w2 ⟨rfl, hE⟩
  replace E := E.trans hE
  have c0 := (hE).cell c0
  have c1 := (hE).cell c1
  have z0 := cell_lt c0
  dsimp only at z0
  clear hE
  by_cases h3 : er = 0
  rotate_left
  · clear HER
    go_wp2_with (go_at_call 8; refine (HT.out _).mono ?_; rintro e wz ⟨rfl, hE⟩)
    go_ret
    exact ⟨rfl, E.trans hE⟩
  subst h3
  by_cases h4 : (l.length : Int) = n
  rotate_left
  · skip
    go_wp2_with (go_at_call 8; refine (HT.out _).mono ?_; rintro e wz ⟨rfl, hE⟩)
    go_ret
    exact ⟨rfl, E.trans hE⟩
  have HN := Lib.hid h4
  go_wp2_with fail
  refine (HCN.out _ E (by omega)).mono ?_
  rintro e w3 ⟨rfl, hE⟩
  replace E := E.trans hE
  have c0 := (hE).cell c0
  have c1 := (hE).cell c1
  have z0 := cell_lt c0
  dsimp only at z0
  clear hE
  cases bd
  rotate_left
  · skip
    go_wp2_with (go_at_call 8; refine (HT.out _).mono ?_; rintro e wz ⟨rfl, hE⟩)
    go_ret
    exact ⟨rfl, E.trans hE⟩
  obtain ⟨hN1, hN6, _, hl64, hwk, _, _⟩ := ckSeq_zero HER.out.symm
  have HOK : Hid (CycOk l n st (1 + q)) := ⟨HN.out, hN1, hN6, hl64, ckWalk_fine hwk, cylsE_zero (badC_no HBD.out.symm), by omega, by omega⟩
  obtain ⟨p, hp⟩ : ∃ p, p = 1 + q := ⟨_, rfl⟩
  have u1 : IntKind.i64.wrap q = q := IntWalk.i64_in _ (by omega)
  have u2 : IntKind.i64.wrap (1 + q) = p := by rw [hp]; exact IntWalk.i64_in _ (by omega)
  rw [← hp] at HX HSR HOK
  have hpb : 1 ≤ p ∧ p ≤ 256 := by omega
  clear hp
  obtain ⟨wd, hwd⟩ : ∃ wd, wd = wordL st := ⟨_, rfl⟩
  have hR : cycS l n st p = (sumT (strN l p wd), 0) := by
    unfold cycS
    rw [if_neg (not_not_intro HER.out.symm), if_neg (not_not_intro HN.out), if_neg (not_not_intro (badC_no HBD.out.symm)), if_neg, hwd]
    unfold presE1 presB
    rw [if_neg (by simp only [Bool.or_eq_true, decide_eq_true_eq]; omega)]
    decide
  have HBB : Hid (∀ k, 0 ≤ strN l p (wd.take k) ∧ strN l p (wd.take k) ≤ 384 * 1575750000000) := fun k => by
    rw [hwd]; exact HOK.out.bd k
  have hAL := HBB.out wd.length
  rw [List.take_length] at hAL
  rw [hR] at HX
  have HCU : Hid (∀ W, Calls Tryz.prog 10 #[encV (sumT (strN l p wd))] W fun e w' => e = .returned (.int .i64 0) ∧ Ext W w') := fun W => by
    have hg := (sum_good hAL.1 (by omega)).1
    have h := rCheck2_any (sumT (strN l p wd)) W hg.len
    rw [hg.ok] at h
    exact h
  have HW2 : Hid (∀ W, Ext w W → Calls Tryz.prog 12 #[.agg #[.int .i64 n, .slice a st.length cap]] W fun e w' => ∃ v, e = .returned (.tuple #[v, .int .i64 0]) ∧ OwnsK w' v wd ∧ (∀ b, v.ownBlock = some b → W.heap.size ≤ b) ∧ Ext W w') := fun W g => by
    have h := HWD.out W g
    rw [← HER.out, if_pos rfl, ← hwd] at h
    exact h
  have HAT : Hid (∀ k, k < wd.length → ∃ i : Nat, (wd.getD k stk0).1 = (i : Int) ∧ i < l.length ∧ CylOk (l.getD i cyl0) ∧ (∀ o, 0 ≤ litN (l.getD i cyl0) o p ∧ litN (l.getD i cyl0) o p ≤ 1575750000000)) := fun k hk => by
    rw [hwd] at hk ⊢
    exact HOK.out.at hk
  have hwl := word_len HOK.out.fine hl64
  rw [← hwd] at hwl
  obtain ⟨U, hU⟩ : ∃ U, U = sumT (strN l p wd) := ⟨_, rfl⟩
  rw [← hU] at HX HCU
  have HU := Lib.hid hU
  have HWQ := Lib.hid hwd
  obtain ⟨r1, r2⟩ := U
  dsimp only [encV] at HX HCU
  replace HX := Lib.hid HX
  have k1 : ¬ (4 : Int) < n := by omega
  clear hwk hwd hR hU hAL HCN HKR h1 h2 hl64 hN1 hN6
  go_wp2_with fail
  refine (HX.out _ E).mono ?_
  rintro e w4 ⟨rfl, hE⟩
  replace E := E.trans hE
  have c0 := (hE).cell c0
  have c1 := (hE).cell c1
  have z0 := cell_lt c0
  dsimp only at z0
  clear hE
  have X := (⟨by go_simp, by go_simp, by go_simp, by go_simp⟩ : EncAt w4.heap.size (w4.alloc (.cells #[txt r1, txt r2] 36)) r1 r2)
  have EA : Ext w4 (w4.alloc (.cells #[txt r1, txt r2] 36)) := extA
  go_wp2_with fail
  replace E := E.trans EA
  have c0 := (EA).cell c0
  have c1 := (EA).cell c1
  obtain ⟨xb, hxb⟩ : ∃ b, b = w4.heap.size := ⟨_, rfl⟩
  rw [← hxb] at X ⊢
  clear hxb EA z0
  generalize (w4.alloc (.cells #[txt r1, txt r2] 36)) = w5 at X E c0 c1 ⊢
  refine (HCU.out _).mono ?_
  rintro e w6 ⟨rfl, hE⟩
  replace E := E.trans hE
  replace X := X.ext hE
  have c0 := (hE).cell c0
  have c1 := (hE).cell c1
  clear hE HCU
  go_wp2_with fail
  refine (HPT.out _ E).mono ?_
  rintro e w7 ⟨rfl, hE⟩
  replace E := E.trans hE
  replace X := X.ext hE
  have c0 := (hE).cell c0
  have c1 := (hE).cell c1
  clear hE HPT
  have EB : Ext w7 (w7.alloc (.cells #[txt [48], txt [48]] 36)) := extA
  have S0 : EncAt w7.heap.size (w7.alloc (.cells #[txt [48], txt [48]] 36)) [48] [48] := ⟨by go_simp, by go_simp, by go_simp, by go_simp⟩
  have z0 := cell_lt c0
  dsimp only at z0
  go_wp2_with fail
  obtain ⟨sb, hsb⟩ : ∃ b, b = w7.heap.size := ⟨_, rfl⟩
  rw [← hsb] at S0 ⊢
  have hsb7 : w7.heap.size ≤ sb := by omega
  have hsb8 : sb < (w7.alloc (.cells #[txt [48], txt [48]] 36)).heap.size := cell_lt S0.c0
  clear hsb z0
  generalize (w7.alloc (.cells #[txt [48], txt [48]] 36)) = w8 at EB S0 hsb8 ⊢
  refine (HW2.out _ (E.trans EB)).mono ?_
  rintro e w9 ⟨v, rfl, hO, hob, hE⟩
  obtain ⟨wa, wc, rfl, hcw, _, hblk⟩ := hO.reads
  have WD : WdAt sb w9 wa wd := ⟨hcw, fun i hi b off e => by
    have h := hob b (hblk b off e (fun h => by rw [h] at hi; simp at hi)).2.1
    omega⟩
  replace S0 := S0.ext hE
  replace EB := EB.trans hE
  have HTK : Hid (∀ k, k < wd.length → strN l p (wd.take (k + 1)) = strN l p (wd.take k) + litN (l.getD (wd.getD k stk0).1.toNat cyl0) (wd.getD k stk0).2 p) := fun k hk => strN_take l p hk
  have HS0 : Hid (sumT (strN l p (wd.take 0)) = ([48], [48])) := by show _ = _; rw [List.take_zero]; exact sum_zero
  have HEND : Hid (strN l p (wd.take wd.length) = strN l p wd) := by show _ = _; rw [List.take_length]
  clear hO hob hcw hblk hE HW2 hsb8
  go_wp2_with fail
  go_loopw [83] (fun x wr => ∃ k : Nat, k ≤ wd.length ∧ x = .int .i64 k ∧ (∃ s1 s2, EncAt sb wr s1 s2 ∧ Hid ((s1, s2) = sumT (strN l p (wd.take k)))) ∧ WdAt sb wr wa wd ∧ Ext w7 wr) (fun x _ => wd.length - (intOf x).toNat)
  case atStart => exact ⟨0, Nat.zero_le _, rfl, ⟨_, _, S0, HS0.out.symm⟩, WD, EB⟩
  case round =>
    obtain ⟨k, hk, rfl, ⟨s1, s2, S, hS12⟩, WD, he⟩ := hrel
    have E5 := E.trans he
    by_cases hlt : k < wd.length
    · obtain ⟨wb, wo, hwa, q1, q2⟩ := WD.cells k hlt
      subst hwa
      obtain ⟨i, hi1, hi2, hi3, hi4⟩ := HAT.out k hlt
      have htk := HTK.out k hlt
      rw [hi1, Int.toNat_natCast] at htk
      obtain ⟨cb, co, hca, r0, r1c, r2c⟩ := HC.out.ext E5 i hi2
      subst hca
      rw [hi1] at q1
      have hbd := HBB.out k
      have HL := HSR.out (l.getD i cyl0) (wd.getD k stk0).2
      rw [stroke_lit hi3 _ hpb.1 (by omega)] at HL
      have hn4 := hi4 (wd.getD k stk0).2
      have HA2 := fun W g => HAD.out (strN l p (wd.take k)) (litN (l.getD i cyl0) (wd.getD k stk0).2 p) W g hbd.1 hn4.1 (by omega)
      rw [← htk, ← hS12.out] at HA2
      generalize (wd.getD k stk0).2 = out at q2 HL HA2
      obtain ⟨N, hN⟩ : ∃ N, N = sumT (litN (l.getD i cyl0) out p) := ⟨_, rfl⟩
      rw [← hN] at HL HA2
      obtain ⟨T, hT⟩ : ∃ T, T = sumT (strN l p (wd.take (k + 1))) := ⟨_, rfl⟩
      rw [← hT] at HA2
      have HTT := Lib.hid hT
      unfold EncP at HL HA2
      generalize l.getD i cyl0 = c at r0 r1c r2c HL
      obtain ⟨cx, cy, cz⟩ := c
      obtain ⟨n1, n2⟩ := N
      obtain ⟨t1, t2⟩ := T
      dsimp only [encV, cylV] at HL HA2 r0 r1c r2c
      replace HL := Lib.hid HL
      replace HA2 := Lib.hid HA2
      clear hN hT hi1 hi3 hi4 htk hbd hn4 hS12
      have z1 := cell_lt q1
      dsimp only at z1
      have hiI : (i : Int) < (l.length : Int) := by omega
      have hi0 : ¬ (i : Int) < 0 := by omega
      go_wp2_with fail
      have d0 : ((wr.alloc (.cells #[.int .i64 i, .bool out] 46))).cell? ⟨wr.heap.size, 0, none⟩ = some (.int .i64 i) := by go_simp
      have d1 : ((wr.alloc (.cells #[.int .i64 i, .bool out] 46))).cell? ⟨wr.heap.size, 1, none⟩ = some (.bool out) := by go_simp
      have EWB : Ext wr (wr.alloc (.cells #[.int .i64 i, .bool out] 46)) := extA
      have r0 := EWB.cell r0
      have r1c := EWB.cell r1c
      have r2c := EWB.cell r2c
      have S6 := S.ext EWB
      have WD6 := WD.ext EWB
      have hs6 : sb < ((wr.alloc (.cells #[.int .i64 i, .bool out] 46))).heap.size := cell_lt S6.c0
      obtain ⟨kb, hkb⟩ : ∃ b, b = wr.heap.size := ⟨_, rfl⟩
      rw [← hkb] at d0 d1 ⊢
      clear q1 q2 z1 hkb
      have hS : Ext (wr.alloc (.cells #[.int .i64 i, .bool out] 46)) ((wr.alloc (.cells #[.int .i64 i, .bool out] 46))).drew := extA
      generalize (wr.alloc (.cells #[.int .i64 i, .bool out] 46)) = W6 at d0 d1 EWB r0 r1c r2c hS S6 WD6 hs6 ⊢
      refine wp_region_heldE 13 (Ext W6) (by kernel_rfl) ?_
      generalize W6.drew = v0 at hS ⊢
      ((refine ePu 0 ?_); (refine ePu 1 ?_))
      (refine wpAnyE_take (oi := ?_) (v := ?_) (i := 2) ?_ (by kernel_rfl) ?_ ?_ (by assumption) ?_; rotate_left 2; (focus ((simp only [List.getElem?_toArray, List.getElem?_cons_succ, List.getElem?_cons_zero]; exact rfl))); (focus (exact fun _ _ _ h => h)); (focus (refine Or.inl ⟨by rfl, ?_⟩; intro w hSw; have hd0 := hSw.cell d0; have zd0 := cell_lt hd0; dsimp only at zd0; (first | (go_simp; done) | (go_simp; with_reducible rfl)))); (try simp only [Act.put, List.setIfInBounds_toArray, List.set_cons_zero, List.set_cons_succ]))
      (refine ePu 3 ?_)
      (refine wpAnyE_take (oi := ?_) (v := ?_) (i := 4) ?_ (by kernel_rfl) ?_ ?_ (by assumption) ?_; rotate_left 2; (focus ((simp only [List.getElem?_toArray, List.getElem?_cons_succ, List.getElem?_cons_zero]; exact rfl))); (focus (exact fun _ _ _ h => h)); (focus (refine Or.inl ⟨by rfl, ?_⟩; intro w hSw; have hr0 := hSw.cell r0; have zr0 := cell_lt hr0; dsimp only at zr0; have hr1c := hSw.cell r1c; have zr1c := cell_lt hr1c; dsimp only at zr1c; have hr2c := hSw.cell r2c; have zr2c := cell_lt hr2c; dsimp only at zr2c; (first | (go_simp; done) | (go_simp; with_reducible rfl)))); (try simp only [Act.put, List.setIfInBounds_toArray, List.set_cons_zero, List.set_cons_succ]))
      (refine ePu 5 ?_)
      (refine wpAnyE_take (oi := ?_) (v := ?_) (i := 6) ?_ (by kernel_rfl) ?_ ?_ (by assumption) ?_; rotate_left 2; (focus ((simp only [List.getElem?_toArray, List.getElem?_cons_succ, List.getElem?_cons_zero]; exact rfl))); (focus (exact fun _ _ _ h => h)); (focus (refine Or.inl ⟨by rfl, ?_⟩; intro w hSw; have hd1 := hSw.cell d1; have zd1 := cell_lt hd1; dsimp only at zd1; (first | (go_simp; done) | (go_simp; with_reducible rfl)))); (try simp only [Act.put, List.setIfInBounds_toArray, List.set_cons_zero, List.set_cons_succ]))
      (refine ePu 7 ?_)
      refine wpAnyE_two (i := 8) (j := 12) (o := ?_) (p := ?_) (by (simp only [List.getElem?_toArray, List.getElem?_cons_succ, List.getElem?_cons_zero]; exact rfl)) (by (simp only [List.getElem?_toArray, List.getElem?_cons_succ, List.getElem?_cons_zero]; exact rfl)) (by kernel_rfl) (fun K hK => ?_) (fun K hK => ?_)
      · skip
        go_simp
        refine (HL.out _ (E5.trans (EWB.trans hS))).mono ?_
        rintro e v0 ⟨rfl, hE⟩
        go_wp2_with fail
        refine hK.out _ _ (hS.trans hE) (fun hHeld => ?_)
        clear hK K hHeld
        (try simp only [Act.put, List.setIfInBounds_toArray, List.set_cons_zero, List.set_cons_succ])
        replace hS := hS.trans hE
        clear hE
        ((refine ePu 9 ?_); (refine ePu 10 ?_); (refine ePu 11 ?_))
        refine wpAnyE_one (i := 12) (o := ?_) ?_ (by kernel_rfl) (fun K hK => ?_)
        rotate_left
        · (simp only [List.getElem?_toArray, List.getElem?_cons_succ, List.getElem?_cons_zero]; exact rfl)
        have hE : Ext v0 (v0.alloc (.cells #[.string ⟨#[]⟩, .string ⟨#[]⟩] 36)) := extA
        have Y : EncAt v0.heap.size (v0.alloc (.cells #[.string ⟨#[]⟩, .string ⟨#[]⟩] 36)) [] [] := ⟨by go_simp, by go_simp, by go_simp, by go_simp⟩
        obtain ⟨yb, hyb⟩ : ∃ q, q = v0.heap.size := ⟨_, rfl⟩
        have hyw : W6.heap.size ≤ yb := by rw [hyb]; exact hS.size
        go_simp
        refine hK.out _ _ (hS.trans hE) (fun hHeld => ?_)
        clear hK K hHeld
        (try simp only [Act.put, List.setIfInBounds_toArray, List.set_cons_zero, List.set_cons_succ])
        rw [← hyb] at Y ⊢
        clear hyb
        replace hS := hS.trans hE
        clear hE
        generalize (v0.alloc (.cells #[.string ⟨#[]⟩, .string ⟨#[]⟩] 36)) = v0 at Y hS ⊢
        have hyw7 : w7.heap.size ≤ yb := by have := he.size; have := EWB.size; omega
        have hys : sb ≠ yb := by omega
        have Y7 := (Y.set0 n1).set1 n2
        have S7 := (S6.ext hS).two (c := yb) (o1 := 0) (v := txt n1) (o2 := 1) (u := txt n2) hys
        have WD7 : WdAt sb ((v0.setCell ⟨yb, 0, none⟩ (txt n1)).setCell ⟨yb, 1, none⟩ (txt n2)) _ wd := WD6.ext ((hS.set (b := yb) (o := 0) hyw (txt n1)).set (b := yb) (o := 1) hyw (txt n2))
        have E47 := ((he.trans (EWB.trans hS)).set (b := yb) (o := 0) hyw7 (txt n1)).set (b := yb) (o := 1) hyw7 (txt n2)
        obtain ⟨y0, y1, fy0, fy1⟩ := Y
        have zy := cell_lt y0
        dsimp only at zy
        (refine wpAnyE_free (i := 13) (o := ?_) ?_ (by kernel_rfl) (by kernel_rfl) (fun K hK => ?_); rotate_left; (focus ((simp only [List.getElem?_toArray, List.getElem?_cons_succ, List.getElem?_cons_zero]; exact rfl))); go_simp; refine hK.out _ _ ?_; clear hK K; (try simp only [Act.put, List.setIfInBounds_toArray, List.set_cons_zero, List.set_cons_succ]))
        (refine ePu 14 ?_)
        refine wpAnyE_done (by kernel_rfl) ?_ _
        clear y0 y1 fy0 fy1 zy
        generalize ((v0.setCell ⟨yb, 0, none⟩ (txt n1)).setCell ⟨yb, 1, none⟩ (txt n2)) = W7 at Y7 S7 E47 WD7 ⊢
        have S7' := S7
        obtain ⟨e0, e1, _, _⟩ := S7'
        obtain ⟨y0, y1, _, _⟩ := Y7
        have ze := cell_lt e0
        have zy := cell_lt y0
        dsimp only at ze zy
        go_wp2_with fail
        refine (HA2.out _ (E.trans E47)).mono ?_
        rintro e w8 ⟨rfl, hE8⟩
        have S8 := ((S7.ext hE8).set0 t1).set1 t2
        have WD8 := ((WD7.ext hE8).set 0 (txt t1)).set 1 (txt t2)
        have E48 := ((E47.trans hE8).set (b := sb) (o := 0) hsb7 (txt t1)).set (b := sb) (o := 1) hsb7 (txt t2)
        obtain ⟨g0, g1, fg0, fg1⟩ := S7.ext hE8
        have zg := cell_lt g0
        dsimp only at zg
        clear e0 e1 y0 y1 ze zy hE8
        go_wp2
        exact ⟨⟨k + 1, by omega, by go_num, ⟨_, _, S8, HTT.out⟩, WD8, E48⟩, by simp [intOf]; omega⟩
      · skip
        have hE : Ext v0 (v0.alloc (.cells #[.string ⟨#[]⟩, .string ⟨#[]⟩] 36)) := extA
        have Y : EncAt v0.heap.size (v0.alloc (.cells #[.string ⟨#[]⟩, .string ⟨#[]⟩] 36)) [] [] := ⟨by go_simp, by go_simp, by go_simp, by go_simp⟩
        obtain ⟨yb, hyb⟩ : ∃ q, q = v0.heap.size := ⟨_, rfl⟩
        have hyw : W6.heap.size ≤ yb := by rw [hyb]; exact hS.size
        go_simp
        refine hK.out _ _ (hS.trans hE) (fun hHeld => ?_)
        clear hK K hHeld
        (try simp only [Act.put, List.setIfInBounds_toArray, List.set_cons_zero, List.set_cons_succ])
        rw [← hyb] at Y ⊢
        clear hyb
        replace hS := hS.trans hE
        clear hE
        generalize (v0.alloc (.cells #[.string ⟨#[]⟩, .string ⟨#[]⟩] 36)) = v0 at Y hS ⊢
        refine wpAnyE_one (i := 8) (o := ?_) ?_ (by kernel_rfl) (fun K hK => ?_)
        rotate_left
        · (simp only [List.getElem?_toArray, List.getElem?_cons_succ, List.getElem?_cons_zero]; exact rfl)
        go_simp
        refine (HL.out _ (E5.trans (EWB.trans hS))).mono ?_
        rintro e v0 ⟨rfl, hE⟩
        go_wp2_with fail
        refine hK.out _ _ (hS.trans hE) (fun hHeld => ?_)
        clear hK K hHeld
        (try simp only [Act.put, List.setIfInBounds_toArray, List.set_cons_zero, List.set_cons_succ])
        replace Y := Y.ext hE
        replace hS := hS.trans hE
        clear hE
        ((refine ePu 9 ?_); (refine ePu 10 ?_); (refine ePu 11 ?_))
        have hyw7 : w7.heap.size ≤ yb := by have := he.size; have := EWB.size; omega
        have hys : sb ≠ yb := by omega
        have Y7 := (Y.set0 n1).set1 n2
        have S7 := (S6.ext hS).two (c := yb) (o1 := 0) (v := txt n1) (o2 := 1) (u := txt n2) hys
        have WD7 : WdAt sb ((v0.setCell ⟨yb, 0, none⟩ (txt n1)).setCell ⟨yb, 1, none⟩ (txt n2)) _ wd := WD6.ext ((hS.set (b := yb) (o := 0) hyw (txt n1)).set (b := yb) (o := 1) hyw (txt n2))
        have E47 := ((he.trans (EWB.trans hS)).set (b := yb) (o := 0) hyw7 (txt n1)).set (b := yb) (o := 1) hyw7 (txt n2)
        obtain ⟨y0, y1, fy0, fy1⟩ := Y
        have zy := cell_lt y0
        dsimp only at zy
        (refine wpAnyE_free (i := 13) (o := ?_) ?_ (by kernel_rfl) (by kernel_rfl) (fun K hK => ?_); rotate_left; (focus ((simp only [List.getElem?_toArray, List.getElem?_cons_succ, List.getElem?_cons_zero]; exact rfl))); go_simp; refine hK.out _ _ ?_; clear hK K; (try simp only [Act.put, List.setIfInBounds_toArray, List.set_cons_zero, List.set_cons_succ]))
        (refine ePu 14 ?_)
        refine wpAnyE_done (by kernel_rfl) ?_ _
        clear y0 y1 fy0 fy1 zy
        generalize ((v0.setCell ⟨yb, 0, none⟩ (txt n1)).setCell ⟨yb, 1, none⟩ (txt n2)) = W7 at Y7 S7 E47 WD7 ⊢
        have S7' := S7
        obtain ⟨e0, e1, _, _⟩ := S7'
        obtain ⟨y0, y1, _, _⟩ := Y7
        have ze := cell_lt e0
        have zy := cell_lt y0
        dsimp only at ze zy
        go_wp2_with fail
        refine (HA2.out _ (E.trans E47)).mono ?_
        rintro e w8 ⟨rfl, hE8⟩
        have S8 := ((S7.ext hE8).set0 t1).set1 t2
        have WD8 := ((WD7.ext hE8).set 0 (txt t1)).set 1 (txt t2)
        have E48 := ((E47.trans hE8).set (b := sb) (o := 0) hsb7 (txt t1)).set (b := sb) (o := 1) hsb7 (txt t2)
        obtain ⟨g0, g1, fg0, fg1⟩ := S7.ext hE8
        have zg := cell_lt g0
        dsimp only at zg
        clear e0 e1 y0 y1 ze zy hE8
        go_wp2
        exact ⟨⟨k + 1, by omega, by go_num, ⟨_, _, S8, HTT.out⟩, WD8, E48⟩, by simp [intOf]; omega⟩
    · have hke : k = wd.length := by omega
      subst hke
      have h5 := hS12.out
      rw [HEND.out, ← HU.out] at h5
      have hr : s1 = r1 ∧ s2 = r2 := by cases h5; exact ⟨rfl, rfl⟩
      obtain ⟨rfl, rfl⟩ := hr
      replace X := X.ext he
      replace c0 := he.cell c0
      replace c1 := he.cell c1
      have z0 := cell_lt c0
      dsimp only at z0
      clear h5 hS12 HTK HS0 HEND HAT HBB WD HSR HAD
      obtain rfl := HN.out
      obtain ⟨wo, rfl⟩ : ∃ wo, wo = wr := ⟨_, rfl⟩
      have hm : l.length ≤ 4 := by omega
      go_wp2_with fail
      go_cut [18, 19] (fun x y W => ∃ tb ob, x = .slice (some ⟨tb, 0, none⟩) l.length l.length ∧ y = .slice (some ⟨ob, 0, none⟩) l.length l.length ∧ Hid (IntsAt W tb (List.replicate l.length 0) ∧ ArrC W ob l.length (fun _ => cyl0) ∧ tb ≠ ob ∧ wo.heap.size ≤ tb ∧ wo.heap.size ≤ ob) ∧ Ext wo W)
      case first =>
        have hS : Ext wo wo.drew := extA
        refine wp_region_heldE 99 (Ext wo) (by kernel_rfl) ?_
        generalize wo.drew = v0 at hS ⊢
        ((refine ePu 0 ?_); (refine ePu 2 ?_))
        refine wpAnyE_two (i := 1) (j := 3) (o := ?_) (p := ?_) (by (simp only [List.getElem?_toArray, List.getElem?_cons_succ, List.getElem?_cons_zero]; exact rfl)) (by (simp only [List.getElem?_toArray, List.getElem?_cons_succ, List.getElem?_cons_zero]; exact rfl)) (by kernel_rfl) (fun K hK => ?_) (fun K hK => ?_)
        · skip
          have hmk := makeInts l.length (by omega) v0
          have hE : Ext v0 (v0.alloc (.cells (madeCells #[.int .i64 0] l.length) 3)) := extA
          have IT := madeInts v0 l.length 3 rfl
          have hlt : v0.heap.size < (v0.alloc (.cells (madeCells #[.int .i64 0] l.length) 3)).heap.size := by show _ < (v0.heap.push _).size; rw [Array.size_push]; omega
          obtain ⟨tb, htb⟩ : ∃ q, q = v0.heap.size := ⟨_, rfl⟩
          have htw : wo.heap.size ≤ tb := by rw [htb]; exact hS.size
          go_simp
          refine hK.out _ _ (hS.trans hE) (fun hHeld => ?_)
          clear hK K hHeld hmk
          (try simp only [Act.put, List.setIfInBounds_toArray, List.set_cons_zero, List.set_cons_succ])
          rw [← htb] at IT hlt ⊢
          clear htb
          replace hS := hS.trans hE
          clear hE
          generalize (v0.alloc (.cells (madeCells #[.int .i64 0] l.length) 3)) = v0 at IT hS hlt ⊢
          (refine ePu 4 ?_)
          refine wpAnyE_one (i := 3) (o := ?_) ?_ (by kernel_rfl) (fun K hK => ?_)
          rotate_left
          · (simp only [List.getElem?_toArray, List.getElem?_cons_succ, List.getElem?_cons_zero]; exact rfl)
          have hmk := makeCyls l.length (by omega) v0
          have hE : Ext v0 (v0.alloc (.cells (madeCells #[.int .i64 0, .int .i64 0, .int .i64 0] (l.length * 3)) 29)) := extA
          have AT := madeCyls v0 l.length 29 rfl
          have hlt2 : v0.heap.size < (v0.alloc (.cells (madeCells #[.int .i64 0, .int .i64 0, .int .i64 0] (l.length * 3)) 29)).heap.size := by show _ < (v0.heap.push _).size; rw [Array.size_push]; omega
          obtain ⟨ob, hob⟩ : ∃ q, q = v0.heap.size := ⟨_, rfl⟩
          have how : wo.heap.size ≤ ob := by rw [hob]; exact hS.size
          go_simp
          refine hK.out _ _ (hS.trans hE) (fun hHeld => ?_)
          clear hK K hHeld hmk
          (try simp only [Act.put, List.setIfInBounds_toArray, List.set_cons_zero, List.set_cons_succ])
          rw [← hob] at AT hlt2 ⊢
          have hne : tb ≠ ob := by omega
          replace IT := IT.ext hE
          clear hob
          replace hS := hS.trans hE
          clear hE
          generalize (v0.alloc (.cells (madeCells #[.int .i64 0, .int .i64 0, .int .i64 0] (l.length * 3)) 29)) = v0 at AT hS hlt2 IT ⊢
          (refine ePu 5 ?_)
          refine wpAnyE_done (by kernel_rfl) ?_ _
          go_wp2_with fail
          go_meet
          exact ⟨tb, ob, rfl, rfl, ⟨IT, AT, hne, htw, how⟩, hS⟩
        · skip
          have hmk := makeCyls l.length (by omega) v0
          have hE : Ext v0 (v0.alloc (.cells (madeCells #[.int .i64 0, .int .i64 0, .int .i64 0] (l.length * 3)) 29)) := extA
          have AT := madeCyls v0 l.length 29 rfl
          have hlt2 : v0.heap.size < (v0.alloc (.cells (madeCells #[.int .i64 0, .int .i64 0, .int .i64 0] (l.length * 3)) 29)).heap.size := by show _ < (v0.heap.push _).size; rw [Array.size_push]; omega
          obtain ⟨ob, hob⟩ : ∃ q, q = v0.heap.size := ⟨_, rfl⟩
          have how : wo.heap.size ≤ ob := by rw [hob]; exact hS.size
          go_simp
          refine hK.out _ _ (hS.trans hE) (fun hHeld => ?_)
          clear hK K hHeld hmk
          (try simp only [Act.put, List.setIfInBounds_toArray, List.set_cons_zero, List.set_cons_succ])
          rw [← hob] at AT hlt2 ⊢
          clear hob
          replace hS := hS.trans hE
          clear hE
          generalize (v0.alloc (.cells (madeCells #[.int .i64 0, .int .i64 0, .int .i64 0] (l.length * 3)) 29)) = v0 at AT hS hlt2 ⊢
          refine wpAnyE_one (i := 1) (o := ?_) ?_ (by kernel_rfl) (fun K hK => ?_)
          rotate_left
          · (simp only [List.getElem?_toArray, List.getElem?_cons_succ, List.getElem?_cons_zero]; exact rfl)
          have hmk := makeInts l.length (by omega) v0
          have hE : Ext v0 (v0.alloc (.cells (madeCells #[.int .i64 0] l.length) 3)) := extA
          have IT := madeInts v0 l.length 3 rfl
          have hlt : v0.heap.size < (v0.alloc (.cells (madeCells #[.int .i64 0] l.length) 3)).heap.size := by show _ < (v0.heap.push _).size; rw [Array.size_push]; omega
          obtain ⟨tb, htb⟩ : ∃ q, q = v0.heap.size := ⟨_, rfl⟩
          have htw : wo.heap.size ≤ tb := by rw [htb]; exact hS.size
          go_simp
          refine hK.out _ _ (hS.trans hE) (fun hHeld => ?_)
          clear hK K hHeld hmk
          (try simp only [Act.put, List.setIfInBounds_toArray, List.set_cons_zero, List.set_cons_succ])
          rw [← htb] at IT hlt ⊢
          have hne : tb ≠ ob := by omega
          replace AT := AT.ext hE
          clear htb
          replace hS := hS.trans hE
          clear hE
          generalize (v0.alloc (.cells (madeCells #[.int .i64 0] l.length) 3)) = v0 at IT hS hlt AT ⊢
          ((refine ePu 4 ?_); (refine ePu 5 ?_))
          refine wpAnyE_done (by kernel_rfl) ?_ _
          go_wp2_with fail
          go_meet
          exact ⟨tb, ob, rfl, rfl, ⟨IT, AT, hne, htw, how⟩, hS⟩
      case rest =>
        obtain ⟨tb, ob, rfl, rfl, M, hE⟩ := hcut
        obtain ⟨MI0, MC0, hne, htb, hob⟩ := M.out
        have R0 : Hid (∃ d f, d.length = l.length ∧ IntsAt wc tb d ∧ ArrC wc ob l.length f ∧ (∀ j, j < 0 → d.getD j 0 = ((l.length - 1 - j : Nat) : Int)) ∧ (∀ j, j < 0 → f (l.length - 1 - j) = l.getD j cyl0)) := ⟨_, _, List.length_replicate, MI0, MC0, fun j hj => by omega, fun j hj => by omega⟩
        clear M MI0 MC0 z0
        go_wp2_with fail
        go_loopw [127] (fun x W => ∃ k : Nat, k ≤ l.length ∧ x = .int .i64 k ∧ Hid (∃ d f, d.length = l.length ∧ IntsAt W tb d ∧ ArrC W ob l.length f ∧ (∀ j, j < k → d.getD j 0 = ((l.length - 1 - j : Nat) : Int)) ∧ (∀ j, j < k → f (l.length - 1 - j) = l.getD j cyl0)) ∧ Ext wo W) (fun x _ => l.length - (intOf x).toNat)
        case atStart => exact ⟨0, Nat.zero_le _, rfl, R0.out, hE⟩
        case round =>
          obtain ⟨k, hk, rfl, M, he2⟩ := hrel
          have E7 := E5.trans he2
          clear R0
          by_cases hlt : k < l.length
          · obtain ⟨d, f, hd, MI, MC, hd2, hf2⟩ := M.out
            obtain ⟨cb, co, hca, r0, r1c, r2c⟩ := HC.out.ext E7 k hlt
            subst hca
            obtain ⟨e1, e2⟩ := MI k (by omega)
            have MN : ∀ x y z : Int, l.getD k cyl0 = ⟨x, y, z⟩ → ∀ W, W = ((((wr.setCell ⟨tb, k, none⟩ (.int .i64 ((l.length - 1 - k : Nat) : Int))).setCell ⟨ob, (l.length - 1 - k) * 3, none⟩ (.int .i64 x)).setCell ⟨ob, (l.length - 1 - k) * 3 + 1, none⟩ (.int .i64 y)).setCell ⟨ob, (l.length - 1 - k) * 3 + 2, none⟩ (.int .i64 z)) → Hid (∃ d f, d.length = l.length ∧ IntsAt W tb d ∧ ArrC W ob l.length f ∧ (∀ j, j < k + 1 → d.getD j 0 = ((l.length - 1 - j : Nat) : Int)) ∧ (∀ j, j < k + 1 → f (l.length - 1 - j) = l.getD j cyl0)) ∧ Ext wo W := fun x y z hc W hW => by
              subst hW
              refine ⟨⟨d.set k ((l.length - 1 - k : Nat) : Int), fun j => if j = l.length - 1 - k then ⟨x, y, z⟩ else f j, by rw [List.length_set]; exact hd, ?_, ?_, ?_, ?_⟩, ?_⟩
              · exact intsAt_other (intsAt_other (intsAt_other (MI.set (by omega) _) (Ne.symm hne)) (Ne.symm hne)) (Ne.symm hne)
              · exact (MC.other hne).put (by omega) x y z
              · intro j hj
                by_cases hjk : j = k
                · subst hjk
                  rw [List.getD_eq_getElem?_getD, List.getElem?_set, if_pos rfl, if_pos (by omega)]; rfl
                · rw [List.getD_eq_getElem?_getD, List.getElem?_set, if_neg (Ne.symm hjk), ← List.getD_eq_getElem?_getD]
                  exact hd2 j (by omega)
              · intro j hj
                by_cases hjk : j = k
                · subst hjk
                  dsimp only
                  rw [if_pos rfl, hc]
                · dsimp only
                  rw [if_neg (by omega)]
                  exact hf2 j (by omega)
              · exact (((he2.set (b := tb) (o := k) htb _).set (b := ob) hob _).set (b := ob) hob _).set (b := ob) hob _
            obtain ⟨g0, g1, g2, f0, f1, f2⟩ := MC (l.length - 1 - k) (by omega)
            obtain ⟨c, hc⟩ : ∃ c, c = l.getD k cyl0 := ⟨_, rfl⟩
            rw [← hc] at r0 r1c r2c
            obtain ⟨cx, cy, cz⟩ := c
            replace MN := Lib.hid (MN cx cy cz hc.symm)
            dsimp only at r0 r1c r2c
            clear hc
            generalize f (l.length - 1 - k) = fc at g0 g1 g2
            obtain ⟨fx, fy, fz⟩ := fc
            dsimp only at g0 g1 g2
            obtain ⟨j2, hj2⟩ : ∃ j2, j2 = l.length - 1 - k := ⟨_, rfl⟩
            rw [← hj2] at MN g0 g1 g2 f0 f1 f2
            have u3 : IntKind.i64.wrap ((l.length : Int) - 1) = (l.length : Int) - 1 := IntWalk.i64_in _ (by omega)
            have u4 : IntKind.i64.wrap ((l.length : Int) - 1 - (k : Int)) = (j2 : Int) := by rw [IntWalk.i64_in _ (by omega)]; omega
            have hj3 : j2 < l.length := by omega
            have zr := cell_lt r0
            have ze := cell_lt e1
            have zg := cell_lt g0
            dsimp only at zr ze zg
            have hne2 : ob ≠ tb := Ne.symm hne
            clear hd2 hf2 MI MC M hj2
            go_wp2
            exact ⟨⟨k + 1, by omega, by go_num, MN.out _ rfl⟩, by simp [intOf]; omega⟩
          · have hke : k = l.length := by omega
            subst hke
            obtain ⟨d, f, hd, MI, MC, hd2, hf2⟩ := M.out
            obtain rfl := back_is hd hd2
            have hCC : CellsC wr (some ⟨ob, 0, none⟩) l.reverse := MC.cells (by rw [List.length_reverse]) (fun j hj => by
              have h1 := hf2 (l.length - 1 - j) (by omega)
              have h2 := rev_at (l := l) (i := l.length - 1 - j) (by omega)
              have e : l.length - 1 - (l.length - 1 - j) = j := by omega
              rw [e] at h1 h2
              rw [h1, h2])
            have hRN := HRN.out (backT l.length) (some ⟨tb, 0, none⟩) l.length wr E7 (by rw [backT_len]; exact Nat.le_refl _) (by unfold maxLen; omega) (intsAt_cells MI)
            rw [show rnmE ((l.length : Int), st) (backT l.length) = 0 by unfold rnmE; rw [if_neg (not_not_intro HER.out.symm)]; exact backT_ok _, if_pos rfl, backT_len] at hRN
            have hcr := (cyc_ren HOK.out HER.out.symm (badC_all (badC_no HBD.out.symm))).2
            rw [← HWQ.out, ← HU.out] at hcr
            have HX2 : Hid (∀ (a2 : Option Addr) (cap2 : Nat) W, Ext wr W → CellsP W a2 (st.map (renStep (listFn (backT l.length)))) → Calls Tryz.prog 9 #[.slice (some ⟨ob, 0, none⟩) l.length l.length, .agg #[.int .i64 (l.length : Int), .slice a2 st.length cap2], .int .i64 p] W fun e w' => e = .returned (.tuple #[.agg #[txt s1, txt s2], .int .i64 0]) ∧ Ext W w') := fun a2 cap2 W g hcp => by
              have h := aCycle_any l.reverse (l.length : Int) (st.map (renStep (listFn (backT l.length)))) p (some ⟨ob, 0, none⟩) l.length a2 cap2 W (HG.out.ext (E7.trans g)) (by rw [List.length_reverse]; omega) (hCC.ext g) hcp (by rw [List.length_map]; exact HSL.out)
              unfold CycP at h
              rw [hcr, List.length_reverse, List.length_map] at h
              exact h
            replace hRN := Lib.hid hRN
            replace X := X.ext he2
            replace S := S.ext he2
            replace c0 := he2.cell c0
            replace c1 := he2.cell c1
            have z0 := cell_lt c0
            dsimp only at z0
            clear hcr hCC MI MC hd2 hf2 hd M HRN
            go_wp2_with fail
            refine hRN.out.mono ?_
            rintro e w10 ⟨v, rfl, ⟨u, rfl, a2, cap2, rfl, hcp, _⟩, hE10⟩
            have hcp2 : Hid (CellsP w10 a2 (st.map (renStep (listFn (backT l.length))))) := hcp
            rw [show (ren (listFn (backT l.length)) ((l.length : Int), st)).2.length = st.length by show (st.map _).length = _; rw [List.length_map], show (ren (listFn (backT l.length)) ((l.length : Int), st)).1 = (l.length : Int) from rfl]
            replace X := X.ext hE10
            replace S := S.ext hE10
            clear hcp hRN c0 c1 z0
            have D0 : Ext w10 (w10.alloc (.cells #[.int .i64 (l.length : Int), .slice a2 st.length cap2] 24)) := extA
            go_wp2_with fail
            refine (HX2.out a2 cap2 _ (hE10.trans D0) (hcp2.out.ext D0)).mono ?_
            rintro e w11 ⟨rfl, hE11⟩
            replace X := X.ext (D0.trans hE11)
            replace S := S.ext (D0.trans hE11)
            have E11 := E7.trans (hE10.trans (D0.trans hE11))
            have EA : Ext w11 (w11.alloc (.cells #[txt s1, txt s2] 36)) := extA
            obtain ⟨x0, x1, _, _⟩ := X
            obtain ⟨y0, y1, _, _⟩ := S
            have zx := cell_lt x0
            have zy := cell_lt y0
            dsimp only at zx zy
            clear D0 hE11 hcp2 HX2
            go_wp2_with (go_at_call 8; refine (HT.out _).mono ?_; rintro e wz ⟨rfl, hE⟩)
            go_ret
            exact ⟨rfl, E11.trans (EA.trans hE)⟩
end Go.Proofs.YtbpjbhbbkonjlaaGreatDoor
