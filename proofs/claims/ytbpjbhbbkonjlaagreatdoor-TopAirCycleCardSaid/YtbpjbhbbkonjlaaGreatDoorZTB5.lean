/- Steps of the proof: FText, FDigR, FRedR, FTxtR, FSplR, FSig, FParse, FChkR. No conditions. -/
import Derived.Test.YtbpjbhbbkonjlaaGreatDoorZTB1
import Derived.Test.YtbpjbhbbkonjlaaGreatDoorZTB2
import Derived.Test.YtbpjbhbbkonjlaaGreatDoorZTB3
import Derived.Test.YtbpjbhbbkonjlaaGreatDoorZTB4
namespace Go.Proofs.YtbpjbhbbkonjlaaGreatDoor
open Go.RowKit
open Go.Lib (decDigits)
attribute [local go_sem] Oper.semAt_some
theorem app_txt (r d : Txt) : (⟨r.toArray⟩ : ByteArray) ++ ⟨d.toArray⟩ = ⟨(r ++ d).toArray⟩ := by
  apply ByteArray.ext
  rw [ByteArray.data_append]
  simp
def txtK (x n k : Nat) : Txt := if k = 0 then [] else decDigits (x / 1000000000 ^ (n - k))
theorem txtK_first {x n : Nat} (hn : n = (toB 1000000000 x).length) (h0 : 0 < n) : txtK x n 1 = decDigits ((toB 1000000000 x).getD (n - 1) 0) := by
  unfold txtK
  rw [if_neg (by omega), getD_toB (by omega)]
  have h1 : x / 1000000000 ^ (n - 1 + 1) = 0 := by
    have h := (len_toB (B := 1000000000) (by omega) (n - 1 + 1) x)
    rw [← hn] at h
    exact Decidable.not_not.1 (fun e => by have := h.2 e; omega)
  have h2 := text_first (k := 9) (n := x) (i := n - 1) (by rw [show (10 : Nat) ^ 9 = 1000000000 from by decide]; exact h1)
  rw [show (10 : Nat) ^ 9 = 1000000000 from by decide] at h2
  rw [h2]
theorem txtK_next {x n k : Nat} (hn : n = (toB 1000000000 x).length) (h0 : 0 < k) (hk : k < n) :
    txtK x n (k + 1) = txtK x n k ++ (List.replicate (9 - (decDigits ((toB 1000000000 x).getD (n - 1 - k) 0)).length) 48 ++ decDigits ((toB 1000000000 x).getD (n - 1 - k) 0)) := by
  unfold txtK
  rw [if_neg (by omega), if_neg (by omega), getD_toB (by omega)]
  have h1 : x / 1000000000 ^ (n - 1 - k + 1) ≠ 0 := (len_toB (B := 1000000000) (by omega) _ x).1 (by omega)
  have h2 := text_next (k := 9) (n := x) (i := n - 1 - k) (by omega) (by rw [show (10 : Nat) ^ 9 = 1000000000 from by decide]; exact h1)
  rw [show (10 : Nat) ^ 9 = 1000000000 from by decide] at h2
  rw [show n - (k + 1) = n - 1 - k by omega, show n - k = n - 1 - k + 1 by omega]
  exact h2
theorem txtK_len {x n k : Nat} (hn : n = (toB 1000000000 x).length) : ∀ (_ : k ≤ n), (txtK x n k).length ≤ 9 * k := by
  induction k with
  | zero => intro _; simp [txtK]
  | succ k ih =>
    intro hk
    have hd : (decDigits ((toB 1000000000 x).getD (n - 1 - k) 0)).length ≤ 9 := digits_text _ (by
      have := okB_getD (okB_toB (B := 1000000000) (by omega) x) (by omega) (n - 1 - k)
      rw [show (10 : Nat) ^ 9 = 1000000000 from by decide]; exact this)
    by_cases h : k = 0
    · subst h
      rw [txtK_first hn (by omega)]
      exact hd
    · rw [txtK_next hn (by omega) (by omega), List.length_append, List.length_append, List.length_replicate]
      have := ih (by omega)
      omega
set_option maxHeartbeats 4000000 in
set_option maxRecDepth 100000 in
theorem text_range (cas cbd : Code) (hcode : rngOf (Tryz.f108.body.getD .skip) = [(cas, cbd)]) (x : Nat) (la : List Nat) (a : Option Addr) (ca : Nat) (w0 w3 : World) (sb bb bl : Nat)
    (hla : la.length ≤ 200) (hx : la = toB 1000000000 x) (hG : Glob w0)
    (ha : CellsN .u64 w0 a la) (E0 : Ext w0 w3) (s0 : w3.cell? ⟨sb, 0, none⟩ = some (.slice a la.length ca)) (b0 : w3.cell? ⟨bb, 0, none⟩ = some (.slice a la.length ca)) (hB0 : BldW bl w3.heap.size [] w3)
    (hsl : sb ≠ bl) (hbl : bb ≠ bl) (hwl : w0.heap.size ≤ bl) (hl3 : bl < w3.heap.size)
    (u2 u4 u5 u6 u7 u8 u9 u10 u12 u13 u14 u15 u16 u17 u18 u19 u20 u21 u22 u23 u24 u25 u26 u27 u28 u29 : Value) (ds : List Deferred) (Q : Exit → Act → World → Prop)
    (hdone : ∀ (D : Nat) (W : World), w3.heap.size ≤ D → D < W.heap.size → BldW bl w3.heap.size (txtK x la.length la.length) W → Ext w0 W → W.heap[D]? = some (.deferred (some [])) → Q .normal { tmps := #[.slice a la.length ca, .pointer (some ⟨bb, 0, none⟩), u2, .pointer (some ⟨bl, 0, none⟩), u4, u5, u6, u7, u8, u9, u10, .func (.func 159) #[] #[.pointer (some ⟨sb, 0, none⟩)], u12, u13, u14, u15, u16, u17, u18, u19, u20, u21, u22, u23, u24, u25, u26, u27, u28, u29], defers := mark D :: ds } W) :
    (Code.rangeFunc (.tmp 11) #[12, 13] cas cbd).wp Tryz.prog Q { tmps := #[.slice a la.length ca, .pointer (some ⟨bb, 0, none⟩), u2, .pointer (some ⟨bl, 0, none⟩), u4, u5, u6, u7, u8, u9, u10, .func (.func 159) #[] #[.pointer (some ⟨sb, 0, none⟩)], u12, u13, u14, u15, u16, u17, u18, u19, u20, u21, u22, u23, u24, u25, u26, u27, u28, u29], defers := ds } w3 := by
  have HC := Lib.hid hcode
  have hsz : sb < w3.heap.size := cell_lt s0
  have hbz : bb < w3.heap.size := cell_lt b0
  have hwz := E0.size
  refine wp_bwd la a ca w0 sb (by omega) ha E0 s0 rfl
    (fun k W => BldW bl w3.heap.size (txtK x la.length k) W ∧ Ext w0 W ∧ W.cell? ⟨bb, 0, none⟩ = some (.slice a la.length ca) ∧ w3.heap.size ≤ W.heap.size) (fun _ _ => False)
    (fun k A B h q => ⟨h.1.keep q, h.2.1.trans' q.1 hwz, q.cell h.2.2.1, Nat.le_trans h.2.2.2 q.1.size⟩) (fun k A B h q => h.elim)
    (fun k A B h q => ⟨h.1.ext q, h.2.1.trans q, q.cell h.2.2.1, Nat.le_trans h.2.2.2 q.size⟩) ⟨hB0, E0, b0, Nat.le_refl _⟩
    (fun k a' W => a' = { tmps := #[.slice a la.length ca, .pointer (some ⟨bb, 0, none⟩), u2, .pointer (some ⟨bl, 0, none⟩), .int .i64 ((la.length : Int) - 1 - (k : Int)), .int .u64 (la.getD (la.length - 1 - k) 0 : Nat), u6, u7, u8, u9, u10, .func (.func 159) #[] #[.pointer (some ⟨sb, 0, none⟩)], .int .i64 ((la.length : Int) - 1 - (k : Int)), .int .u64 (la.getD (la.length - 1 - k) 0 : Nat), u14, u15, u16, u17, u18, u19, u20, u21, u22, u23, u24, u25, u26, u27, u28, u29], defers := [] }) (fun k a' A B h _ => h)
    ?assign ?body (fun D W h1 h2 h3 h4 => hdone D W h1 h2 h3.1 h3.2.1 h4) (fun _ _ _ _ _ _ h _ => h.elim)
  case assign =>
    simp only [Tryz.f108, rngOf, Option.getD, List.nil_append, List.append_nil] at hcode
    cases hcode
    intro l' k m W K hm hI hK
    clear HC hx
    unfold bwEnc
    gi_wp2
    exact hK _ _ (Ext.refl _) rfl
  case body =>
    simp only [Tryz.f108, rngOf, Option.getD, List.nil_append, List.append_nil] at hcode
    cases hcode
    rintro l' k a' W hk hm ⟨hI, EW, b1, hz⟩ rfl
    obtain ⟨n, hn⟩ : ∃ n, n = la.length - 1 - k := ⟨_, rfl⟩
    have e3 : (la.length : Int) - 1 - (k : Int) = (n : Int) := by omega
    have hxb : la.getD n 0 < 1000000000 := okB_getD (by rw [hx]; exact okB_toB (by omega) x) (by omega) n
    have hdl : (decDigits (la.getD n 0)).length ≤ 9 := digits_text _ (by rw [show (10 : Nat) ^ 9 = 1000000000 from by decide]; exact hxb)
    have htl := txtK_len (x := x) (n := la.length) (k := k) (by rw [hx]) (by omega)
    have hk0 : k = 0 → txtK x la.length (k + 1) = txtK x la.length k ++ decDigits (la.getD n 0) := fun e => by
      subst e
      have := txtK_first (x := x) (n := la.length) (by rw [hx]) (by omega)
      rw [this, hn, hx]; rfl
    have hk1 : 0 < k → txtK x la.length (k + 1) = txtK x la.length k ++ (List.replicate (9 - (decDigits (la.getD n 0)).length) 48 ++ decDigits (la.getD n 0)) := fun e => by
      have := txtK_next (x := x) (n := la.length) (k := k) (by rw [hx]) e hk
      rw [this, hn, hx]
    rw [← hn, e3]
    have HF := Lib.hid (fun W' (hW : Ext w0 W') => FormatUint_any (la.getD n 0) W' (by omega) (hG.ext hW).tab)
    generalize la.getD n 0 = y at *
    generalize decDigits y = d at *
    have HI := Lib.hid hI
    have HK := Lib.hid (And.intro hk0 hk1)
    clear HC hI hk0 hk1 E0 ha s0 b0 hB0 hdone hx hG hxb
    by_cases h0 : k = 0
    · have HK0 := Lib.hid (HK.out.1 h0)
      have hnk : n = la.length - 1 := by omega
      have hi1 : ¬ (n : Int) < (la.length : Int) - 1 := by omega
      have hw1 : IntKind.i64.wrap ((la.length : Int) - 1) = (la.length : Int) - 1 := by rw [IntKind.wrap_i64]; omega
      clear HK h0 hn e3 hnk
      gi_wp2_with fail
      refine ⟨trivial, rfl, ?_⟩
      gi_at_call 129
      refine (callsIn_wide.2 (HF.out _ EW)).mono ?_
      rintro e w5 ⟨rfl, hE5⟩
      have b5 := hE5.cell b1
      have HWS := Lib.hid (WriteString_any bl w3.heap.size (txtK x la.length k) d w5 (HI.out.ext hE5) hl3 (Nat.le_trans hz hE5.size) (by omega))
      have E5 := EW.trans hE5
      have HE5 := Lib.hid hE5
      clear hE5 b1 HF HI
      gi_wp2_with fail
      refine ⟨trivial, rfl, ?_⟩
      gi_at_call 131
      refine (callsIn_wide.2 HWS.out).mono ?_
      rintro e w6 ⟨rfl, hB6, hL6, M, hM1, hM2, hM3⟩
      rw [← HK0.out] at hB6
      have hCC : Chg M W w6 := (Chg.ext HE5.out).trans hM1
      have hb6 : w6.cell? ⟨bb, 0, none⟩ = some (.slice a la.length ca) := hM1.cellAt b5 (fun h => by rcases hM2 _ h with h | h <;> dsimp only at h <;> omega)
      have HF := Lib.hid (show BldW bl w3.heap.size (txtK x la.length (k + 1)) w6 ∧ Ext w0 w6 ∧ w6.cell? ⟨bb, 0, none⟩ = some (.slice a la.length ca) ∧ w3.heap.size ≤ w6.heap.size from ⟨hB6, E5.trans' hL6 hwl, hb6, by have := hCC.1; omega⟩)
      have HM := Lib.hid (show (∀ b, M b → b ≠ sb ∧ w0.heap.size ≤ b) ∧ ∀ b, M b → ∀ o, W.heap[b]? = some o → o.isCells = true from ⟨fun b hb => by rcases hM2 b hb with h | h <;> exact ⟨by omega, by omega⟩, fun b hb o ho => hM3 b hb o (by rw [Below.block HE5.out b (Array.getElem?_eq_some_iff.1 ho).1]; exact ho)⟩)
      have HCC := Lib.hid hCC
      clear hB6 hL6 hb6 b5 hCC hM1 hM2 hM3 HWS
      gi_wp2
      exact ⟨⟨M, HCC.out, HM.out.1, HM.out.2⟩, HF.out⟩
    · have HK0 := Lib.hid (HK.out.2 (by omega))
      have hi1 : (n : Int) < (la.length : Int) - 1 := by omega
      have hw1 : IntKind.i64.wrap ((la.length : Int) - 1) = (la.length : Int) - 1 := by rw [IntKind.wrap_i64]; omega
      obtain ⟨q, hq⟩ : ∃ q, q = 9 - d.length := ⟨_, rfl⟩
      have hw2 : IntKind.i64.wrap (9 - (d.length : Int)) = (q : Int) := by rw [IntKind.wrap_i64]; omega
      rw [← hq] at HK0
      have HRP := Lib.hid (fun W' => Repeat_any q W' (by omega))
      have hql : q ≤ 9 := by omega
      clear HK h0 hn e3 hq
      gi_wp2_with fail
      refine ⟨trivial, rfl, ?_⟩
      gi_at_call 129
      refine (callsIn_wide.2 (HF.out _ EW)).mono ?_
      rintro e w4 ⟨rfl, hE4⟩
      have b4 := hE4.cell b1
      have E4 := EW.trans hE4
      have HI4 := Lib.hid (HI.out.ext hE4)
      have HE4 := Lib.hid hE4
      clear hE4 b1 HF HI
      gi_wp2_with fail
      refine ⟨trivial, rfl, ?_⟩
      gi_at_call 130
      refine (callsIn_wide.2 (HRP.out _)).mono ?_
      rintro e w5 ⟨rfl, hE5⟩
      have b5 := hE5.cell b4
      have E5 := E4.trans hE5
      have HE5 := Lib.hid (HE4.out.trans hE5)
      have hd2 : ((List.replicate q (48 : UInt8)) ++ d).length ≤ 18 := by rw [List.length_append, List.length_replicate]; omega
      have HWS := Lib.hid (WriteString_any bl w3.heap.size (txtK x la.length k) (List.replicate q 48 ++ d) w5 (HI4.out.ext hE5) hl3 (Nat.le_trans hz HE5.out.size) (by omega))
      clear hE5 b4 HI4
      have hsum : ¬ 9223372036854775807 < (List.replicate q (48 : UInt8)).length + d.length := by rw [List.length_replicate]; omega
      generalize List.replicate q (48 : UInt8) = r at *
      have happ := app_txt r d
      gi_wp2_with fail
      refine ⟨trivial, rfl, ?_⟩
      gi_at_call 131
      refine (callsIn_wide.2 HWS.out).mono ?_
      rintro e w6 ⟨rfl, hB6, hL6, M, hM1, hM2, hM3⟩
      rw [← HK0.out] at hB6
      have hCC : Chg M W w6 := (Chg.ext HE5.out).trans hM1
      have hb6 : w6.cell? ⟨bb, 0, none⟩ = some (.slice a la.length ca) := hM1.cellAt b5 (fun h => by rcases hM2 _ h with h | h <;> dsimp only at h <;> omega)
      have HF := Lib.hid (show BldW bl w3.heap.size (txtK x la.length (k + 1)) w6 ∧ Ext w0 w6 ∧ w6.cell? ⟨bb, 0, none⟩ = some (.slice a la.length ca) ∧ w3.heap.size ≤ w6.heap.size from ⟨hB6, E5.trans' hL6 hwl, hb6, by have := hCC.1; omega⟩)
      have HM := Lib.hid (show (∀ b, M b → b ≠ sb ∧ w0.heap.size ≤ b) ∧ ∀ b, M b → ∀ o, W.heap[b]? = some o → o.isCells = true from ⟨fun b hb => by rcases hM2 b hb with h | h <;> exact ⟨by omega, by omega⟩, fun b hb o ho => hM3 b hb o (by rw [Below.block HE5.out b (Array.getElem?_eq_some_iff.1 ho).1]; exact ho)⟩)
      have HCC := Lib.hid hCC
      clear hB6 hL6 hb6 b5 hCC hM1 hM2 hM3 HWS
      gi_wp2
      exact ⟨⟨M, HCC.out, HM.out.1, HM.out.2⟩, HF.out⟩
set_option maxHeartbeats 4000000 in
set_option maxRecDepth 100000 in
theorem text_any (x : Nat) (la : List Nat) (a : Option Addr) (ca : Nat) (w : World) (hx : la = toB 1000000000 x) (hla : la.length ≤ 200) (hG : Glob w) (ha : CellsN .u64 w a la) :
    Calls Tryz.prog 108 #[.slice a la.length ca] w fun e w' => e = .returned (txt (decDigits x)) ∧ Ext w w' := by
  have HX := Lib.hid hx
  have HA := Lib.hid ha
  have HG := Lib.hid hG
  clear hx ha hG
  refine (callsIn_wide (n := 0)).1 ?_
  refine callsIn_of_wp_marks Tryz.func108 rfl trivial ?_
  simp only [Tryz.ntmps108, List.size_toArray, List.length_cons, List.length_nil, Nat.reduceAdd, Nat.reduceSub, Array.replicate_succ, Array.replicate_zero, List.push_toArray, List.append_toArray, List.nil_append, List.cons_append]
  by_cases h0 : la.length = 0
  · have hx0 : decDigits x = [48] := by
      have hl0 : la = [] := List.length_eq_zero_iff.1 h0
      have : x = 0 := (toB_nil (by omega)).1 (HX.out.symm.trans hl0)
      rw [this, digits_small (by omega)]; rfl
    have hn0 : ((la.length : Int) == 0) = true := by simp [h0]
    have E : Ext w (w.alloc (.cells #[.slice a la.length ca] 141)) := extA
    have HXX := Lib.hid hx0
    clear h0 hx0
    gi_wp2
    refine leaves_cells (v := txt [48]) (n := w.heap.size) [] _ (Marks.nil _ _) (fun W6 hk => ⟨(results_tmp (t := 2) rfl _ _ _).trans rfl, by rw [HXX.out], E.trans' hk.1 (Nat.le_refl _)⟩)
  · have hn0 : ((la.length : Int) == 0) = false := by rw [beq_eq_false_iff_ne]; omega
    have EV : Ext w (((w.alloc (.cells #[.slice a la.length ca] 141)).alloc (.cells #[.pointer none, .slice none 0 0] 188)).alloc (.cells #[.slice a la.length ca] 141)) := extA
    have b3 : ((((w.alloc (.cells #[.slice a la.length ca] 141)).alloc (.cells #[.pointer none, .slice none 0 0] 188)).alloc (.cells #[.slice a la.length ca] 141))).cell? ⟨w.heap.size, 0, none⟩ = some (.slice a la.length ca) := by go_simp
    have s3 : ((((w.alloc (.cells #[.slice a la.length ca] 141)).alloc (.cells #[.pointer none, .slice none 0 0] 188)).alloc (.cells #[.slice a la.length ca] 141))).cell? ⟨w.heap.size + 1 + 1, 0, none⟩ = some (.slice a la.length ca) := by go_simp
    have hs3 : ((w.alloc (.cells #[.slice a la.length ca] 141)).alloc (.cells #[.pointer none, .slice none 0 0] 188)).heap.size = w.heap.size + 1 + 1 := by simp
    have hb3 : (((w.alloc (.cells #[.slice a la.length ca] 141)).alloc (.cells #[.pointer none, .slice none 0 0] 188)).alloc (.cells #[.slice a la.length ca] 141)).heap[w.heap.size + 1]? = some (.cells #[.pointer none, .slice none 0 0] 188 (0, 0)) := by
      have h1 : ((w.alloc (.cells #[.slice a la.length ca] 141)).alloc (.cells #[.pointer none, .slice none 0 0] 188)).heap[w.heap.size + 1]? = some (.cells #[.pointer none, .slice none 0 0] 188 (0, 0)) := by
        have := World.alloc_heap_new (w.alloc (.cells #[.slice a la.length ca] 141)) (.cells #[.pointer none, .slice none 0 0] 188)
        rwa [World.size_alloc] at this
      exact (Below.heap_alloc _ _ _ (by simp)).trans h1
    gi_wp2_with fail
    refine ⟨trivial, rfl, ?_⟩
    gi_at_call 122
    refine (callsIn_wide.2 (Backward_any a la.length ca _)).mono ?_
    rintro e w3 ⟨rfl, rfl⟩
    rw [hs3]
    clear hs3
    generalize (((w.alloc (.cells #[.slice a la.length ca] 141)).alloc (.cells #[.pointer none, .slice none 0 0] 188)).alloc (.cells #[.slice a la.length ca] 141)) = w3 at EV b3 s3 hb3 ⊢
    have hz3 := EV.size
    have hsz : w.heap.size + 1 + 1 < w3.heap.size := cell_lt s3
    gi_wp2_with fail
    refine wpIn_wide.2 (text_range _ _ rfl x la a ca w w3 (w.heap.size + 1 + 1) w.heap.size (w.heap.size + 1) hla HX.out HG.out HA.out EV s3 b3 (BldW.fresh hb3) (by omega) (by omega) (by omega) (by omega) _ _ _ _ _ _ _ _ _ _ _ _ _ _ _ _ _ _ _ _ _ _ _ _ _ _ [] _ ?_)
    intro D W k1 k2 hW E4 hD
    have ht : txtK x la.length la.length = decDigits x := by
      unfold txtK
      rw [if_neg h0, Nat.sub_self, Nat.pow_zero, Nat.div_one]
    rw [ht] at hW
    have hz4 := E4.size
    have HS := Lib.hid (Tryz.Builder_String_any_k (w.heap.size + 1) (w.heap.size + 1) (decDigits x) W (Lib.IsBuilderF.of (hW.is (by omega))) (by omega))
    have HD := Lib.hid hD
    clear b3 s3 hb3 hW hD ht
    gi_wp2_with fail
    refine ⟨trivial, rfl, ?_⟩
    gi_at_call 132
    refine (callsIn_wide.2 HS.out).mono ?_
    rintro e w5 ⟨rfl, _, hE5, hO5⟩
    have E5 := E4.trans' hE5 (Nat.le_succ _)
    have HD5 : Hid (w5.heap[D]? = some (.deferred (some []))) := by
      show _ = _
      exact hO5 D _ HD.out (fun e => by cases e; omega) (fun _ _ h => by cases h)
    clear hE5 hO5 HD HS E4
    gi_wp2
    refine leaves_cells (v := txt (decDigits x)) (n := w3.heap.size) [mark D] _ ⟨[D], rfl, by simp, fun E hE => by simp at hE; subst hE; exact ⟨k1, HD5.out⟩⟩ (fun W6 hk => ⟨(results_tmp (t := 2) rfl _ _ _).trans rfl, rfl, E5.trans' hk.1 hz3⟩)
end Go.Proofs.YtbpjbhbbkonjlaaGreatDoor
namespace Go.Proofs.YtbpjbhbbkonjlaaGreatDoor
open Go.RowKit
open Go.Lib (decDigits)
theorem dig_mod {z k : Nat} (hk : k < 6) : z % 1000000 / 10 ^ k % 10 = z / 10 ^ k % 10 := by
  rcases k with _ | _ | _ | _ | _ | _ | k <;> (try simp only [Nat.zero_add, Nat.reduceAdd, Nat.reducePow]) <;> omega
structure DigK (x i k n : Nat) (s : List UInt8) (last : Prop) : Prop where
  s : s = padD (6 * i + k) x
  n : n = x / 1000000 ^ i % 1000000 / 10 ^ k
  hi : last → x / 1000000 ^ (i + 1) = 0 ∧ x / 1000000 ^ i ≠ 0
  pos : last → 0 < k → x / 1000000 ^ i % 1000000 / 10 ^ (k - 1) ≠ 0
theorem DigK.next {x i k n : Nat} {s : List UInt8} {last : Prop} (h : DigK x i k n s last) (hk : k < 6) (hn : last → n ≠ 0) : DigK x i (k + 1) (n / 10) (UInt8.ofNat (48 + n % 10) :: s) last := by
  refine ⟨?_, ?_, h.hi, fun hl _ => ?_⟩
  · rw [h.s, show 6 * i + (k + 1) = (6 * i + k) + 1 by omega, padD_cons]
    have e : x / 10 ^ (6 * i + k) % 10 = n % 10 := by
      rw [h.n, dig_mod hk, Nat.div_div_eq_div_mul, Nat.pow_add, Nat.pow_mul]
    rw [e]
  · rw [h.n, Nat.div_div_eq_div_mul, Nat.pow_succ]
  · rw [Nat.add_sub_cancel, ← h.n]; exact hn hl
theorem DigK.outer {x i n : Nat} {s : List UInt8} {last : Prop} (h : DigK x i 6 n s last) : s = padD (6 * (i + 1)) x := by
  rw [h.s, show 6 * i + 6 = 6 * (i + 1) by omega]
theorem DigK.done {x i k : Nat} {s : List UInt8} {last : Prop} (h : DigK x i k 0 s last) (hl : last) (hk : k ≤ 6) : s = decDigits x := by
  obtain ⟨h1, h2⟩ := h.hi hl
  have hx : x / 1000000 ^ i % 1000000 = x / 1000000 ^ i := by
    rw [Nat.pow_succ, ← Nat.div_div_eq_div_mul] at h1
    exact Nat.mod_eq_of_lt ((Nat.div_eq_zero_iff_lt (by omega)).1 h1)
  have hn := h.n
  have hp := h.pos hl
  rw [hx] at hn hp
  have hk0 : 0 < k := by
    rcases Nat.eq_zero_or_pos k with e | e
    · subst e; rw [Nat.pow_zero, Nat.div_one] at hn; exact absurd hn.symm h2
    · exact e
  have hp := hp hk0
  have e1 : x / 10 ^ (6 * i + k) = 0 := by
    rw [Nat.pow_add, Nat.pow_mul, ← Nat.div_div_eq_div_mul]; exact hn.symm
  have e2 : x / 10 ^ (6 * i + k - 1) ≠ 0 := by
    rw [show 6 * i + k - 1 = 6 * i + (k - 1) by omega, Nat.pow_add, Nat.pow_mul, ← Nat.div_div_eq_div_mul]; exact hp
  rw [h.s]
  refine padD_all (by omega) ((Nat.div_eq_zero_iff_lt (Nat.pow_pos (by omega))).1 e1) ?_
  rcases Nat.lt_or_ge x (10 ^ (6 * i + k - 1)) with h5 | h5
  · exact absurd (Nat.div_eq_of_lt h5) e2
  · exact h5
end Go.Proofs.YtbpjbhbbkonjlaaGreatDoor
namespace Go.Proofs.YtbpjbhbbkonjlaaGreatDoor
open Go.RowKit
open Go.Lib (decDigits)
theorem take_drop_snoc {s : Txt} {st i : Nat} (h1 : st ≤ i) (h2 : i < s.length) : (s.take (i + 1)).drop st = (s.take i).drop st ++ [s[i]] := by
  rw [List.take_add_one, List.getElem?_eq_getElem h2, List.drop_append_of_le_length (by rw [List.length_take]; omega)]
  rfl
set_option maxHeartbeats 4000000 in
set_option maxRecDepth 100000 in
theorem readR_any (s : Txt) (w : World) (hs : DigitL s) (hl : s.length ≤ 500) :
    Calls Tryz.prog 53 #[txt s] w (OwnNPost .i64 3 (toB 1000000 (decV s)) w) := by
  obtain ⟨i0, hi, hi0, hi1, hi2⟩ := info_parts infoI64
  have HS := Lib.hid hs
  clear hs
  go_enter Tryz.func53, Tryz.ntmps53
  go_wp2
  go_loopw [3, 4] (fun v en wr => ∃ (vv : Value) (o : List Nat), v = vv ∧ en = .int .i64 ((s.length : Int) - 6 * (o.length : Int)) ∧ 6 * o.length ≤ s.length + 6 ∧ Hid (ReadI 6 s o) ∧ Hid (OwnsN .i64 3 wr vv o) ∧ Hid (∀ b, vv.ownBlock = some b → w.heap.size ≤ b) ∧ Ext w wr) (fun _ en _ => (intOf en).toNat)
  case atStart => exact ⟨_, [], rfl, by simp, by simp, ReadI.start 6 s, OwnsN.nil _ _ _, (fun b hb => by cases hb), Ext.refl _⟩
  case round =>
    obtain ⟨vv, o, hvv, rfl, hol, HR, HO, HN, he⟩ := hrel
    obtain rfl := hvv.symm
    by_cases hgt : 6 * o.length < s.length
    · obtain ⟨en, hen⟩ : ∃ en, en = s.length - 6 * o.length := ⟨_, rfl⟩
      have hee : (s.length : Int) - 6 * (o.length : Int) = (en : Int) := by omega
      have he0 : (0 : Int) < (en : Int) := by omega
      have hes : en ≤ s.length := by omega
      obtain ⟨st, hst⟩ : ∃ st, st = en - 6 := ⟨_, rfl⟩
      have hw1 : IntKind.i64.wrap ((en : Int) - 6) = (en : Int) - 6 := by rw [IntKind.wrap_i64]; omega
      have hmx : max (0 : Int) ((en : Int) - 6) = (st : Int) := by omega
      have hst1 : st ≤ en := by omega
      have hst2 : en ≤ st + 6 := by omega
      have hnx := HR.out.next (by omega) HS.out
      rw [← hen, ← hst] at hnx
      have HNX := Lib.hid hnx
      have HEN := Lib.hid hen
      rw [hee]
      have hol2 : o.length ≤ 100 := by omega
      have hEnd : Hid (∀ x : Nat, (en : Int) - 6 = (s.length : Int) - 6 * ((o ++ [x]).length : Int)) := by
        intro x
        rw [List.length_append, List.length_singleton]; omega
      have hlo : Hid (∀ x : Nat, 6 * (o ++ [x]).length ≤ s.length + 6) := by
        intro x
        rw [List.length_append, List.length_singleton]; omega
      have HMS : Hid (((en : Int) - 6).toNat < en) := by show _ < _; omega
      clear hee HEN HR hen hnx hst
      obtain ⟨wo, hwo⟩ : ∃ wo, wo = wr := ⟨wr, rfl⟩
      subst hwo
      go_wp2
      go_loop [5, 6] (fun n i => ∃ (k m : Nat), st ≤ k ∧ k ≤ en ∧ i = .int .i64 k ∧ n = .int .i64 m ∧ Hid (m = decV ((s.take k).drop st)) ∧ m < 1000000) (fun _ i => en - (intOf i).toNat)
      case atStart => exact ⟨st, 0, by omega, hst1, rfl, rfl, by show _ = _; rw [List.drop_eq_nil_of_le (by rw [List.length_take]; omega)]; rfl, by omega⟩
      case round =>
        obtain ⟨k, m, hk1, hk2, rfl, rfl, hm, hm6⟩ := hrel
        by_cases hlt : k < en
        · obtain ⟨c, hc⟩ : ∃ c, c = s[k]'(by omega) := ⟨_, rfl⟩
          have hget : ∀ h, (⟨s.toArray⟩ : ByteArray)[k]'h = c := fun h => by rw [hc]; rfl
          have hcd : 48 ≤ c.toNat ∧ c.toNat ≤ 57 := HS.out c (by rw [hc]; exact List.getElem_mem _)
          have hdl : ((s.take k).drop st).length ≤ 5 := by rw [List.length_drop, List.length_take]; omega
          have hdd : DigitL ((s.take k).drop st) := (HS.out.of_take k).of_drop st
          have hmlt : m < 100000 := by
            rw [hm.out]
            refine Nat.lt_of_lt_of_le (decV_lt hdd) ?_
            exact Nat.le_trans (Nat.pow_le_pow_right (by omega) hdl) (by decide)
          have HM2 : Hid (10 * m + (c.toNat - 48) = decV ((s.take (k + 1)).drop st)) := by
            show _ = _
            rw [take_drop_snoc hk1 (by omega), decV_snoc, ← hm.out, hc]
          obtain ⟨q, hq⟩ : ∃ q, q = 10 * m + (c.toNat - 48) := ⟨_, rfl⟩
          rw [← hq] at HM2
          have hw2 : IntKind.i64.wrap (10 * (m : Int)) = 10 * (m : Int) := by rw [IntKind.wrap_i64]; omega
          have hw3 : IntKind.u8.wrap ((c.toNat : Int) - 48) = (c.toNat : Int) - 48 := by rw [IntKind.wrap_u8]; omega
          have hw4 : IntKind.i64.wrap ((c.toNat : Int) - 48) = (c.toNat : Int) - 48 := by rw [IntKind.wrap_i64]; omega
          have hw5 : IntKind.i64.wrap (10 * (m : Int) + ((c.toNat : Int) - 48)) = (q : Int) := by rw [IntKind.wrap_i64]; omega
          have hkl : (k : Int) < (s.length : Int) := by omega
          have hq6 : q < 1000000 := by omega
          clear hc hq hdl hdd hm
          go_wp2
          refine ⟨⟨k + 1, q, by omega, by omega, by go_num, rfl, HM2, hq6⟩, by simp [intOf]; omega⟩
        · have hke : k = en := by omega
          have HX : Hid (m = decV ((s.take en).drop st)) := by show _ = _; rw [← hke]; exact hm.out
          rw [← HX.out] at HNX
          clear hm hke
          have hol3 : o.length ≤ 100 := hol2
          go_wp2_with (at_builtin; refine wpList_append1 _ rfl _ _ 103 rfl 3 i0 (.int .i64 0) 1 8 Tryz.underlying103 hi hi0 hi1 hi2 rfl (by decide) vv o.length (natsV .i64 o) rfl (HO.out.ext ((Ext.refl _).alloc _)) ⟨wo.heap.size, 0, none⟩ 1 1 (by decide) [.int .i64 (m : Int)] rfl rfl (cells_one _ _ _) (by intro u hu; simp at hu; subst hu; rfl) (by unfold maxLen; omega) (by omega) ?_)
          all_goals
            intro v' w5 hown5 hend5
            have OB5 : Hid (∀ b, v'.ownBlock = some b → w.heap.size ≤ b) := hend5.ge (n := w.heap.size) (by have := he.size; simp; omega) HN.out
            have O5 : Hid (OwnsN .i64 3 w5 v' (o ++ [m])) := ownsN_succ hown5
            have B5 : Ext w w5 := (he.trans ((Ext.refl _).alloc _)).trans' (hend5.below (n := w.heap.size) (by have := he.size; simp; omega) HN.out) (Nat.le_refl _)
            clear hown5 hend5 HO
            go_wp2
            refine ⟨⟨v', o ++ [m], rfl, by rw [← hEnd.out m], hlo.out m, HNX, O5, OB5, B5⟩, by simp [intOf]; exact HMS.out⟩
    · have he0 : ¬ (0 : Int) < (s.length : Int) - 6 * (o.length : Int) := by omega
      have hdone : trimL o = toB 1000000 (decV s) := HR.out.done (by omega) (by omega)
      obtain ⟨oa, oc, rfl, hoc, hor, _⟩ := HO.out.reads
      have HNB : Hid (∀ b, (Value.slice oa (trimL o).length oc).ownBlock = some b → w.heap.size ≤ b) := fun b hb => HN.out b (by cases oa <;> exact hb)
      have HT := Lib.hid (trimR_any o oa oc wr hor hoc)
      have HDN := Lib.hid hdone
      clear hoc hor hdone
      generalize (s.length : Int) - 6 * (o.length : Int) = z at *
      go_wp2_with (go_at_call 75; refine HT.out.mono ?_; rintro e w5 ⟨rfl, hn5, hE5⟩)
      go_ret
      refine ⟨_, rfl, ?_, HNB.out, he.trans hE5⟩
      rw [← HDN.out]
      exact (HO.out.ext hE5).trim hn5
end Go.Proofs.YtbpjbhbbkonjlaaGreatDoor
namespace Go.Proofs.YtbpjbhbbkonjlaaGreatDoor
open Go.RowKit
open Go.Lib (decDigits)
set_option maxHeartbeats 4000000 in
set_option maxRecDepth 100000 in
theorem bareR_any (s : Txt) (w : World) (hl : s.length ≤ 400) :
    Calls Tryz.prog 54 #[txt s] w fun e w' => e = .returned (txt (bareS s)) ∧ w' = w := by
  cases s with
  | nil =>
    go_enter Tryz.func54, Tryz.ntmps54
    go_wp2
    go_ret
    exact ⟨rfl, rfl⟩
  | cons c m =>
    have hl2 : m.length + 1 ≤ 400 := by simpa using hl
    have hget : ∀ h, (⟨(c :: m).toArray⟩ : ByteArray)[0]'h = c := fun _ => rfl
    have hpos : 0 < (c :: m).length := by simp
    by_cases hc : c = 45
    · subst hc
      have hb : Hid (bareS (45 :: m) = m) := by show _ = _; unfold bareS negS; rfl
      have hex := extract_txt (45 :: m) 1 (45 :: m).length
      rw [List.take_length] at hex
      have h1 : (1 : Int) ≤ ((45 :: m : Txt).length : Int) := by simp; omega
      go_enter Tryz.func54, Tryz.ntmps54
      go_wp2
      go_ret
      rw [hb.out]
      exact ⟨congrArg (fun z => Ending.returned (Value.string z)) hex, rfl⟩
    · have hb : Hid (bareS (c :: m) = c :: m) := by
        show _ = _
        unfold bareS negS
        rw [if_neg (by simpa using hc)]
      have hne : ((c.toNat : Int) == 45) = false := by
        rw [beq_eq_false_iff_ne]
        intro e
        exact hc (UInt8.toNat_inj.1 (by show c.toNat = 45; omega))
      go_enter Tryz.func54, Tryz.ntmps54
      go_wp2
      go_ret
      rw [hb.out]
      exact ⟨rfl, rfl⟩
theorem bare_le (s : Txt) : (bareS s).length ≤ s.length := by
  unfold bareS
  split
  · rw [List.length_tail]; omega
  · exact Nat.le_refl _
theorem bool_of {p : Prop} [Decidable p] {b : Bool} (h : b = true ↔ p) : decide p = b := by
  cases b with
  | true => exact decide_eq_true (h.1 rfl)
  | false => exact decide_eq_false (fun k => by cases h.2 k)
theorem digitL_succ {d : Txt} {k : Nat} (h : DigitL (d.take k)) (hk : k < d.length) (hd : 48 ≤ d[k].toNat ∧ d[k].toNat ≤ 57) : DigitL (d.take (k + 1)) := fun c hc => by
  rw [List.take_add_one, List.getElem?_eq_getElem hk] at hc
  rcases List.mem_append.1 hc with h1 | h1
  · exact h c h1
  · have : c = d[k] := by simpa using h1
    rw [this]; exact hd
set_option maxHeartbeats 4000000 in
set_option maxRecDepth 100000 in
theorem textR_any (s : Txt) (w : World) (hl : s.length ≤ 400) :
    Calls Tryz.prog 73 #[txt s] w fun e w' => e = .returned (.bool (decide (IntS s))) ∧ w' = w := by
  have HB := Lib.hid (fun W => bareR_any s W hl)
  have HI : Hid (∀ b : Bool, (b = true ↔ CanonL (bareS s) ∧ s ≠ [45, 48]) → decide (IntS s) = b) := fun b h => bool_of h
  have HN : Hid (negS s = false → bareS s = s) := fun h => bare_pos h
  have HN2 : Hid (negS s = true → s = 45 :: bareS s) := fun h => neg_cons h
  have hdl := bare_le s
  obtain ⟨f, hf⟩ : ∃ f, f = decide (IntS s) := ⟨_, rfl⟩
  rw [← hf]
  have HF := Lib.hid hf
  clear hf
  generalize bareS s = d at *
  by_cases hd : d = []
  · subst hd
    have hF : Hid (f = false) := HF.out.trans (HI.out false ⟨(fun h => by cases h), fun h => absurd rfl h.1.2.1⟩)
    clear HI HF HN HN2
    go_enter Tryz.func73, Tryz.ntmps73
    go_wp2_with (go_at_call 54; refine (HB.out _).mono ?_; rintro e w' ⟨rfl, rfl⟩)
    go_ret
    exact ⟨ret_bool hF.out.symm, rfl⟩
  · obtain ⟨c, m, rfl⟩ := List.exists_cons_of_ne_nil hd
    clear hd
    have hget : ∀ h, (⟨(c :: m).toArray⟩ : ByteArray)[0]'h = c := fun _ => rfl
    have hpos : 0 < (c :: m).length := by simp
    have hnz : (((c :: m : Txt).length : Int) == 0) = false := by rw [beq_eq_false_iff_ne]; simp; omega
    have hpos2 : 1 ≤ (c :: m).length := by simp
    have hcc : c = 48 ∨ ((c.toNat : Int) == 48) = false := by
      by_cases h : c = 48
      · exact .inl h
      · refine .inr ?_
        rw [beq_eq_false_iff_ne]
        intro e
        exact h (UInt8.toNat_inj.1 (by show c.toNat = 48; omega))
    by_cases hbad : c = 48 ∧ 1 < s.length
    · obtain ⟨rfl, hs1⟩ := hbad
      have hF : Hid (f = false) := HF.out.trans (HI.out false ⟨(fun h => by cases h), fun h => by
        exfalso
        obtain ⟨⟨_, _, h3⟩, h4⟩ := h
        rcases h3 with h3 | h3
        · exact h3 rfl
        · have hm : m = [] := by simpa using h3
          subst hm
          cases hn : negS s with
          | false => rw [← HN.out hn] at hs1; simp at hs1
          | true => exact h4 (HN2.out hn)⟩)
      have hs2 : (1 : Int) < (s.length : Int) := by omega
      clear HI HF HN HN2 hcc
      go_enter Tryz.func73, Tryz.ntmps73
      go_wp2_with (go_at_call 54; refine (HB.out _).mono ?_; rintro e w' ⟨rfl, rfl⟩)
      go_ret
      exact ⟨ret_bool hF.out.symm, rfl⟩
    · have HR : Hid (f = decide (DigitL (c :: m))) := by
        refine HF.out.trans (HI.out _ ⟨fun h => ?_, fun h => decide_eq_true h.1.1⟩)
        have hdig := of_decide_eq_true h
        refine ⟨⟨hdig, by simp, ?_⟩, ?_⟩
        · by_cases h48 : c = 48
          · subst h48
            have hs1 : s.length ≤ 1 := by
              rcases Nat.lt_or_ge 1 s.length with h5 | h5
              · exact absurd ⟨rfl, h5⟩ hbad
              · exact h5
            have hm : m = [] := List.length_eq_zero_iff.1 (by simp at hdl; omega)
            exact .inr (by rw [hm])
          · exact .inl (by simpa using h48)
        · intro e
          subst e
          have h5 := HN2.out rfl
          simp only [List.cons.injEq, true_and] at h5
          exact hbad ⟨h5.1.symm, by simp⟩
      have hs2 : c = 48 → ¬ (1 : Int) < (s.length : Int) := fun h => by
        rcases Nat.lt_or_ge 1 s.length with h5 | h5
        · exact absurd ⟨h, h5⟩ hbad
        · omega
      clear HI HF HN HN2 hbad
      have hcc2 : (((c.toNat : Int) == 48) = true ∧ ¬ (1 : Int) < (s.length : Int)) ∨ ((c.toNat : Int) == 48) = false := by
        rcases hcc with h | h
        · exact .inl ⟨by rw [h]; rfl, hs2 h⟩
        · exact .inr h
      clear hcc hs2 hpos2
      generalize hdd : (c :: m : Txt) = d at *
      clear hdd
      rcases hcc2 with ⟨hcc, hs3⟩ | hcc
      all_goals
        go_enter Tryz.func73, Tryz.ntmps73
        go_wp2_with (go_at_call 54; refine (HB.out _).mono ?_; rintro e w' ⟨rfl, rfl⟩)
        have hdl4 : d.length ≤ 400 := by omega
        go_loop [4] (fun i => ∃ k : Nat, k ≤ d.length ∧ i = .int .i64 k ∧ Hid (DigitL (d.take k))) (fun i => d.length - (intOf i).toNat)
        case atStart => exact ⟨0, by omega, rfl, (fun c hc => by simp at hc)⟩
        case round =>
          obtain ⟨k, hk, rfl, hD⟩ := hrel
          by_cases hlt : k < d.length
          · obtain ⟨x, hx⟩ : ∃ x, x = d[k]'hlt := ⟨_, rfl⟩
            have hgx : ∀ h, (⟨d.toArray⟩ : ByteArray)[k]'h = x := fun h => by rw [hx]; rfl
            have hkl : (k : Int) < (d.length : Int) := by omega
            by_cases hgd : 48 ≤ x.toNat ∧ x.toNat ≤ 57
            · have HD2 := Lib.hid (digitL_succ hD.out hlt (hx ▸ hgd))
              obtain ⟨hg1, hg2⟩ := hgd
              have hg3 : ¬ ((x.toNat : Int) < 48) := by omega
              have hg4 : ¬ (57 < (x.toNat : Int)) := by omega
              clear hx hD
              go_wp2
              refine ⟨⟨k + 1, by omega, by go_num, HD2⟩, by simp [intOf]; omega⟩
            · have hF : Hid (f = false) := by
                show _ = _
                rw [HR.out]
                exact decide_eq_false (fun h => hgd (h x (by rw [hx]; exact List.getElem_mem _)))
              clear hx hD HR
              by_cases hg1 : (x.toNat : Int) < 48
              · go_wp2
                go_ret
                exact ⟨ret_bool hF.out.symm, rfl⟩
              · have hg2 : 57 < (x.toNat : Int) := by omega
                go_wp2
                go_ret
                exact ⟨ret_bool hF.out.symm, rfl⟩
          · have hkd : k = d.length := by omega
            have hF : Hid (f = true) := by
              show _ = _
              rw [HR.out]
              have h1 := hD.out
              rw [hkd, List.take_length] at h1
              exact decide_eq_true h1
            clear hD HR hkd
            go_wp2
            go_ret
            exact ⟨ret_bool hF.out.symm, rfl⟩
set_option maxHeartbeats 4000000 in
set_option maxRecDepth 100000 in
theorem integerR_any (s : Txt) (w : World) (hl : s.length ≤ 400) :
    Calls Tryz.prog 49 #[txt s] w fun e w' => e = .returned (.int .i64 (intE s : Nat)) ∧ w' = w := by
  have HB := Lib.hid (fun W => bareR_any s W hl)
  have HT := Lib.hid (fun W => textR_any s W hl)
  have hbl := bare_le s
  by_cases h1 : IntS s
  · rw [decide_eq_true h1] at HT
    by_cases h2 : 60 < (bareS s).length
    · have hE : Hid (intE s = 11) := by show _ = _; unfold intE; rw [if_neg (not_not_intro h1), if_pos h2]
      have h3 : (60 : Int) < ((bareS s).length : Int) := by omega
      clear h1
      rw [hE.out]
      generalize bareS s = d at *
      go_enter Tryz.func49, Tryz.ntmps49
      go_wp2_with (first
        | (go_at_call 54; refine (HB.out _).mono ?_; rintro e w' ⟨rfl, rfl⟩)
        | (go_at_call 73; refine (HT.out _).mono ?_; rintro e w' ⟨rfl, rfl⟩))
      go_ret
      exact ⟨rfl, rfl⟩
    · have hE : Hid (intE s = 0) := by show _ = _; unfold intE; rw [if_neg (not_not_intro h1), if_neg h2]
      have h3 : ¬ (60 : Int) < ((bareS s).length : Int) := by omega
      clear h1
      rw [hE.out]
      generalize bareS s = d at *
      go_enter Tryz.func49, Tryz.ntmps49
      go_wp2_with (first
        | (go_at_call 54; refine (HB.out _).mono ?_; rintro e w' ⟨rfl, rfl⟩)
        | (go_at_call 73; refine (HT.out _).mono ?_; rintro e w' ⟨rfl, rfl⟩))
      go_ret
      exact ⟨rfl, rfl⟩
  · rw [decide_eq_false h1] at HT
    have hE : Hid (intE s = 3) := by show _ = _; unfold intE; rw [if_pos h1]
    clear h1
    rw [hE.out]
    go_enter Tryz.func49, Tryz.ntmps49
    go_wp2_with (go_at_call 73; refine (HT.out _).mono ?_; rintro e w' ⟨rfl, rfl⟩)
    go_ret
    exact ⟨rfl, rfl⟩
end Go.Proofs.YtbpjbhbbkonjlaaGreatDoor
namespace Go.Proofs.YtbpjbhbbkonjlaaGreatDoor
open Go.RowKit
open Go.Lib (decDigits)
set_option maxHeartbeats 4000000 in
set_option maxRecDepth 100000 in
theorem slashR_any (a : Txt) (w : World) (hl : a.length ≤ 400) :
    Calls Tryz.prog 50 #[txt a] w fun e w' => e = .returned (.int .i64 (if 47 ∈ a then ((topS a).length : Int) else -1)) ∧ w' = w := by
  obtain ⟨z, hz⟩ : ∃ z : Int, z = if 47 ∈ a then ((topS a).length : Int) else -1 := ⟨_, rfl⟩
  rw [← hz]
  have HZ := Lib.hid hz
  clear hz
  go_enter Tryz.func50, Tryz.ntmps50
  go_wp2
  go_loop [3] (fun i => ∃ k : Nat, k ≤ a.length ∧ i = .int .i64 k ∧ Hid ((47 : UInt8) ∉ a.take k)) (fun i => a.length - (intOf i).toNat)
  case atStart => exact ⟨0, by omega, rfl, by show _ ∉ _; simp⟩
  case round =>
    obtain ⟨k, hk, rfl, hD⟩ := hrel
    by_cases hlt : k < a.length
    · obtain ⟨x, hx⟩ : ∃ x, x = a[k]'hlt := ⟨_, rfl⟩
      have hgx : ∀ h, (⟨a.toArray⟩ : ByteArray)[k]'h = x := fun h => by rw [hx]; rfl
      have hkl : (k : Int) < (a.length : Int) := by omega
      have hsp : a = a.take k ++ x :: a.drop (k + 1) := by rw [hx, List.getElem_cons_drop, List.take_append_drop]
      by_cases h47 : x = 47
      · have hF : Hid (z = (k : Int)) := by
          show _ = _
          have h1 : topS a = a.take k := by
            rw [h47] at hsp
            have h2 := (split_app (a.take k) (a.drop (k + 1)) hD.out).1
            rw [← hsp] at h2
            exact h2
          have hm : (47 : UInt8) ∈ a := by rw [hsp, h47]; simp
          rw [HZ.out, if_pos hm, h1, List.length_take]; omega
        have hg : ((x.toNat : Int) == 47) = true := by rw [h47]; rfl
        clear hx hsp hD h47 HZ
        go_wp2
        go_ret
        rw [hF.out]
        exact ⟨rfl, rfl⟩
      · have hg : ((x.toNat : Int) == 47) = false := by
          rw [beq_eq_false_iff_ne]
          intro e
          exact h47 (UInt8.toNat_inj.1 (by show x.toNat = 47; omega))
        have HD2 : Hid ((47 : UInt8) ∉ a.take (k + 1)) := by
          show _ ∉ _
          rw [List.take_add_one, List.getElem?_eq_getElem hlt, ← hx]
          intro h
          rcases List.mem_append.1 h with h | h
          · exact hD.out h
          · have h9 : 47 = x := by simpa using h
            exact h47 h9.symm
        clear hx hsp hD h47
        go_wp2
        refine ⟨⟨k + 1, by omega, by go_num, HD2⟩, by simp [intOf]; omega⟩
    · have hF : Hid (z = -1) := by
        show _ = _
        have h1 := hD.out
        rw [List.take_of_length_le (by omega)] at h1
        rw [HZ.out, if_neg h1]
      clear hD HZ
      go_wp2
      go_ret
      rw [hF.out]
      exact ⟨rfl, rfl⟩
set_option maxHeartbeats 4000000 in
set_option maxRecDepth 100000 in
theorem splitR_any (a : Txt) (w : World) (hl : a.length ≤ 400) :
    Calls Tryz.prog 48 #[txt a] w fun e w' => e = .returned (.tuple #[txt (topS a), txt (lowS a)]) ∧ Ext w w' := by
  have HS := Lib.hid (fun W => slashR_any a W hl)
  by_cases h47 : (47 : UInt8) ∈ a
  · have hsp := split_some h47
    obtain ⟨t, ht⟩ : ∃ t, t = topS a := ⟨_, rfl⟩
    obtain ⟨l, hll⟩ : ∃ l, l = lowS a := ⟨_, rfl⟩
    rw [if_pos h47] at HS
    rw [← ht, ← hll] at hsp ⊢
    rw [← ht] at HS
    have hal : a.length = t.length + 1 + l.length := by rw [hsp, List.length_append, List.length_cons]; omega
    have e1 := extract_txt a 0 t.length
    have e2 := extract_txt a (t.length + 1) a.length
    have h1 : (a.take t.length).drop 0 = t := by rw [List.drop_zero, hsp, List.take_left']; rfl
    have h2 : (a.take a.length).drop (t.length + 1) = l := by rw [List.take_length, hsp, List.drop_append]; simp
    rw [h1] at e1
    rw [h2] at e2
    have hb1 : (0 : Int) ≤ (t.length : Int) := by omega
    have hb2 : (t.length : Int) ≤ (a.length : Int) := by omega
    obtain ⟨u, hu⟩ : ∃ u, u = t.length + 1 := ⟨_, rfl⟩
    have hw : IntKind.i64.wrap ((t.length : Int) + 1) = (u : Int) := by rw [IntKind.wrap_i64]; omega
    have hb3 : (u : Int) ≤ (a.length : Int) := by omega
    have hb4 : (0 : Int) ≤ (u : Int) := by omega
    have hb5 : ¬ (t.length : Int) < 0 := by omega
    rw [← hu] at e2
    clear ht hll hsp h1 h2 hu h47 hal
    go_enter Tryz.func48, Tryz.ntmps48
    go_wp2_with (go_at_call 50; refine (HS.out _).mono ?_; rintro e w' ⟨rfl, rfl⟩)
    go_quiet (fail)
    go_wp2
    go_ret2
    exact ⟨rfl, extA⟩
  · obtain ⟨h1, h2⟩ := split_none h47
    rw [if_neg h47] at HS
    rw [h1, h2]
    clear h47 h1 h2
    go_enter Tryz.func48, Tryz.ntmps48
    go_wp2_with (go_at_call 50; refine (HS.out _).mono ?_; rintro e w' ⟨rfl, rfl⟩)
    go_ret2
    exact ⟨rfl, Ext.refl _⟩
end Go.Proofs.YtbpjbhbbkonjlaaGreatDoor
namespace Go.Proofs.YtbpjbhbbkonjlaaGreatDoor
open Go.RowKit
theorem index_slash (s : Txt) : Lib.index s [47] = if 47 ∈ s then ((topS s).length : Int) else -1 := by
  induction s with
  | nil => rfl
  | cons c s ih =>
    unfold Lib.index
    by_cases h : c = 47
    · subst h
      rw [if_pos (by simp [List.isPrefixOf]), if_pos (List.mem_cons_self ..)]
      simp [topS]
    · have h1 : ([47].isPrefixOf (c :: s) : Bool) = false := by
        simp only [List.isPrefixOf, Bool.and_eq_false_imp]
        intro e
        exact absurd (by simpa using e) (fun e => h (Eq.symm e))
      have h2 : topS (c :: s) = c :: topS s := by
        unfold topS
        rw [List.takeWhile_cons, if_pos (by simpa using h)]
      have h3 : (47 ∈ c :: s) ↔ 47 ∈ s := by
        rw [List.mem_cons]
        exact ⟨fun e => e.resolve_left (fun e => h e.symm), .inr⟩
      rw [h1, if_neg (by simp), ih, h2]
      by_cases hm : 47 ∈ s
      · rw [if_pos hm, if_pos (h3.2 hm), if_neg (by rw [beq_iff_eq]; omega)]
        simp
      · rw [if_neg hm, if_neg (fun e => hm (h3.1 e))]
        simp
theorem cut_slash (s : Txt) : Lib.cut s [47] = (topS s, if 47 ∈ s then lowS s else [], decide (47 ∈ s)) := by
  unfold Lib.cut
  rw [index_slash]
  by_cases h : 47 ∈ s
  · rw [if_pos h, if_pos (by omega), if_pos h, decide_eq_true h, Int.toNat_natCast]
    have e := split_some h
    have key : ∀ t u : Txt, (t ++ 47 :: u).take t.length = t ∧ (t ++ 47 :: u).drop (t.length + 1) = u := fun t u =>
      ⟨List.take_left .., by rw [← List.drop_drop, List.drop_left]; rfl⟩
    have k := key (topS s) (lowS s)
    rw [← e] at k
    rw [List.length_singleton, k.1, k.2]
  · rw [if_neg h, if_neg (by omega), if_neg h, decide_eq_false h, (split_none h).1]
theorem Cut_any (s : Txt) (w : World) (hG : Glob w) (hl : s.length ≤ 1000) :
    Calls Tryz.prog 96 #[txt s, txt [47]] w fun e w' => e = .returned (.tuple #[txt (topS s), txt (if 47 ∈ s then lowS s else []), .bool (decide (47 ∈ s))]) ∧ Ext w w' := by
  obtain ⟨m, hm⟩ := hG.len
  refine (Tryz.strings_Cut ⟨s.toArray⟩ ⟨#[47]⟩ m w (by show s.toArray.size < _; simp; omega) hm).mono fun e w' h => ?_
  have := cut_slash s
  obtain ⟨h1, n, rfl⟩ := h
  refine ⟨?_, Ext.drewN (Ext.refl w) n⟩
  have e1 : ((⟨s.toArray⟩ : ByteArray).data.toList) = s := rfl
  have e2 : ((⟨#[47]⟩ : ByteArray).data.toList) = [47] := rfl
  rw [e1, e2, this] at h1
  exact h1
def NewB (x : Nat) (w : World) (e : Ending) (w' : World) : Prop := ∃ a c, e = .returned (.slice a (toB 1000000000 x).length c) ∧ CellsN .u64 w' a (toB 1000000000 x) ∧ (∀ p, a = some p → w.heap.size ≤ p.block) ∧ Ext w w'
theorem OwnNPost.newB {x : Nat} {w : World} {e : Ending} {w' : World} (h : OwnNPost .u64 164 (toB 1000000000 x) w e w') : NewB x w e w' := by
  obtain ⟨v, h1, h2, h3, h4⟩ := h
  obtain ⟨a, c, rfl, h5, _⟩ := h2.reads
  exact ⟨a, c, h1, h5, (fun p hp => h3 p.block (by rw [hp]; rfl)), h4⟩
theorem CellsN.set {k : IntKind} {A : World} {a : Option Addr} {l : List Nat} (h : CellsN k A a l) {c o : Nat} {v : Value} (hn : ∀ p, a = some p → p.block ≠ c) : CellsN k (A.setCell ⟨c, o, none⟩ v) a l := fun i hi => by
  obtain ⟨b, off, h1, h2⟩ := h i hi
  refine ⟨b, off, h1, ?_⟩
  have := hn _ h1
  rw [World.cell?_setCell_other _ _ _ _ (fun h => by simp only [Addr.mk.injEq] at h; exact this h.1.symm)]
  exact h2
theorem bare_len (s : Txt) : (bareS s).length ≤ s.length := by
  unfold bareS
  split
  · rw [List.length_tail]; omega
  · exact Nat.le_refl _
set_option maxHeartbeats 2000000 in
theorem signed_any (s : Txt) (w : World) (hs : DigitL (bareS s)) (hl : s.length ≤ 500) :
    Calls Tryz.prog 99 #[txt s] w fun e w' => ∃ a c, e = .returned (.tuple #[.bool (negS s), .slice a (toB 1000000000 (decV (bareS s))).length c]) ∧ CellsN .u64 w' a (toB 1000000000 (decV (bareS s))) ∧ (∀ p, a = some p → w.heap.size ≤ p.block) ∧ Ext w w' := by
  have HT := Lib.hid (fun W => CutPrefix_any s W)
  have HR := Lib.hid (fun W => read_any (bareS s) W hs (Nat.le_trans (bare_len s) hl))
  generalize decV (bareS s) = x at *
  generalize bareS s = d at *
  generalize negS s = ng at *
  clear hs
  go_enter Tryz.func99, Tryz.ntmps99
  go_wp2_with (first
    | (go_at_call 118; refine (HT.out _).mono ?_; rintro e w' ⟨rfl, rfl⟩)
    | (go_at_call 121; refine (HR.out _).mono ?_; rintro e w' h; obtain ⟨a, c, rfl, hC, hN, hE⟩ := h.newB))
  go_ret2
  exact ⟨a, c, rfl, hC, hN, hE⟩
end Go.Proofs.YtbpjbhbbkonjlaaGreatDoor
namespace Go.Proofs.YtbpjbhbbkonjlaaGreatDoor
open Go.RowKit
theorem results_cell_tmp1 {fn : Func} {p u : Tmp} {ty : TypeId} (h : fn.results = #[.cell p ty, .tmp u]) (tmps : Array Value) (P : Program) (w : World) :
    (results fn tmps).run P w = ((asAddr (tmps.getD p undef)).run P w).andThen fun a w₁ => ((loadVar ty a).run P w₁).andThen fun x w₂ => .ok (.tuple #[x, tmps.getD u undef]) w₂ := by
  simp only [results, h]
  simp [Sem.run_bind, Result.andThen]
def NumV (w : World) (v : Value) (x : Num) : Prop := ∃ ta tc ba bc, v = .agg #[.bool x.1, .slice ta (toB 1000000000 x.2.1).length tc, .slice ba (toB 1000000000 x.2.2).length bc] ∧
  CellsN .u64 w ta (toB 1000000000 x.2.1) ∧ CellsN .u64 w ba (toB 1000000000 x.2.2)
theorem NumV.ext {w w' : World} {v : Value} {x : Num} (h : NumV w v x) (e : Ext w w') : NumV w' v x := by
  obtain ⟨ta, tc, ba, bc, h1, h2, h3⟩ := h
  exact ⟨ta, tc, ba, bc, h1, h2.ext e, h3.ext e⟩
structure Num3 (b : Nat) (W : World) (x y z : Value) : Prop where
  c0 : W.cell? ⟨b, 0, none⟩ = some x
  c1 : W.cell? ⟨b, 1, none⟩ = some y
  c2 : W.cell? ⟨b, 2, none⟩ = some z
  f0 : W.frozen? ⟨b, 0, none⟩ = false
  f1 : W.frozen? ⟨b, 1, none⟩ = false
  f2 : W.frozen? ⟨b, 2, none⟩ = false
theorem Num3.ext {b : Nat} {A B : World} {x y z : Value} (h : Num3 b A x y z) (e : Ext A B) : Num3 b B x y z := by
  have hz : b < A.heap.size := cell_lt h.c0
  exact ⟨e.cell h.c0, e.cell h.c1, e.cell h.c2, (Below.frozen (p := ⟨b, 0, none⟩) e hz).trans h.f0, (Below.frozen (p := ⟨b, 1, none⟩) e hz).trans h.f1, (Below.frozen (p := ⟨b, 2, none⟩) e hz).trans h.f2⟩
theorem Num3.set0 {b : Nat} {A : World} {x y z : Value} (h : Num3 b A x y z) (v : Value) : Num3 b (A.setCell ⟨b, 0, none⟩ v) v y z := by
  refine ⟨World.cell?_setCell_same _ _ _ h.c0, ?_, ?_, ?_, ?_, ?_⟩
  · rw [World.cell?_setCell_other _ _ _ _ (fun h => by simp only [Addr.mk.injEq] at h; omega)]; exact h.c1
  · rw [World.cell?_setCell_other _ _ _ _ (fun h => by simp only [Addr.mk.injEq] at h; omega)]; exact h.c2
  · rw [World.frozen?_setCell]; exact h.f0
  · rw [World.frozen?_setCell]; exact h.f1
  · rw [World.frozen?_setCell]; exact h.f2
theorem Num3.set1 {b : Nat} {A : World} {x y z : Value} (h : Num3 b A x y z) (v : Value) : Num3 b (A.setCell ⟨b, 1, none⟩ v) x v z := by
  refine ⟨?_, World.cell?_setCell_same _ _ _ h.c1, ?_, ?_, ?_, ?_⟩
  · rw [World.cell?_setCell_other _ _ _ _ (fun h => by simp only [Addr.mk.injEq] at h; omega)]; exact h.c0
  · rw [World.cell?_setCell_other _ _ _ _ (fun h => by simp only [Addr.mk.injEq] at h; omega)]; exact h.c2
  · rw [World.frozen?_setCell]; exact h.f0
  · rw [World.frozen?_setCell]; exact h.f1
  · rw [World.frozen?_setCell]; exact h.f2
theorem Num3.set2 {b : Nat} {A : World} {x y z : Value} (h : Num3 b A x y z) (v : Value) : Num3 b (A.setCell ⟨b, 2, none⟩ v) x y v := by
  refine ⟨?_, ?_, World.cell?_setCell_same _ _ _ h.c2, ?_, ?_, ?_⟩
  · rw [World.cell?_setCell_other _ _ _ _ (fun h => by simp only [Addr.mk.injEq] at h; omega)]; exact h.c0
  · rw [World.cell?_setCell_other _ _ _ _ (fun h => by simp only [Addr.mk.injEq] at h; omega)]; exact h.c1
  · rw [World.frozen?_setCell]; exact h.f0
  · rw [World.frozen?_setCell]; exact h.f1
  · rw [World.frozen?_setCell]; exact h.f2
theorem Num3.other {b c o : Nat} {A : World} {x y z : Value} (h : Num3 b A x y z) (hc : c ≠ b) (v : Value) : Num3 b (A.setCell ⟨c, o, none⟩ v) x y z := by
  refine ⟨?_, ?_, ?_, ?_, ?_, ?_⟩
  · rw [World.cell?_setCell_other _ _ _ _ (fun h => by simp only [Addr.mk.injEq] at h; omega)]; exact h.c0
  · rw [World.cell?_setCell_other _ _ _ _ (fun h => by simp only [Addr.mk.injEq] at h; omega)]; exact h.c1
  · rw [World.cell?_setCell_other _ _ _ _ (fun h => by simp only [Addr.mk.injEq] at h; omega)]; exact h.c2
  · rw [World.frozen?_setCell]; exact h.f0
  · rw [World.frozen?_setCell]; exact h.f1
  · rw [World.frozen?_setCell]; exact h.f2
theorem ordN_zero {a b : Nat} : ordN a b = 0 ↔ a = b := by
  unfold ordN
  by_cases h : a < b
  · rw [if_pos h]; omega
  · rw [if_neg h]
    by_cases k : b < a
    · rw [if_pos k]; omega
    · rw [if_neg k]; omega
theorem cells_lit (w : World) (t : TypeId) : CellsN .u64 (w.alloc (.cells #[.int .u64 1] t)) (some ⟨w.heap.size, 0, none⟩) (toB 1000000000 1) := by
  rw [toB_one (by omega) (by omega) (by omega)]
  intro i hi
  have hi0 : i = 0 := by simp at hi; exact hi
  subst hi0
  exact ⟨_, 0, rfl, by go_simp⟩
theorem compare1_any (x : Nat) (la : List Nat) (a : Option Addr) (ca b : Nat) (w : World) (hx : la = toB 1000000000 x) (hla : la.length ≤ 200) (ha : CellsN .u64 w a la) (hb : CellsN .u64 w (some ⟨b, 0, none⟩) (toB 1000000000 1)) :
    Calls Tryz.prog 100 #[.slice a la.length ca, .slice (some ⟨b, 0, none⟩) 1 1] w fun e w' => e = .returned (.int .i64 (ordN x 1)) ∧ Ext w w' := by
  rw [toB_one (by omega) (by omega) (by omega)] at hb
  exact compare_any x 1 la [1] a _ ca 1 w hx (toB_one (by omega) (by omega) (by omega)).symm hla (by simp) ha hb
def Shape3 (v : Value) : Prop := ∃ (b : Bool) (ta : Option Addr) (tn tc : Nat) (ba : Option Addr) (bn bc : Nat), v = .agg #[.bool b, .slice ta tn tc, .slice ba bn bc]
def ParsedPost (t : Txt) (w : World) (e : Ending) (w' : World) : Prop :=
  ∃ v, e = .returned (.tuple #[v, .int .i64 (fracE t : Nat)]) ∧ Shape3 v ∧ (fracE t = 0 → NumV w' v (numOf t)) ∧ Ext w w'
theorem fracE_eq (t : Txt) : fracE t = if ¬ IntS (topS t) ∨ ¬ IntS (lowS t) then 3 else if 60 < (bareS (topS t)).length ∨ 60 < (bareS (lowS t)).length then 11 else if 47 ∉ t then 0 else
    if negS (lowS t) = true ∨ decV (lowS t) ≤ 1 ∨ Nat.gcd (decV (bareS (topS t))) (decV (lowS t)) ≠ 1 then 3 else 0 := by
  unfold fracE intE
  by_cases h1 : IntS (topS t)
  · by_cases h2 : IntS (lowS t)
    · by_cases h3 : 60 < (bareS (topS t)).length
      · by_cases h4 : 60 < (bareS (lowS t)).length <;> simp [h1, h2, h3, h4]
      · by_cases h4 : 60 < (bareS (lowS t)).length
        · simp [h1, h2, h3, h4]
        · simp [h1, h2, h3, h4]
    · simp [h1, h2]
  · simp [h1]
set_option maxHeartbeats 8000000 in
set_option maxRecDepth 100000 in
theorem parsed_any (t : Txt) (w : World) (hG : Glob w) (hl : t.length ≤ 400) :
    Calls Tryz.prog 82 #[txt t] w (ParsedPost t w) := by
  have hlens : (topS t).length ≤ t.length ∧ (lowS t).length ≤ t.length + 1 := by
    by_cases hs : 47 ∈ t
    · have e := congrArg List.length (split_some hs)
      rw [List.length_append, List.length_cons] at e
      omega
    · obtain ⟨a1, a2⟩ := split_none hs
      rw [a1, a2]
      exact ⟨Nat.le_refl _, by simp⟩
  obtain ⟨ht1, ht2⟩ := hlens
  have HG := Lib.hid hG
  have HCut := Lib.hid (fun W (hW : Ext w W) => Cut_any t W (hG.ext hW) (by omega))
  obtain ⟨f, hf⟩ : ∃ f, f = decide (47 ∈ t) := ⟨_, rfl⟩
  obtain ⟨i1, hi1⟩ : ∃ f, f = decide (IntS (topS t)) := ⟨_, rfl⟩
  obtain ⟨i2, hi2⟩ : ∃ f, f = decide (IntS (lowS t)) := ⟨_, rfl⟩
  obtain ⟨l1, hl1⟩ : ∃ f, f = decide (60 < (bareS (topS t)).length) := ⟨_, rfl⟩
  obtain ⟨l2, hl2⟩ : ∃ f, f = decide (60 < (bareS (lowS t)).length) := ⟨_, rfl⟩
  have HI1 := Lib.hid (fun W => integer_any (topS t) W (by omega))
  have HI2 := Lib.hid (fun W => integer_any (lowS t) W (by omega))
  have HL1 := Lib.hid (fun W => long_any (topS t) W)
  have HL2 := Lib.hid (fun W => long_any (lowS t) W)
  rw [← hi1] at HI1
  rw [← hi2] at HI2
  rw [← hl1] at HL1
  rw [← hl2] at HL2
  rw [← hf] at HCut
  have hlow : f = false → lowS t = [49] := fun h => (split_none (fun e => by rw [hf, decide_eq_true e] at h; cases h)).2
  have hlow2 : (if 47 ∈ t then lowS t else []) = if f then lowS t else [] := by
    by_cases e : 47 ∈ t
    · rw [hf, decide_eq_true e, if_pos e, if_pos rfl]
    · rw [hf, decide_eq_false e, if_neg e, if_neg (by simp)]
  rw [hlow2] at HCut
  clear hlow2
  have HFE := Lib.hid (fracE_eq t)
  obtain ⟨W0, hW0⟩ : ∃ W0, W0 = w.alloc (.cells #[.bool false, .slice none 0 0, .slice none 0 0] 143) := ⟨_, rfl⟩
  have c0 : W0.cell? ⟨w.heap.size, 0, none⟩ = some (.bool false) := by rw [hW0]; go_simp
  have c1 : W0.cell? ⟨w.heap.size, 1, none⟩ = some (.slice none 0 0) := by rw [hW0]; go_simp
  have c2 : W0.cell? ⟨w.heap.size, 2, none⟩ = some (.slice none 0 0) := by rw [hW0]; go_simp
  have f0 : W0.frozen? ⟨w.heap.size, 0, none⟩ = false := by rw [hW0]; go_simp
  have f1 : W0.frozen? ⟨w.heap.size, 1, none⟩ = false := by rw [hW0]; go_simp
  have f2 : W0.frozen? ⟨w.heap.size, 2, none⟩ = false := by rw [hW0]; go_simp
  have EX : Ext w W0 := by rw [hW0]; exact extA
  have hWW := hW0.symm
  have HF := Lib.hid hf
  have HB1 := Lib.hid hi1
  have HB2 := Lib.hid hi2
  have HB3 := Lib.hid hl1
  have HB4 := Lib.hid hl2
  have HLOW := Lib.hid hlow
  clear hW0 hf hi1 hi2 hl1 hl2 hlow hG
  have HTN := Lib.hid (show numOf t = (negS (topS t), decV (bareS (topS t)), decV (lowS t)) from rfl)
  generalize htop : topS t = top at *
  generalize hlw : lowS t = low at *
  clear htop hlw
  cases i1
  · have HE : Hid (fracE t = 3) := HFE.out.trans (by rw [if_pos (.inl (of_decide_eq_false HB1.out.symm))])
    clear HFE HB1 HB2 HB3 HB4 HTN HL1 HL2 HI2
    go_enter Tryz.func82, Tryz.ntmps82
    cases f
    · have hl0 := HLOW.out rfl
      subst hl0
      go_wp2_with (first
      | (go_at_call 96; (with_reducible refine (HCut.out _ EX).mono ?_); rintro e w' ⟨rfl, hE⟩; replace f0 := (Below.frozen (p := ⟨w.heap.size, 0, none⟩) hE (cell_lt c0)).trans f0; replace f1 := (Below.frozen (p := ⟨w.heap.size, 1, none⟩) hE (cell_lt c1)).trans f1; replace f2 := (Below.frozen (p := ⟨w.heap.size, 2, none⟩) hE (cell_lt c2)).trans f2; replace c0 := hE.cell c0; replace c1 := hE.cell c1; replace c2 := hE.cell c2; replace EX := EX.trans hE; clear hE)
      | (go_at_call 97; (with_reducible refine (HI1.out _).mono ?_); rintro e w' ⟨rfl, hE⟩; replace f0 := (Below.frozen (p := ⟨w.heap.size, 0, none⟩) hE (cell_lt c0)).trans f0; replace f1 := (Below.frozen (p := ⟨w.heap.size, 1, none⟩) hE (cell_lt c1)).trans f1; replace f2 := (Below.frozen (p := ⟨w.heap.size, 2, none⟩) hE (cell_lt c2)).trans f2; replace c0 := hE.cell c0; replace c1 := hE.cell c1; replace c2 := hE.cell c2; replace EX := EX.trans hE; clear hE)
      | (go_at_call 97; (with_reducible refine (HI2.out _).mono ?_); rintro e w' ⟨rfl, hE⟩; replace f0 := (Below.frozen (p := ⟨w.heap.size, 0, none⟩) hE (cell_lt c0)).trans f0; replace f1 := (Below.frozen (p := ⟨w.heap.size, 1, none⟩) hE (cell_lt c1)).trans f1; replace f2 := (Below.frozen (p := ⟨w.heap.size, 2, none⟩) hE (cell_lt c2)).trans f2; replace c0 := hE.cell c0; replace c1 := hE.cell c1; replace c2 := hE.cell c2; replace EX := EX.trans hE; clear hE)
      | (go_at_call 98; (with_reducible refine (HL1.out _).mono ?_); rintro e w' ⟨rfl, hE⟩; replace f0 := (Below.frozen (p := ⟨w.heap.size, 0, none⟩) hE (cell_lt c0)).trans f0; replace f1 := (Below.frozen (p := ⟨w.heap.size, 1, none⟩) hE (cell_lt c1)).trans f1; replace f2 := (Below.frozen (p := ⟨w.heap.size, 2, none⟩) hE (cell_lt c2)).trans f2; replace c0 := hE.cell c0; replace c1 := hE.cell c1; replace c2 := hE.cell c2; replace EX := EX.trans hE; clear hE)
      | (go_at_call 98; (with_reducible refine (HL2.out _).mono ?_); rintro e w' ⟨rfl, hE⟩; replace f0 := (Below.frozen (p := ⟨w.heap.size, 0, none⟩) hE (cell_lt c0)).trans f0; replace f1 := (Below.frozen (p := ⟨w.heap.size, 1, none⟩) hE (cell_lt c1)).trans f1; replace f2 := (Below.frozen (p := ⟨w.heap.size, 2, none⟩) hE (cell_lt c2)).trans f2; replace c0 := hE.cell c0; replace c1 := hE.cell c1; replace c2 := hE.cell c2; replace EX := EX.trans hE; clear hE))
      refine bodyPost_ret (v := .tuple #[.agg #[.bool false, .slice none 0 0, .slice none 0 0], .int .i64 3]) (by rw [results_cell_tmp1 rfl]; go_simp) rfl ?_
      exact ⟨_, by rw [HE.out]; rfl, ⟨_, _, _, _, _, _, _, rfl⟩, fun h => absurd (HE.out.symm.trans h) (by decide), extA⟩
    · go_wp2_with (first
      | (go_at_call 96; (with_reducible refine (HCut.out _ EX).mono ?_); rintro e w' ⟨rfl, hE⟩; replace f0 := (Below.frozen (p := ⟨w.heap.size, 0, none⟩) hE (cell_lt c0)).trans f0; replace f1 := (Below.frozen (p := ⟨w.heap.size, 1, none⟩) hE (cell_lt c1)).trans f1; replace f2 := (Below.frozen (p := ⟨w.heap.size, 2, none⟩) hE (cell_lt c2)).trans f2; replace c0 := hE.cell c0; replace c1 := hE.cell c1; replace c2 := hE.cell c2; replace EX := EX.trans hE; clear hE)
      | (go_at_call 97; (with_reducible refine (HI1.out _).mono ?_); rintro e w' ⟨rfl, hE⟩; replace f0 := (Below.frozen (p := ⟨w.heap.size, 0, none⟩) hE (cell_lt c0)).trans f0; replace f1 := (Below.frozen (p := ⟨w.heap.size, 1, none⟩) hE (cell_lt c1)).trans f1; replace f2 := (Below.frozen (p := ⟨w.heap.size, 2, none⟩) hE (cell_lt c2)).trans f2; replace c0 := hE.cell c0; replace c1 := hE.cell c1; replace c2 := hE.cell c2; replace EX := EX.trans hE; clear hE)
      | (go_at_call 97; (with_reducible refine (HI2.out _).mono ?_); rintro e w' ⟨rfl, hE⟩; replace f0 := (Below.frozen (p := ⟨w.heap.size, 0, none⟩) hE (cell_lt c0)).trans f0; replace f1 := (Below.frozen (p := ⟨w.heap.size, 1, none⟩) hE (cell_lt c1)).trans f1; replace f2 := (Below.frozen (p := ⟨w.heap.size, 2, none⟩) hE (cell_lt c2)).trans f2; replace c0 := hE.cell c0; replace c1 := hE.cell c1; replace c2 := hE.cell c2; replace EX := EX.trans hE; clear hE)
      | (go_at_call 98; (with_reducible refine (HL1.out _).mono ?_); rintro e w' ⟨rfl, hE⟩; replace f0 := (Below.frozen (p := ⟨w.heap.size, 0, none⟩) hE (cell_lt c0)).trans f0; replace f1 := (Below.frozen (p := ⟨w.heap.size, 1, none⟩) hE (cell_lt c1)).trans f1; replace f2 := (Below.frozen (p := ⟨w.heap.size, 2, none⟩) hE (cell_lt c2)).trans f2; replace c0 := hE.cell c0; replace c1 := hE.cell c1; replace c2 := hE.cell c2; replace EX := EX.trans hE; clear hE)
      | (go_at_call 98; (with_reducible refine (HL2.out _).mono ?_); rintro e w' ⟨rfl, hE⟩; replace f0 := (Below.frozen (p := ⟨w.heap.size, 0, none⟩) hE (cell_lt c0)).trans f0; replace f1 := (Below.frozen (p := ⟨w.heap.size, 1, none⟩) hE (cell_lt c1)).trans f1; replace f2 := (Below.frozen (p := ⟨w.heap.size, 2, none⟩) hE (cell_lt c2)).trans f2; replace c0 := hE.cell c0; replace c1 := hE.cell c1; replace c2 := hE.cell c2; replace EX := EX.trans hE; clear hE))
      refine bodyPost_ret (v := .tuple #[.agg #[.bool false, .slice none 0 0, .slice none 0 0], .int .i64 3]) (by rw [results_cell_tmp1 rfl]; go_simp) rfl ?_
      exact ⟨_, by rw [HE.out]; rfl, ⟨_, _, _, _, _, _, _, rfl⟩, fun h => absurd (HE.out.symm.trans h) (by decide), extA⟩
  cases i2
  · have HE : Hid (fracE t = 3) := HFE.out.trans (by rw [if_pos (.inr (of_decide_eq_false HB2.out.symm))])
    clear HFE HB1 HB2 HB3 HB4 HTN HL1 HL2
    go_enter Tryz.func82, Tryz.ntmps82
    cases f
    · have hl0 := HLOW.out rfl
      subst hl0
      go_wp2_with (first
      | (go_at_call 96; (with_reducible refine (HCut.out _ EX).mono ?_); rintro e w' ⟨rfl, hE⟩; replace f0 := (Below.frozen (p := ⟨w.heap.size, 0, none⟩) hE (cell_lt c0)).trans f0; replace f1 := (Below.frozen (p := ⟨w.heap.size, 1, none⟩) hE (cell_lt c1)).trans f1; replace f2 := (Below.frozen (p := ⟨w.heap.size, 2, none⟩) hE (cell_lt c2)).trans f2; replace c0 := hE.cell c0; replace c1 := hE.cell c1; replace c2 := hE.cell c2; replace EX := EX.trans hE; clear hE)
      | (go_at_call 97; (with_reducible refine (HI1.out _).mono ?_); rintro e w' ⟨rfl, hE⟩; replace f0 := (Below.frozen (p := ⟨w.heap.size, 0, none⟩) hE (cell_lt c0)).trans f0; replace f1 := (Below.frozen (p := ⟨w.heap.size, 1, none⟩) hE (cell_lt c1)).trans f1; replace f2 := (Below.frozen (p := ⟨w.heap.size, 2, none⟩) hE (cell_lt c2)).trans f2; replace c0 := hE.cell c0; replace c1 := hE.cell c1; replace c2 := hE.cell c2; replace EX := EX.trans hE; clear hE)
      | (go_at_call 97; (with_reducible refine (HI2.out _).mono ?_); rintro e w' ⟨rfl, hE⟩; replace f0 := (Below.frozen (p := ⟨w.heap.size, 0, none⟩) hE (cell_lt c0)).trans f0; replace f1 := (Below.frozen (p := ⟨w.heap.size, 1, none⟩) hE (cell_lt c1)).trans f1; replace f2 := (Below.frozen (p := ⟨w.heap.size, 2, none⟩) hE (cell_lt c2)).trans f2; replace c0 := hE.cell c0; replace c1 := hE.cell c1; replace c2 := hE.cell c2; replace EX := EX.trans hE; clear hE)
      | (go_at_call 98; (with_reducible refine (HL1.out _).mono ?_); rintro e w' ⟨rfl, hE⟩; replace f0 := (Below.frozen (p := ⟨w.heap.size, 0, none⟩) hE (cell_lt c0)).trans f0; replace f1 := (Below.frozen (p := ⟨w.heap.size, 1, none⟩) hE (cell_lt c1)).trans f1; replace f2 := (Below.frozen (p := ⟨w.heap.size, 2, none⟩) hE (cell_lt c2)).trans f2; replace c0 := hE.cell c0; replace c1 := hE.cell c1; replace c2 := hE.cell c2; replace EX := EX.trans hE; clear hE)
      | (go_at_call 98; (with_reducible refine (HL2.out _).mono ?_); rintro e w' ⟨rfl, hE⟩; replace f0 := (Below.frozen (p := ⟨w.heap.size, 0, none⟩) hE (cell_lt c0)).trans f0; replace f1 := (Below.frozen (p := ⟨w.heap.size, 1, none⟩) hE (cell_lt c1)).trans f1; replace f2 := (Below.frozen (p := ⟨w.heap.size, 2, none⟩) hE (cell_lt c2)).trans f2; replace c0 := hE.cell c0; replace c1 := hE.cell c1; replace c2 := hE.cell c2; replace EX := EX.trans hE; clear hE))
      refine bodyPost_ret (v := .tuple #[.agg #[.bool false, .slice none 0 0, .slice none 0 0], .int .i64 3]) (by rw [results_cell_tmp1 rfl]; go_simp) rfl ?_
      exact ⟨_, by rw [HE.out]; rfl, ⟨_, _, _, _, _, _, _, rfl⟩, fun h => absurd (HE.out.symm.trans h) (by decide), extA⟩
    · go_wp2_with (first
      | (go_at_call 96; (with_reducible refine (HCut.out _ EX).mono ?_); rintro e w' ⟨rfl, hE⟩; replace f0 := (Below.frozen (p := ⟨w.heap.size, 0, none⟩) hE (cell_lt c0)).trans f0; replace f1 := (Below.frozen (p := ⟨w.heap.size, 1, none⟩) hE (cell_lt c1)).trans f1; replace f2 := (Below.frozen (p := ⟨w.heap.size, 2, none⟩) hE (cell_lt c2)).trans f2; replace c0 := hE.cell c0; replace c1 := hE.cell c1; replace c2 := hE.cell c2; replace EX := EX.trans hE; clear hE)
      | (go_at_call 97; (with_reducible refine (HI1.out _).mono ?_); rintro e w' ⟨rfl, hE⟩; replace f0 := (Below.frozen (p := ⟨w.heap.size, 0, none⟩) hE (cell_lt c0)).trans f0; replace f1 := (Below.frozen (p := ⟨w.heap.size, 1, none⟩) hE (cell_lt c1)).trans f1; replace f2 := (Below.frozen (p := ⟨w.heap.size, 2, none⟩) hE (cell_lt c2)).trans f2; replace c0 := hE.cell c0; replace c1 := hE.cell c1; replace c2 := hE.cell c2; replace EX := EX.trans hE; clear hE)
      | (go_at_call 97; (with_reducible refine (HI2.out _).mono ?_); rintro e w' ⟨rfl, hE⟩; replace f0 := (Below.frozen (p := ⟨w.heap.size, 0, none⟩) hE (cell_lt c0)).trans f0; replace f1 := (Below.frozen (p := ⟨w.heap.size, 1, none⟩) hE (cell_lt c1)).trans f1; replace f2 := (Below.frozen (p := ⟨w.heap.size, 2, none⟩) hE (cell_lt c2)).trans f2; replace c0 := hE.cell c0; replace c1 := hE.cell c1; replace c2 := hE.cell c2; replace EX := EX.trans hE; clear hE)
      | (go_at_call 98; (with_reducible refine (HL1.out _).mono ?_); rintro e w' ⟨rfl, hE⟩; replace f0 := (Below.frozen (p := ⟨w.heap.size, 0, none⟩) hE (cell_lt c0)).trans f0; replace f1 := (Below.frozen (p := ⟨w.heap.size, 1, none⟩) hE (cell_lt c1)).trans f1; replace f2 := (Below.frozen (p := ⟨w.heap.size, 2, none⟩) hE (cell_lt c2)).trans f2; replace c0 := hE.cell c0; replace c1 := hE.cell c1; replace c2 := hE.cell c2; replace EX := EX.trans hE; clear hE)
      | (go_at_call 98; (with_reducible refine (HL2.out _).mono ?_); rintro e w' ⟨rfl, hE⟩; replace f0 := (Below.frozen (p := ⟨w.heap.size, 0, none⟩) hE (cell_lt c0)).trans f0; replace f1 := (Below.frozen (p := ⟨w.heap.size, 1, none⟩) hE (cell_lt c1)).trans f1; replace f2 := (Below.frozen (p := ⟨w.heap.size, 2, none⟩) hE (cell_lt c2)).trans f2; replace c0 := hE.cell c0; replace c1 := hE.cell c1; replace c2 := hE.cell c2; replace EX := EX.trans hE; clear hE))
      refine bodyPost_ret (v := .tuple #[.agg #[.bool false, .slice none 0 0, .slice none 0 0], .int .i64 3]) (by rw [results_cell_tmp1 rfl]; go_simp) rfl ?_
      exact ⟨_, by rw [HE.out]; rfl, ⟨_, _, _, _, _, _, _, rfl⟩, fun h => absurd (HE.out.symm.trans h) (by decide), extA⟩
  have HS1 := Lib.hid (of_decide_eq_true (p := IntS top) HB1.out.symm)
  have HS2 := Lib.hid (of_decide_eq_true (p := IntS low) HB2.out.symm)
  have HNI : Hid (¬ (¬ IntS top ∨ ¬ IntS low)) := fun h => h.elim (fun h => h HS1.out) (fun h => h HS2.out)
  cases l1
  rotate_left
  · have HE : Hid (fracE t = 11) := HFE.out.trans (by rw [if_neg HNI.out, if_pos (.inl (of_decide_eq_true HB3.out.symm))])
    clear HFE HB1 HB2 HB3 HB4 HTN HS1 HS2 HNI HL2
    go_enter Tryz.func82, Tryz.ntmps82
    cases f
    · have hl0 := HLOW.out rfl
      subst hl0
      go_wp2_with (first
      | (go_at_call 96; (with_reducible refine (HCut.out _ EX).mono ?_); rintro e w' ⟨rfl, hE⟩; replace f0 := (Below.frozen (p := ⟨w.heap.size, 0, none⟩) hE (cell_lt c0)).trans f0; replace f1 := (Below.frozen (p := ⟨w.heap.size, 1, none⟩) hE (cell_lt c1)).trans f1; replace f2 := (Below.frozen (p := ⟨w.heap.size, 2, none⟩) hE (cell_lt c2)).trans f2; replace c0 := hE.cell c0; replace c1 := hE.cell c1; replace c2 := hE.cell c2; replace EX := EX.trans hE; clear hE)
      | (go_at_call 97; (with_reducible refine (HI1.out _).mono ?_); rintro e w' ⟨rfl, hE⟩; replace f0 := (Below.frozen (p := ⟨w.heap.size, 0, none⟩) hE (cell_lt c0)).trans f0; replace f1 := (Below.frozen (p := ⟨w.heap.size, 1, none⟩) hE (cell_lt c1)).trans f1; replace f2 := (Below.frozen (p := ⟨w.heap.size, 2, none⟩) hE (cell_lt c2)).trans f2; replace c0 := hE.cell c0; replace c1 := hE.cell c1; replace c2 := hE.cell c2; replace EX := EX.trans hE; clear hE)
      | (go_at_call 97; (with_reducible refine (HI2.out _).mono ?_); rintro e w' ⟨rfl, hE⟩; replace f0 := (Below.frozen (p := ⟨w.heap.size, 0, none⟩) hE (cell_lt c0)).trans f0; replace f1 := (Below.frozen (p := ⟨w.heap.size, 1, none⟩) hE (cell_lt c1)).trans f1; replace f2 := (Below.frozen (p := ⟨w.heap.size, 2, none⟩) hE (cell_lt c2)).trans f2; replace c0 := hE.cell c0; replace c1 := hE.cell c1; replace c2 := hE.cell c2; replace EX := EX.trans hE; clear hE)
      | (go_at_call 98; (with_reducible refine (HL1.out _).mono ?_); rintro e w' ⟨rfl, hE⟩; replace f0 := (Below.frozen (p := ⟨w.heap.size, 0, none⟩) hE (cell_lt c0)).trans f0; replace f1 := (Below.frozen (p := ⟨w.heap.size, 1, none⟩) hE (cell_lt c1)).trans f1; replace f2 := (Below.frozen (p := ⟨w.heap.size, 2, none⟩) hE (cell_lt c2)).trans f2; replace c0 := hE.cell c0; replace c1 := hE.cell c1; replace c2 := hE.cell c2; replace EX := EX.trans hE; clear hE)
      | (go_at_call 98; (with_reducible refine (HL2.out _).mono ?_); rintro e w' ⟨rfl, hE⟩; replace f0 := (Below.frozen (p := ⟨w.heap.size, 0, none⟩) hE (cell_lt c0)).trans f0; replace f1 := (Below.frozen (p := ⟨w.heap.size, 1, none⟩) hE (cell_lt c1)).trans f1; replace f2 := (Below.frozen (p := ⟨w.heap.size, 2, none⟩) hE (cell_lt c2)).trans f2; replace c0 := hE.cell c0; replace c1 := hE.cell c1; replace c2 := hE.cell c2; replace EX := EX.trans hE; clear hE))
      refine bodyPost_ret (v := .tuple #[.agg #[.bool false, .slice none 0 0, .slice none 0 0], .int .i64 11]) (by rw [results_cell_tmp1 rfl]; go_simp) rfl ?_
      exact ⟨_, by rw [HE.out]; rfl, ⟨_, _, _, _, _, _, _, rfl⟩, fun h => absurd (HE.out.symm.trans h) (by decide), extA⟩
    · go_wp2_with (first
      | (go_at_call 96; (with_reducible refine (HCut.out _ EX).mono ?_); rintro e w' ⟨rfl, hE⟩; replace f0 := (Below.frozen (p := ⟨w.heap.size, 0, none⟩) hE (cell_lt c0)).trans f0; replace f1 := (Below.frozen (p := ⟨w.heap.size, 1, none⟩) hE (cell_lt c1)).trans f1; replace f2 := (Below.frozen (p := ⟨w.heap.size, 2, none⟩) hE (cell_lt c2)).trans f2; replace c0 := hE.cell c0; replace c1 := hE.cell c1; replace c2 := hE.cell c2; replace EX := EX.trans hE; clear hE)
      | (go_at_call 97; (with_reducible refine (HI1.out _).mono ?_); rintro e w' ⟨rfl, hE⟩; replace f0 := (Below.frozen (p := ⟨w.heap.size, 0, none⟩) hE (cell_lt c0)).trans f0; replace f1 := (Below.frozen (p := ⟨w.heap.size, 1, none⟩) hE (cell_lt c1)).trans f1; replace f2 := (Below.frozen (p := ⟨w.heap.size, 2, none⟩) hE (cell_lt c2)).trans f2; replace c0 := hE.cell c0; replace c1 := hE.cell c1; replace c2 := hE.cell c2; replace EX := EX.trans hE; clear hE)
      | (go_at_call 97; (with_reducible refine (HI2.out _).mono ?_); rintro e w' ⟨rfl, hE⟩; replace f0 := (Below.frozen (p := ⟨w.heap.size, 0, none⟩) hE (cell_lt c0)).trans f0; replace f1 := (Below.frozen (p := ⟨w.heap.size, 1, none⟩) hE (cell_lt c1)).trans f1; replace f2 := (Below.frozen (p := ⟨w.heap.size, 2, none⟩) hE (cell_lt c2)).trans f2; replace c0 := hE.cell c0; replace c1 := hE.cell c1; replace c2 := hE.cell c2; replace EX := EX.trans hE; clear hE)
      | (go_at_call 98; (with_reducible refine (HL1.out _).mono ?_); rintro e w' ⟨rfl, hE⟩; replace f0 := (Below.frozen (p := ⟨w.heap.size, 0, none⟩) hE (cell_lt c0)).trans f0; replace f1 := (Below.frozen (p := ⟨w.heap.size, 1, none⟩) hE (cell_lt c1)).trans f1; replace f2 := (Below.frozen (p := ⟨w.heap.size, 2, none⟩) hE (cell_lt c2)).trans f2; replace c0 := hE.cell c0; replace c1 := hE.cell c1; replace c2 := hE.cell c2; replace EX := EX.trans hE; clear hE)
      | (go_at_call 98; (with_reducible refine (HL2.out _).mono ?_); rintro e w' ⟨rfl, hE⟩; replace f0 := (Below.frozen (p := ⟨w.heap.size, 0, none⟩) hE (cell_lt c0)).trans f0; replace f1 := (Below.frozen (p := ⟨w.heap.size, 1, none⟩) hE (cell_lt c1)).trans f1; replace f2 := (Below.frozen (p := ⟨w.heap.size, 2, none⟩) hE (cell_lt c2)).trans f2; replace c0 := hE.cell c0; replace c1 := hE.cell c1; replace c2 := hE.cell c2; replace EX := EX.trans hE; clear hE))
      refine bodyPost_ret (v := .tuple #[.agg #[.bool false, .slice none 0 0, .slice none 0 0], .int .i64 11]) (by rw [results_cell_tmp1 rfl]; go_simp) rfl ?_
      exact ⟨_, by rw [HE.out]; rfl, ⟨_, _, _, _, _, _, _, rfl⟩, fun h => absurd (HE.out.symm.trans h) (by decide), extA⟩
  cases l2
  rotate_left
  · have HE : Hid (fracE t = 11) := HFE.out.trans (by rw [if_neg HNI.out, if_pos (.inr (of_decide_eq_true HB4.out.symm))])
    clear HFE HB1 HB2 HB3 HB4 HTN HS1 HS2 HNI
    go_enter Tryz.func82, Tryz.ntmps82
    cases f
    · have hl0 := HLOW.out rfl
      subst hl0
      go_wp2_with (first
      | (go_at_call 96; (with_reducible refine (HCut.out _ EX).mono ?_); rintro e w' ⟨rfl, hE⟩; replace f0 := (Below.frozen (p := ⟨w.heap.size, 0, none⟩) hE (cell_lt c0)).trans f0; replace f1 := (Below.frozen (p := ⟨w.heap.size, 1, none⟩) hE (cell_lt c1)).trans f1; replace f2 := (Below.frozen (p := ⟨w.heap.size, 2, none⟩) hE (cell_lt c2)).trans f2; replace c0 := hE.cell c0; replace c1 := hE.cell c1; replace c2 := hE.cell c2; replace EX := EX.trans hE; clear hE)
      | (go_at_call 97; (with_reducible refine (HI1.out _).mono ?_); rintro e w' ⟨rfl, hE⟩; replace f0 := (Below.frozen (p := ⟨w.heap.size, 0, none⟩) hE (cell_lt c0)).trans f0; replace f1 := (Below.frozen (p := ⟨w.heap.size, 1, none⟩) hE (cell_lt c1)).trans f1; replace f2 := (Below.frozen (p := ⟨w.heap.size, 2, none⟩) hE (cell_lt c2)).trans f2; replace c0 := hE.cell c0; replace c1 := hE.cell c1; replace c2 := hE.cell c2; replace EX := EX.trans hE; clear hE)
      | (go_at_call 97; (with_reducible refine (HI2.out _).mono ?_); rintro e w' ⟨rfl, hE⟩; replace f0 := (Below.frozen (p := ⟨w.heap.size, 0, none⟩) hE (cell_lt c0)).trans f0; replace f1 := (Below.frozen (p := ⟨w.heap.size, 1, none⟩) hE (cell_lt c1)).trans f1; replace f2 := (Below.frozen (p := ⟨w.heap.size, 2, none⟩) hE (cell_lt c2)).trans f2; replace c0 := hE.cell c0; replace c1 := hE.cell c1; replace c2 := hE.cell c2; replace EX := EX.trans hE; clear hE)
      | (go_at_call 98; (with_reducible refine (HL1.out _).mono ?_); rintro e w' ⟨rfl, hE⟩; replace f0 := (Below.frozen (p := ⟨w.heap.size, 0, none⟩) hE (cell_lt c0)).trans f0; replace f1 := (Below.frozen (p := ⟨w.heap.size, 1, none⟩) hE (cell_lt c1)).trans f1; replace f2 := (Below.frozen (p := ⟨w.heap.size, 2, none⟩) hE (cell_lt c2)).trans f2; replace c0 := hE.cell c0; replace c1 := hE.cell c1; replace c2 := hE.cell c2; replace EX := EX.trans hE; clear hE)
      | (go_at_call 98; (with_reducible refine (HL2.out _).mono ?_); rintro e w' ⟨rfl, hE⟩; replace f0 := (Below.frozen (p := ⟨w.heap.size, 0, none⟩) hE (cell_lt c0)).trans f0; replace f1 := (Below.frozen (p := ⟨w.heap.size, 1, none⟩) hE (cell_lt c1)).trans f1; replace f2 := (Below.frozen (p := ⟨w.heap.size, 2, none⟩) hE (cell_lt c2)).trans f2; replace c0 := hE.cell c0; replace c1 := hE.cell c1; replace c2 := hE.cell c2; replace EX := EX.trans hE; clear hE))
      refine bodyPost_ret (v := .tuple #[.agg #[.bool false, .slice none 0 0, .slice none 0 0], .int .i64 11]) (by rw [results_cell_tmp1 rfl]; go_simp) rfl ?_
      exact ⟨_, by rw [HE.out]; rfl, ⟨_, _, _, _, _, _, _, rfl⟩, fun h => absurd (HE.out.symm.trans h) (by decide), extA⟩
    · go_wp2_with (first
      | (go_at_call 96; (with_reducible refine (HCut.out _ EX).mono ?_); rintro e w' ⟨rfl, hE⟩; replace f0 := (Below.frozen (p := ⟨w.heap.size, 0, none⟩) hE (cell_lt c0)).trans f0; replace f1 := (Below.frozen (p := ⟨w.heap.size, 1, none⟩) hE (cell_lt c1)).trans f1; replace f2 := (Below.frozen (p := ⟨w.heap.size, 2, none⟩) hE (cell_lt c2)).trans f2; replace c0 := hE.cell c0; replace c1 := hE.cell c1; replace c2 := hE.cell c2; replace EX := EX.trans hE; clear hE)
      | (go_at_call 97; (with_reducible refine (HI1.out _).mono ?_); rintro e w' ⟨rfl, hE⟩; replace f0 := (Below.frozen (p := ⟨w.heap.size, 0, none⟩) hE (cell_lt c0)).trans f0; replace f1 := (Below.frozen (p := ⟨w.heap.size, 1, none⟩) hE (cell_lt c1)).trans f1; replace f2 := (Below.frozen (p := ⟨w.heap.size, 2, none⟩) hE (cell_lt c2)).trans f2; replace c0 := hE.cell c0; replace c1 := hE.cell c1; replace c2 := hE.cell c2; replace EX := EX.trans hE; clear hE)
      | (go_at_call 97; (with_reducible refine (HI2.out _).mono ?_); rintro e w' ⟨rfl, hE⟩; replace f0 := (Below.frozen (p := ⟨w.heap.size, 0, none⟩) hE (cell_lt c0)).trans f0; replace f1 := (Below.frozen (p := ⟨w.heap.size, 1, none⟩) hE (cell_lt c1)).trans f1; replace f2 := (Below.frozen (p := ⟨w.heap.size, 2, none⟩) hE (cell_lt c2)).trans f2; replace c0 := hE.cell c0; replace c1 := hE.cell c1; replace c2 := hE.cell c2; replace EX := EX.trans hE; clear hE)
      | (go_at_call 98; (with_reducible refine (HL1.out _).mono ?_); rintro e w' ⟨rfl, hE⟩; replace f0 := (Below.frozen (p := ⟨w.heap.size, 0, none⟩) hE (cell_lt c0)).trans f0; replace f1 := (Below.frozen (p := ⟨w.heap.size, 1, none⟩) hE (cell_lt c1)).trans f1; replace f2 := (Below.frozen (p := ⟨w.heap.size, 2, none⟩) hE (cell_lt c2)).trans f2; replace c0 := hE.cell c0; replace c1 := hE.cell c1; replace c2 := hE.cell c2; replace EX := EX.trans hE; clear hE)
      | (go_at_call 98; (with_reducible refine (HL2.out _).mono ?_); rintro e w' ⟨rfl, hE⟩; replace f0 := (Below.frozen (p := ⟨w.heap.size, 0, none⟩) hE (cell_lt c0)).trans f0; replace f1 := (Below.frozen (p := ⟨w.heap.size, 1, none⟩) hE (cell_lt c1)).trans f1; replace f2 := (Below.frozen (p := ⟨w.heap.size, 2, none⟩) hE (cell_lt c2)).trans f2; replace c0 := hE.cell c0; replace c1 := hE.cell c1; replace c2 := hE.cell c2; replace EX := EX.trans hE; clear hE))
      refine bodyPost_ret (v := .tuple #[.agg #[.bool false, .slice none 0 0, .slice none 0 0], .int .i64 11]) (by rw [results_cell_tmp1 rfl]; go_simp) rfl ?_
      exact ⟨_, by rw [HE.out]; rfl, ⟨_, _, _, _, _, _, _, rfl⟩, fun h => absurd (HE.out.symm.trans h) (by decide), extA⟩
  have HNL : Hid (¬ (60 < (bareS top).length ∨ 60 < (bareS low).length)) := fun h => h.elim (of_decide_eq_false (p := 60 < (bareS top).length) HB3.out.symm) (of_decide_eq_false (p := 60 < (bareS low).length) HB4.out.symm)
  have hFE2 := HFE.out
  rw [if_neg HNI.out, if_neg HNL.out] at hFE2
  have HFE2 := Lib.hid hFE2
  have hbl : (bareS top).length ≤ 60 ∧ (bareS low).length ≤ 60 := by have := HNL.out; omega
  have hD1 := HS1.out.1.1
  have hD2 := HS2.out.1.1
  have HSG1 := Lib.hid (fun W => signed_any top W hD1 (by omega))
  have HSG2 := Lib.hid (fun W => signed_any low W hD2 (by omega))
  have hlt : ∀ d : Txt, DigitL d → d.length ≤ 60 → (toB 1000000000 (decV d)).length ≤ 60 := fun d h1 h2 => toB_len (by omega) 60 (Nat.lt_of_lt_of_le (decV_lt h1) (Nat.le_trans (Nat.pow_le_pow_right (by omega) h2) (Nat.pow_le_pow_left (by omega) _)))
  have hn1 := hlt _ hD1 hbl.1
  have hn2 := hlt _ hD2 hbl.2
  have HNU : Hid (negS low = false → numOf t = (negS top, decV (bareS top), decV (bareS low))) := fun h => by rw [HTN.out, bare_pos h]
  have HZ0 : Hid (f = false → fracE t = 0 ∧ negS low = false) := fun h => by
    have hm : 47 ∉ t := fun e => by rw [HF.out, decide_eq_true e] at h; cases h
    rw [HFE2.out, if_pos hm]
    refine ⟨rfl, ?_⟩
    rw [HLOW.out h]; rfl
  have HZ1 : Hid (f = true → fracE t = if negS low = true then 3 else if decV (bareS low) ≤ 1 then 3 else if Nat.gcd (decV (bareS top)) (decV (bareS low)) ≠ 1 then 3 else 0) := fun h => by
    have hm : ¬ 47 ∉ t := fun e => by rw [HF.out, decide_eq_false e] at h; cases h
    rw [HFE2.out, if_neg hm]
    by_cases hb : negS low = true
    · rw [if_pos (.inl hb), if_pos hb]
    · have hbb := bare_pos (s := low) (by simpa using hb)
      rw [if_neg hb, hbb]
      by_cases h1 : decV low ≤ 1
      · rw [if_pos (.inr (.inl h1)), if_pos h1]
      · rw [if_neg h1]
        by_cases h2 : Nat.gcd (decV (bareS top)) (decV low) ≠ 1
        · rw [if_pos (.inr (.inr h2)), if_pos h2]
        · rw [if_neg h2, if_neg (fun h => h.elim hb (fun h => h.elim h1 h2))]
  clear hlt hD1 hD2 hFE2 HFE HB1 HB2 HB3 HB4 HNI HNL HTN HF HFE2 HS1 HS2
  generalize decV (bareS top) = n1 at *
  generalize decV (bareS low) = n2 at *
  generalize negS top = sg at *
  generalize negS low = sl at *
  have hn1 : (toB 1000000000 n1).length ≤ 60 := hn1
  go_enter Tryz.func82, Tryz.ntmps82
  cases f
  · have hl0 := HLOW.out rfl
    have HZ := Lib.hid (HZ0.out rfl)
    subst hl0
    go_wp2_with (first
      | (go_at_call 96; (with_reducible refine (HCut.out _ EX).mono ?_); rintro e w' ⟨rfl, hE⟩; replace f0 := (Below.frozen (p := ⟨w.heap.size, 0, none⟩) hE (cell_lt c0)).trans f0; replace f1 := (Below.frozen (p := ⟨w.heap.size, 1, none⟩) hE (cell_lt c1)).trans f1; replace f2 := (Below.frozen (p := ⟨w.heap.size, 2, none⟩) hE (cell_lt c2)).trans f2; replace c0 := hE.cell c0; replace c1 := hE.cell c1; replace c2 := hE.cell c2; replace EX := EX.trans hE; clear hE)
      | (go_at_call 97; (with_reducible refine (HI1.out _).mono ?_); rintro e w' ⟨rfl, hE⟩; replace f0 := (Below.frozen (p := ⟨w.heap.size, 0, none⟩) hE (cell_lt c0)).trans f0; replace f1 := (Below.frozen (p := ⟨w.heap.size, 1, none⟩) hE (cell_lt c1)).trans f1; replace f2 := (Below.frozen (p := ⟨w.heap.size, 2, none⟩) hE (cell_lt c2)).trans f2; replace c0 := hE.cell c0; replace c1 := hE.cell c1; replace c2 := hE.cell c2; replace EX := EX.trans hE; clear hE)
      | (go_at_call 97; (with_reducible refine (HI2.out _).mono ?_); rintro e w' ⟨rfl, hE⟩; replace f0 := (Below.frozen (p := ⟨w.heap.size, 0, none⟩) hE (cell_lt c0)).trans f0; replace f1 := (Below.frozen (p := ⟨w.heap.size, 1, none⟩) hE (cell_lt c1)).trans f1; replace f2 := (Below.frozen (p := ⟨w.heap.size, 2, none⟩) hE (cell_lt c2)).trans f2; replace c0 := hE.cell c0; replace c1 := hE.cell c1; replace c2 := hE.cell c2; replace EX := EX.trans hE; clear hE)
      | (go_at_call 98; (with_reducible refine (HL1.out _).mono ?_); rintro e w' ⟨rfl, hE⟩; replace f0 := (Below.frozen (p := ⟨w.heap.size, 0, none⟩) hE (cell_lt c0)).trans f0; replace f1 := (Below.frozen (p := ⟨w.heap.size, 1, none⟩) hE (cell_lt c1)).trans f1; replace f2 := (Below.frozen (p := ⟨w.heap.size, 2, none⟩) hE (cell_lt c2)).trans f2; replace c0 := hE.cell c0; replace c1 := hE.cell c1; replace c2 := hE.cell c2; replace EX := EX.trans hE; clear hE)
      | (go_at_call 98; (with_reducible refine (HL2.out _).mono ?_); rintro e w' ⟨rfl, hE⟩; replace f0 := (Below.frozen (p := ⟨w.heap.size, 0, none⟩) hE (cell_lt c0)).trans f0; replace f1 := (Below.frozen (p := ⟨w.heap.size, 1, none⟩) hE (cell_lt c1)).trans f1; replace f2 := (Below.frozen (p := ⟨w.heap.size, 2, none⟩) hE (cell_lt c2)).trans f2; replace c0 := hE.cell c0; replace c1 := hE.cell c1; replace c2 := hE.cell c2; replace EX := EX.trans hE; clear hE))
    have hz := cell_lt c0
    dsimp only at hz
    have EA : Ext w' (w'.alloc (.cells #[.bool false, .slice none 0 0, .slice none 0 0] 143)) := extA
    have X1 : Num3 w'.heap.size (w'.alloc (.cells #[.bool false, .slice none 0 0, .slice none 0 0] 143)) (.bool false) (.slice none 0 0) (.slice none 0 0) := ⟨by go_simp, by go_simp, by go_simp, by go_simp, by go_simp, by go_simp⟩
    have R1 : Num3 w.heap.size (w'.alloc (.cells #[.bool false, .slice none 0 0, .slice none 0 0] 143)) (.bool false) (.slice none 0 0) (.slice none 0 0) := (Num3.mk c0 c1 c2 f0 f1 f2).ext EA
    have E1 := EX.trans EA
    clear c0 c1 c2 f0 f1 f2 EA EX
    obtain ⟨xb, hxb⟩ : ∃ xb, xb = w'.heap.size := ⟨_, rfl⟩
    rw [← hxb] at X1 hz ⊢
    clear hxb
    generalize (w'.alloc (.cells #[.bool false, .slice none 0 0, .slice none 0 0] 143)) = W1 at X1 R1 E1 ⊢
    refine (HSG1.out _).mono ?_
    rintro e w2 ⟨ta, tc, rfl, hC1, hN1, hE⟩
    have hz1 : xb < W1.heap.size := cell_lt X1.c0
    have hN1x : ∀ p, ta = some p → p.block ≠ xb := fun p hp => by have := hN1 p hp; omega
    have hN1w : ∀ p, ta = some p → p.block ≠ w.heap.size := fun p hp => by have := hN1 p hp; omega
    replace X1 := X1.ext hE
    replace R1 := R1.ext hE
    replace E1 := E1.trans hE
    have hxw := cell_lt X1.c0
    dsimp only at hxw
    obtain ⟨x0, x1, x2, g0, g1, g2⟩ := X1
    have HC1 := Lib.hid hC1
    have HX1 := Lib.hid (Num3.mk x0 x1 x2 g0 g1 g2)
    have HR1 := Lib.hid R1
    clear hE hC1 HSG1 R1
    go_wp2_with fail
    have X2 : Num3 xb ((w2.setCell ⟨xb, 0, none⟩ (.bool sg)).setCell ⟨xb, 1, none⟩ (.slice ta (toB 1000000000 n1).length tc)) (.bool sg) (.slice ta (toB 1000000000 n1).length tc) (.slice none 0 0) := (HX1.out.set0 _).set1 _
    have R2 : Num3 w.heap.size ((w2.setCell ⟨xb, 0, none⟩ (.bool sg)).setCell ⟨xb, 1, none⟩ (.slice ta (toB 1000000000 n1).length tc)) (.bool false) (.slice none 0 0) (.slice none 0 0) := (HR1.out.other (by omega) _).other (by omega) _
    have E2 : Ext w ((w2.setCell ⟨xb, 0, none⟩ (.bool sg)).setCell ⟨xb, 1, none⟩ (.slice ta (toB 1000000000 n1).length tc)) := (E1.set (by omega) _).set (by omega) _
    have HC2 := Lib.hid ((HC1.out.set (c := xb) (o := 0) (v := .bool sg) hN1x).set (c := xb) (o := 1) (v := .slice ta (toB 1000000000 n1).length tc) hN1x)
    have HT := Lib.hid (And.intro hN1x hN1w)
    clear x0 x1 x2 g0 g1 g2 HX1 HR1 E1 HC1 hN1 hN1x hN1w hz1
    generalize ((w2.setCell ⟨xb, 0, none⟩ (.bool sg)).setCell ⟨xb, 1, none⟩ (.slice ta (toB 1000000000 n1).length tc)) = W2 at X2 R2 E2 HC2 ⊢
    refine (HSG2.out _).mono ?_
    rintro e w4 ⟨ba, bc, rfl, hC1, hN1, hE⟩
    have hz1 : xb < W2.heap.size := cell_lt X2.c0
    have hB1x : ∀ p, ba = some p → p.block ≠ xb := fun p hp => by have := hN1 p hp; omega
    have hB1w : ∀ p, ba = some p → p.block ≠ w.heap.size := fun p hp => by have := hN1 p hp; omega
    have HBT := Lib.hid (And.intro hB1x hB1w)
    have X4 := X2.ext hE
    have R4 := R2.ext hE
    have E4 := E2.trans hE
    have HC4 := Lib.hid (HC2.out.ext hE)
    have HD4 := Lib.hid hC1
    have hxw4 := cell_lt X4.c0
    dsimp only at hxw4
    clear hE hC1 hN1 hz1 hB1x hB1w X2 R2 E2 HC2 HSG2 hxw
    obtain ⟨x0, x1, x2, g0, g1, g2⟩ := X4
    obtain ⟨c0, c1, c2, f0, f1, f2⟩ := R4
    have hwx : w.heap.size ≠ xb := by omega
    have HC5 := Lib.hid (HC4.out.set (c := xb) (o := 2) (v := (.slice ba (toB 1000000000 n2).length bc)) HT.out.1)
    have HD5 := Lib.hid (HD4.out.set (c := xb) (o := 2) (v := (.slice ba (toB 1000000000 n2).length bc)) HBT.out.1)
    clear HC4 HD4 HZ0 HZ1
    go_wp2_with fail
    refine bodyPost_ret (v := .tuple #[.agg #[.bool sg, .slice ta (toB 1000000000 n1).length tc, (.slice ba (toB 1000000000 n2).length bc)], .int .i64 0]) (by rw [results_cell_tmp1 rfl]; go_simp) rfl ?_
    refine ⟨_, by rw [HZ.out.1]; rfl, ⟨_, _, _, _, _, _, _, rfl⟩, fun _ => ⟨ta, tc, ba, bc, by rw [HNU.out HZ.out.2], ?_, ?_⟩, extA⟩
    · rw [HNU.out HZ.out.2]
      exact ((HC5.out.set (c := w.heap.size) HT.out.2).set (c := w.heap.size) HT.out.2).set (c := w.heap.size) HT.out.2
    · rw [HNU.out HZ.out.2]
      exact ((HD5.out.set (c := w.heap.size) HBT.out.2).set (c := w.heap.size) HBT.out.2).set (c := w.heap.size) HBT.out.2
  · have HZ := Lib.hid (HZ1.out rfl)
    go_wp2_with (first
      | (go_at_call 96; (with_reducible refine (HCut.out _ EX).mono ?_); rintro e w' ⟨rfl, hE⟩; replace f0 := (Below.frozen (p := ⟨w.heap.size, 0, none⟩) hE (cell_lt c0)).trans f0; replace f1 := (Below.frozen (p := ⟨w.heap.size, 1, none⟩) hE (cell_lt c1)).trans f1; replace f2 := (Below.frozen (p := ⟨w.heap.size, 2, none⟩) hE (cell_lt c2)).trans f2; replace c0 := hE.cell c0; replace c1 := hE.cell c1; replace c2 := hE.cell c2; replace EX := EX.trans hE; clear hE)
      | (go_at_call 97; (with_reducible refine (HI1.out _).mono ?_); rintro e w' ⟨rfl, hE⟩; replace f0 := (Below.frozen (p := ⟨w.heap.size, 0, none⟩) hE (cell_lt c0)).trans f0; replace f1 := (Below.frozen (p := ⟨w.heap.size, 1, none⟩) hE (cell_lt c1)).trans f1; replace f2 := (Below.frozen (p := ⟨w.heap.size, 2, none⟩) hE (cell_lt c2)).trans f2; replace c0 := hE.cell c0; replace c1 := hE.cell c1; replace c2 := hE.cell c2; replace EX := EX.trans hE; clear hE)
      | (go_at_call 97; (with_reducible refine (HI2.out _).mono ?_); rintro e w' ⟨rfl, hE⟩; replace f0 := (Below.frozen (p := ⟨w.heap.size, 0, none⟩) hE (cell_lt c0)).trans f0; replace f1 := (Below.frozen (p := ⟨w.heap.size, 1, none⟩) hE (cell_lt c1)).trans f1; replace f2 := (Below.frozen (p := ⟨w.heap.size, 2, none⟩) hE (cell_lt c2)).trans f2; replace c0 := hE.cell c0; replace c1 := hE.cell c1; replace c2 := hE.cell c2; replace EX := EX.trans hE; clear hE)
      | (go_at_call 98; (with_reducible refine (HL1.out _).mono ?_); rintro e w' ⟨rfl, hE⟩; replace f0 := (Below.frozen (p := ⟨w.heap.size, 0, none⟩) hE (cell_lt c0)).trans f0; replace f1 := (Below.frozen (p := ⟨w.heap.size, 1, none⟩) hE (cell_lt c1)).trans f1; replace f2 := (Below.frozen (p := ⟨w.heap.size, 2, none⟩) hE (cell_lt c2)).trans f2; replace c0 := hE.cell c0; replace c1 := hE.cell c1; replace c2 := hE.cell c2; replace EX := EX.trans hE; clear hE)
      | (go_at_call 98; (with_reducible refine (HL2.out _).mono ?_); rintro e w' ⟨rfl, hE⟩; replace f0 := (Below.frozen (p := ⟨w.heap.size, 0, none⟩) hE (cell_lt c0)).trans f0; replace f1 := (Below.frozen (p := ⟨w.heap.size, 1, none⟩) hE (cell_lt c1)).trans f1; replace f2 := (Below.frozen (p := ⟨w.heap.size, 2, none⟩) hE (cell_lt c2)).trans f2; replace c0 := hE.cell c0; replace c1 := hE.cell c1; replace c2 := hE.cell c2; replace EX := EX.trans hE; clear hE))
    have hz := cell_lt c0
    dsimp only at hz
    have EA : Ext w' (w'.alloc (.cells #[.bool false, .slice none 0 0, .slice none 0 0] 143)) := extA
    have X1 : Num3 w'.heap.size (w'.alloc (.cells #[.bool false, .slice none 0 0, .slice none 0 0] 143)) (.bool false) (.slice none 0 0) (.slice none 0 0) := ⟨by go_simp, by go_simp, by go_simp, by go_simp, by go_simp, by go_simp⟩
    have R1 : Num3 w.heap.size (w'.alloc (.cells #[.bool false, .slice none 0 0, .slice none 0 0] 143)) (.bool false) (.slice none 0 0) (.slice none 0 0) := (Num3.mk c0 c1 c2 f0 f1 f2).ext EA
    have E1 := EX.trans EA
    clear c0 c1 c2 f0 f1 f2 EA EX
    obtain ⟨xb, hxb⟩ : ∃ xb, xb = w'.heap.size := ⟨_, rfl⟩
    rw [← hxb] at X1 hz ⊢
    clear hxb
    generalize (w'.alloc (.cells #[.bool false, .slice none 0 0, .slice none 0 0] 143)) = W1 at X1 R1 E1 ⊢
    refine (HSG1.out _).mono ?_
    rintro e w2 ⟨ta, tc, rfl, hC1, hN1, hE⟩
    have hz1 : xb < W1.heap.size := cell_lt X1.c0
    have hN1x : ∀ p, ta = some p → p.block ≠ xb := fun p hp => by have := hN1 p hp; omega
    have hN1w : ∀ p, ta = some p → p.block ≠ w.heap.size := fun p hp => by have := hN1 p hp; omega
    replace X1 := X1.ext hE
    replace R1 := R1.ext hE
    replace E1 := E1.trans hE
    have hxw := cell_lt X1.c0
    dsimp only at hxw
    obtain ⟨x0, x1, x2, g0, g1, g2⟩ := X1
    have HC1 := Lib.hid hC1
    have HX1 := Lib.hid (Num3.mk x0 x1 x2 g0 g1 g2)
    have HR1 := Lib.hid R1
    clear hE hC1 HSG1 R1
    go_wp2_with fail
    have X2 : Num3 xb ((w2.setCell ⟨xb, 0, none⟩ (.bool sg)).setCell ⟨xb, 1, none⟩ (.slice ta (toB 1000000000 n1).length tc)) (.bool sg) (.slice ta (toB 1000000000 n1).length tc) (.slice none 0 0) := (HX1.out.set0 _).set1 _
    have R2 : Num3 w.heap.size ((w2.setCell ⟨xb, 0, none⟩ (.bool sg)).setCell ⟨xb, 1, none⟩ (.slice ta (toB 1000000000 n1).length tc)) (.bool false) (.slice none 0 0) (.slice none 0 0) := (HR1.out.other (by omega) _).other (by omega) _
    have E2 : Ext w ((w2.setCell ⟨xb, 0, none⟩ (.bool sg)).setCell ⟨xb, 1, none⟩ (.slice ta (toB 1000000000 n1).length tc)) := (E1.set (by omega) _).set (by omega) _
    have HC2 := Lib.hid ((HC1.out.set (c := xb) (o := 0) (v := .bool sg) hN1x).set (c := xb) (o := 1) (v := .slice ta (toB 1000000000 n1).length tc) hN1x)
    have HT := Lib.hid (And.intro hN1x hN1w)
    clear x0 x1 x2 g0 g1 g2 HX1 HR1 E1 HC1 hN1 hN1x hN1w hz1
    generalize ((w2.setCell ⟨xb, 0, none⟩ (.bool sg)).setCell ⟨xb, 1, none⟩ (.slice ta (toB 1000000000 n1).length tc)) = W2 at X2 R2 E2 HC2 ⊢
    refine (HSG2.out _).mono ?_
    rintro e w4 ⟨ba, bc, rfl, hC1, hN1, hE⟩
    have hz1 : xb < W2.heap.size := cell_lt X2.c0
    have hB1x : ∀ p, ba = some p → p.block ≠ xb := fun p hp => by have := hN1 p hp; omega
    have hB1w : ∀ p, ba = some p → p.block ≠ w.heap.size := fun p hp => by have := hN1 p hp; omega
    have HBT := Lib.hid (And.intro hB1x hB1w)
    have X4 := X2.ext hE
    have R4 := R2.ext hE
    have E4 := E2.trans hE
    have HC4 := Lib.hid (HC2.out.ext hE)
    have HD4 := Lib.hid hC1
    have hxw4 := cell_lt X4.c0
    dsimp only at hxw4
    clear hE hC1 hN1 hz1 hB1x hB1w X2 R2 E2 HC2 HSG2 hxw
    have hwx : w.heap.size ≠ xb := by omega
    clear HZ0 HZ1
    cases sl
    rotate_left
    · have HE : Hid (fracE t = 3) := HZ.out.trans (by rw [if_pos rfl])
      obtain ⟨c0, c1, c2, f0, f1, f2⟩ := R4
      obtain ⟨x0, x1, x2, g0, g1, g2⟩ := X4
      clear HC4 HD4 HZ
      go_wp2_with fail
      refine bodyPost_ret (v := .tuple #[.agg #[.bool false, .slice none 0 0, .slice none 0 0], .int .i64 3]) (by rw [results_cell_tmp1 rfl]; go_simp) rfl ?_
      exact ⟨_, by rw [HE.out]; rfl, ⟨_, _, _, _, _, _, _, rfl⟩, fun h => absurd (HE.out.symm.trans h) (by decide), extA⟩
    · have HNM := Lib.hid (HNU.out rfl)
      have hZ := HZ.out
      rw [if_neg (by simp)] at hZ
      replace HZ := Lib.hid hZ
      clear hZ HNU
      have EV : Ext (w4.setCell ⟨xb, 2, none⟩ (.slice ba (toB 1000000000 n2).length bc)) ((w4.setCell ⟨xb, 2, none⟩ (.slice ba (toB 1000000000 n2).length bc)).alloc (.cells #[.int .u64 1] 164)) := extA
      have X : Num3 xb ((w4.setCell ⟨xb, 2, none⟩ (.slice ba (toB 1000000000 n2).length bc)).alloc (.cells #[.int .u64 1] 164)) (.bool sg) (.slice ta (toB 1000000000 n1).length tc) (.slice ba (toB 1000000000 n2).length bc) := (X4.set2 _).ext EV
      have R : Num3 w.heap.size ((w4.setCell ⟨xb, 2, none⟩ (.slice ba (toB 1000000000 n2).length bc)).alloc (.cells #[.int .u64 1] 164)) (.bool false) (.slice none 0 0) (.slice none 0 0) := (R4.other (by omega) _).ext EV
      have E : Ext w ((w4.setCell ⟨xb, 2, none⟩ (.slice ba (toB 1000000000 n2).length bc)).alloc (.cells #[.int .u64 1] 164)) := (E4.set (by omega) _).trans EV
      have HC := Lib.hid ((HC4.out.set (c := xb) (o := 2) (v := (.slice ba (toB 1000000000 n2).length bc)) HT.out.1).ext EV)
      have HD := Lib.hid ((HD4.out.set (c := xb) (o := 2) (v := (.slice ba (toB 1000000000 n2).length bc)) HBT.out.1).ext EV)
      have HL := Lib.hid (cells_lit (w4.setCell ⟨xb, 2, none⟩ (.slice ba (toB 1000000000 n2).length bc)) 164)
      obtain ⟨x0, x1, x2, g0, g1, g2⟩ := X4
      clear R4 E4 HC4 HD4 EV
      go_wp2_with fail
      have hs5 : (w4.setCell ⟨xb, 2, none⟩ (.slice ba (toB 1000000000 n2).length bc)).heap.size = w4.heap.size := by simp [World.setCell]
      rw [hs5] at HL
      generalize ((w4.setCell ⟨xb, 2, none⟩ (.slice ba (toB 1000000000 n2).length bc)).alloc (.cells #[.int .u64 1] 164)) = w6 at X R E HC HD HL ⊢
      clear x0 x1 x2 g0 g1 g2 hs5
      refine (compare1_any n2 _ ba bc w4.heap.size _ rfl (by omega) HD.out HL.out).mono ?_
      rintro e w7 ⟨rfl, hE⟩
      replace X := X.ext hE
      replace R := R.ext hE
      replace E := E.trans hE
      replace HC := Lib.hid (HC.out.ext hE)
      replace HD := Lib.hid (HD.out.ext hE)
      clear hE
      have hxw7 := cell_lt X.c0
      dsimp only at hxw7
      by_cases hle : n2 ≤ 1
      · have HE : Hid (fracE t = 3) := HZ.out.trans (by rw [if_pos hle])
        obtain ⟨z, hz, hz0⟩ : ∃ z, ordN n2 1 = z ∧ z ≤ 0 := ⟨_, rfl, ordN_le.2 hle⟩
        rw [hz]
        obtain ⟨c0, c1, c2, f0, f1, f2⟩ := R
        obtain ⟨x0, x1, x2, g0, g1, g2⟩ := X
        clear hz hle HC HD HL HZ HNM
        go_wp2_with fail
        refine bodyPost_ret (v := .tuple #[.agg #[.bool false, .slice none 0 0, .slice none 0 0], .int .i64 3]) (by rw [results_cell_tmp1 rfl]; go_simp) rfl ?_
        exact ⟨_, by rw [HE.out]; rfl, ⟨_, _, _, _, _, _, _, rfl⟩, fun h => absurd (HE.out.symm.trans h) (by decide), extA⟩
      · have hZ := HZ.out
        rw [if_neg hle] at hZ
        replace HZ := Lib.hid hZ
        obtain ⟨z, hz, hz0⟩ : ∃ z, ordN n2 1 = z ∧ ¬ z ≤ 0 := ⟨_, rfl, fun h => hle (ordN_le.1 h)⟩
        rw [hz]
        obtain ⟨g, hg⟩ : ∃ g, g = Nat.gcd n1 n2 := ⟨_, rfl⟩
        have hgl : (toB 1000000000 g).length ≤ 101 := len_le (by
          have h1 : Nat.gcd n1 n2 ≤ n2 := Nat.gcd_le_right _ (by omega)
          have h2 := lt_of_len (x := n2) rfl (by omega)
          have h3 : (1000000000 : Nat) ^ 100 ≤ 1000000000 ^ 101 := Nat.pow_le_pow_right (by omega) (by omega)
          omega)
        have hDV := (divisor_any n1 n2 _ _ ta ba tc bc w7 rfl rfl (by omega) (by omega) (by omega) HC.out HD.out).mono fun _ _ h => h.newB
        rw [← hg] at hDV
        have hZ2 : (g = 1 → fracE t = 0) ∧ (g ≠ 1 → fracE t = 3) := ⟨fun h => by rw [hZ, if_neg (by rw [hg] at h; simpa using h)], fun h => by rw [hZ, if_pos (by rw [hg] at h; exact h)]⟩
        have HZ2 := Lib.hid hZ2
        have HDV := Lib.hid hDV
        clear hz hZ hZ2 HZ HL hDV hg
        obtain ⟨x0, x1, x2, g0, g1, g2⟩ := X
        go_wp2_with fail
        have X := Num3.mk x0 x1 x2 g0 g1 g2
        clear x0 x1 x2 g0 g1 g2
        refine HDV.out.mono ?_
        rintro e w8 ⟨ga, gc, rfl, hgC, _, hE⟩
        replace X := X.ext hE
        replace R := R.ext hE
        replace E := E.trans hE
        replace HC := Lib.hid (HC.out.ext hE)
        replace HD := Lib.hid (HD.out.ext hE)
        clear hE
        have HGC := Lib.hid hgC
        clear hgC HDV
        have hE : Ext w8 (w8.alloc (.cells #[.int .u64 1] 164)) := extA
        replace X := X.ext hE
        replace R := R.ext hE
        replace E := E.trans hE
        replace HC := Lib.hid (HC.out.ext hE)
        replace HD := Lib.hid (HD.out.ext hE)
        have HG8 := Lib.hid (HGC.out.ext hE)
        have HL := Lib.hid (cells_lit w8 164)
        clear hE HGC
        go_wp2_with fail
        generalize (w8.alloc (.cells #[.int .u64 1] 164)) = w9 at X R E HC HD HL HG8 ⊢
        refine (compare1_any g _ ga gc w8.heap.size _ rfl (by omega) HG8.out HL.out).mono ?_
        rintro e w10 ⟨rfl, hE⟩
        replace X := X.ext hE
        replace R := R.ext hE
        replace E := E.trans hE
        replace HC := Lib.hid (HC.out.ext hE)
        replace HD := Lib.hid (HD.out.ext hE)
        clear hE
        clear HG8 HL
        obtain ⟨c0, c1, c2, f0, f1, f2⟩ := R
        obtain ⟨x0, x1, x2, g0, g1, g2⟩ := X
        by_cases h1 : g = 1
        · have HE : Hid (fracE t = 0) := HZ2.out.1 h1
          have hz1 : ordN g 1 = 0 := ordN_zero.2 h1
          rw [hz1]
          clear hz1 h1 HZ2
          go_wp2_with fail
          refine bodyPost_ret (v := .tuple #[.agg #[.bool sg, .slice ta (toB 1000000000 n1).length tc, (.slice ba (toB 1000000000 n2).length bc)], .int .i64 0]) (by rw [results_cell_tmp1 rfl]; go_simp) rfl ?_
          refine ⟨_, by rw [HE.out]; rfl, ⟨_, _, _, _, _, _, _, rfl⟩, fun _ => ⟨ta, tc, ba, bc, by rw [HNM.out], ?_, ?_⟩, extA⟩
          · rw [HNM.out]
            exact ((HC.out.set (c := w.heap.size) HT.out.2).set (c := w.heap.size) HT.out.2).set (c := w.heap.size) HT.out.2
          · rw [HNM.out]
            exact ((HD.out.set (c := w.heap.size) HBT.out.2).set (c := w.heap.size) HBT.out.2).set (c := w.heap.size) HBT.out.2
        · have HE : Hid (fracE t = 3) := HZ2.out.2 h1
          obtain ⟨z, hz, hz0⟩ : ∃ z, ordN g 1 = z ∧ (z != 0) = true := ⟨_, rfl, by rw [bne_iff_ne]; exact fun h => h1 (ordN_zero.1 h)⟩
          rw [hz]
          clear hz h1 HZ2
          go_wp2_with fail
          refine bodyPost_ret (v := .tuple #[.agg #[.bool false, .slice none 0 0, .slice none 0 0], .int .i64 3]) (by rw [results_cell_tmp1 rfl]; go_simp) rfl ?_
          exact ⟨_, by rw [HE.out]; rfl, ⟨_, _, _, _, _, _, _, rfl⟩, fun h => absurd (HE.out.symm.trans h) (by decide), extA⟩
end Go.Proofs.YtbpjbhbbkonjlaaGreatDoor
namespace Go.Proofs.YtbpjbhbbkonjlaaGreatDoor
open Go.RowKit
open Go.Lib (decDigits)
theorem len_dec {s : Txt} (h : DigitL s) (hl : s.length ≤ 60) : (toB 1000000 (decV s)).length ≤ 10 :=
  toB_len (by omega) 10 (Nat.lt_of_lt_of_le (decV_lt h) (Nat.le_trans (Nat.pow_le_pow_right (by omega) hl) (by decide)))
theorem intE_ok {s : Txt} (h : intE s = 0) : CanonL (bareS s) ∧ s ≠ [45, 48] ∧ (bareS s).length ≤ 60 := by
  unfold intE at h
  split at h
  · cases h
  · rename_i h1
    split at h
    · cases h
    · rename_i h2
      have h1 := Decidable.not_not.1 h1
      exact ⟨h1.1, h1.2, by omega⟩
theorem canon_01 {d : Txt} (h : CanonL d) : (d = [48] ↔ decV d = 0) ∧ (d = [49] ↔ decV d = 1) := by
  refine ⟨⟨fun e => by rw [e]; rfl, fun e => canon_zero h e⟩, ⟨fun e => by rw [e]; rfl, fun e => ?_⟩⟩
  exact canon_inj h (by decide) (by rw [e]; rfl)
set_option maxHeartbeats 8000000 in
set_option maxRecDepth 100000 in
theorem checkR_any (a : Txt) (w : World) (hl : a.length ≤ 400) :
    Calls Tryz.prog 25 #[txt a] w fun e w' => e = .returned (.int .i64 (fracE a : Nat)) ∧ Ext w w' := by
  have htl : (topS a).length ≤ 400 := Nat.le_trans (List.takeWhile_prefix _).length_le hl
  have hll : (lowS a).length ≤ 400 := by
    unfold lowS
    split
    · rw [List.length_tail]
      have := (List.dropWhile_suffix (l := a) (· != 47)).length_le
      omega
    · simp
  have HS := Lib.hid (fun W => splitR_any a W hl)
  have HSL := Lib.hid (fun W => slashR_any a W hl)
  have HIT := Lib.hid (fun W => integerR_any (topS a) W htl)
  have HIL := Lib.hid (fun W => integerR_any (lowS a) W hll)
  have HBT := Lib.hid (fun W => bareR_any (topS a) W htl)
  obtain ⟨f, hf⟩ : ∃ f, f = fracE a := ⟨_, rfl⟩
  rw [← hf]
  unfold fracE at hf
  obtain ⟨n, hn⟩ : ∃ n, n = topS a := ⟨_, rfl⟩
  obtain ⟨d, hd⟩ : ∃ d, d = lowS a := ⟨_, rfl⟩
  rw [← hn, ← hd] at hf HS
  rw [← hn] at HIT HBT HSL htl
  rw [← hd] at HIL hll
  clear hn hd
  obtain ⟨p, hp⟩ : ∃ p, p = intE n := ⟨_, rfl⟩
  obtain ⟨q, hq⟩ : ∃ q, q = intE d := ⟨_, rfl⟩
  rw [← hp, ← hq] at hf
  rw [← hp] at HIT
  rw [← hq] at HIL
  have HP := Lib.hid hp
  have HQ := Lib.hid hq
  clear hp hq
  by_cases h3 : p = 3 ∨ q = 3
  · rw [if_pos h3] at hf
    subst hf
    clear HSL HBT HP HQ
    by_cases hp3 : p = 3
    · have h1 : ((p : Int) == 3) = true := by rw [hp3]; rfl
      clear h3 hp3
      go_enter Tryz.func25, Tryz.ntmps25
      go_wp2_with (first
        | ((go_at_call 48; (with_reducible refine (HS.out _).mono ?_); rintro e w1 ⟨rfl, hE⟩))
        | (go_at_call 49; first | (with_reducible refine (HIT.out _).mono ?_; rintro e w' ⟨rfl, rfl⟩) | (with_reducible refine (HIL.out _).mono ?_; rintro e w' ⟨rfl, rfl⟩)))
      go_ret
      exact ⟨rfl, hE⟩
    · have h1 : ((p : Int) == 3) = false := by rw [beq_eq_false_iff_ne]; omega
      have h2 : ((q : Int) == 3) = true := by rw [beq_iff_eq]; omega
      clear h3 hp3
      go_enter Tryz.func25, Tryz.ntmps25
      go_wp2_with (first
        | ((go_at_call 48; (with_reducible refine (HS.out _).mono ?_); rintro e w1 ⟨rfl, hE⟩))
        | (go_at_call 49; first | (with_reducible refine (HIT.out _).mono ?_; rintro e w' ⟨rfl, rfl⟩) | (with_reducible refine (HIL.out _).mono ?_; rintro e w' ⟨rfl, rfl⟩)))
      go_ret
      exact ⟨rfl, hE⟩
  · rw [if_neg h3] at hf
    have h1 : ((p : Int) == 3) = false := by rw [beq_eq_false_iff_ne]; omega
    have h2 : ((q : Int) == 3) = false := by rw [beq_eq_false_iff_ne]; omega
    by_cases h0 : p ≠ 0 ∨ q ≠ 0
    · rw [if_pos h0] at hf
      subst hf
      clear HSL HBT HP HQ
      by_cases hp3 : p = 0
      · have h4 : ((p : Int) == 0) = true := by rw [hp3]; rfl
        have h5 : ((q : Int) == 0) = false := by rw [beq_eq_false_iff_ne]; omega
        have h4' : ((p : Int) != 0) = false := by rw [hp3]; rfl
        have h5' : ((q : Int) != 0) = true := by rw [bne_iff_ne]; omega
        clear h3 hp3 h0
        go_enter Tryz.func25, Tryz.ntmps25
        go_wp2_with (first
          | ((go_at_call 48; (with_reducible refine (HS.out _).mono ?_); rintro e w1 ⟨rfl, hE⟩))
          | (go_at_call 49; first | (with_reducible refine (HIT.out _).mono ?_; rintro e w' ⟨rfl, rfl⟩) | (with_reducible refine (HIL.out _).mono ?_; rintro e w' ⟨rfl, rfl⟩)))
        go_ret
        exact ⟨rfl, hE⟩
      · have h4 : ((p : Int) == 0) = false := by rw [beq_eq_false_iff_ne]; omega
        have h4' : ((p : Int) != 0) = true := by rw [bne_iff_ne]; omega
        clear h3 hp3 h0
        go_enter Tryz.func25, Tryz.ntmps25
        go_wp2_with (first
          | ((go_at_call 48; (with_reducible refine (HS.out _).mono ?_); rintro e w1 ⟨rfl, hE⟩))
          | (go_at_call 49; first | (with_reducible refine (HIT.out _).mono ?_; rintro e w' ⟨rfl, rfl⟩) | (with_reducible refine (HIL.out _).mono ?_; rintro e w' ⟨rfl, rfl⟩)))
        go_ret
        exact ⟨rfl, hE⟩
    · rw [if_neg h0] at hf
      have hp0 : p = 0 := by omega
      have hq0 : q = 0 := by omega
      clear h3 h0 h1 h2
      subst hp0 hq0
      by_cases h47 : (47 : UInt8) ∈ a
      · rw [if_neg (not_not_intro h47)] at hf
        rw [if_pos h47] at HSL
        have hneg : ¬ ((n.length : Nat) : Int) < 0 := by omega
        clear h47
        obtain ⟨kt1, _, kt3⟩ := intE_ok HP.out.symm
        obtain ⟨kl1, _, kl3⟩ := intE_ok HQ.out.symm
        have hdne : d ≠ [] := fun e => kl1.2.1 (by rw [e]; rfl)
        obtain ⟨c, m, hcm⟩ := List.exists_cons_of_ne_nil hdne
        have hget : ∀ h, (⟨d.toArray⟩ : ByteArray)[0]'h = c := fun _ => by subst hcm; rfl
        have hpos : (0 : Int) < (d.length : Int) := by rw [hcm, List.length_cons]; omega
        by_cases hng : negS d = true
        · rw [if_pos (.inl hng)] at hf
          have hc : ((c.toNat : Int) == 45) = true := by
            have h1 : c = 45 := by rw [hcm] at hng; simpa [negS] using hng
            rw [h1]; rfl
          subst hf
          clear hdne hcm hng kt1 kt3 kl1 kl3 HP HQ HBT
          go_enter Tryz.func25, Tryz.ntmps25
          go_wp2_with (first
            | ((go_at_call 48; (with_reducible refine (HS.out _).mono ?_); rintro e w1 ⟨rfl, hE⟩))
            | (go_at_call 50; refine (HSL.out _).mono ?_; rintro e w' ⟨rfl, rfl⟩)
            | (go_at_call 49; first | (with_reducible refine (HIT.out _).mono ?_; rintro e w' ⟨rfl, rfl⟩) | (with_reducible refine (HIL.out _).mono ?_; rintro e w' ⟨rfl, rfl⟩)))
          go_ret
          exact ⟨rfl, hE⟩
        · have hng2 : negS d = false := by simpa using hng
          have hc : ((c.toNat : Int) == 45) = false := by
            rw [beq_eq_false_iff_ne]
            intro e
            have h1 : c = 45 := UInt8.toNat_inj.1 (by show c.toNat = 45; omega)
            exact hng (by rw [hcm, h1]; rfl)
          have hb := bare_pos hng2
          rw [hb] at kl1 kl3
          obtain ⟨k0, k1⟩ := canon_01 kl1
          by_cases h48 : d = [48]
          · rw [if_pos (.inr (.inl (by rw [k0.1 h48]; omega)))] at hf
            have h48b : (d == [48]) = true := by rw [h48]; rfl
            subst hf
            clear hdne hcm hng hng2 kt1 kt3 kl1 kl3 HP HQ HBT hb k0 k1 h48
            go_enter Tryz.func25, Tryz.ntmps25
            go_wp2_with (first
            | ((go_at_call 48; (with_reducible refine (HS.out _).mono ?_); rintro e w1 ⟨rfl, hE⟩))
            | (go_at_call 50; refine (HSL.out _).mono ?_; rintro e w' ⟨rfl, rfl⟩)
            | (go_at_call 49; first | (with_reducible refine (HIT.out _).mono ?_; rintro e w' ⟨rfl, rfl⟩) | (with_reducible refine (HIL.out _).mono ?_; rintro e w' ⟨rfl, rfl⟩)))
            go_ret
            exact ⟨rfl, hE⟩
          · have h48b : (d == [48]) = false := by rw [beq_eq_false_iff_ne]; exact h48
            by_cases h49 : d = [49]
            · rw [if_pos (.inr (.inl (by rw [k1.1 h49]; omega)))] at hf
              have h49b : (d == [49]) = true := by rw [h49]; rfl
              subst hf
              clear hdne hcm hng hng2 kt1 kt3 kl1 kl3 HP HQ HBT hb k0 k1 h48 h49
              go_enter Tryz.func25, Tryz.ntmps25
              go_wp2_with (first
            | ((go_at_call 48; (with_reducible refine (HS.out _).mono ?_); rintro e w1 ⟨rfl, hE⟩))
            | (go_at_call 50; refine (HSL.out _).mono ?_; rintro e w' ⟨rfl, rfl⟩)
            | (go_at_call 49; first | (with_reducible refine (HIT.out _).mono ?_; rintro e w' ⟨rfl, rfl⟩) | (with_reducible refine (HIL.out _).mono ?_; rintro e w' ⟨rfl, rfl⟩)))
              go_ret
              exact ⟨rfl, hE⟩
            · have h49b : (d == [49]) = false := by rw [beq_eq_false_iff_ne]; exact h49
              have hd2 : ¬ decV d ≤ 1 := fun h => by
                have h5 : decV d = 0 ∨ decV d = 1 := by omega
                rcases h5 with h5 | h5
                · exact h48 (k0.2 h5)
                · exact h49 (k1.2 h5)
              have hf2 : f = if Nat.gcd (decV (bareS n)) (decV d) ≠ 1 then 3 else 0 := by
                rw [hf]
                by_cases hg : Nat.gcd (decV (bareS n)) (decV d) ≠ 1
                · rw [if_pos (.inr (.inr hg)), if_pos hg]
                · rw [if_neg (fun h => by
                    rcases h with h | h | h
                    · exact hng h
                    · exact hd2 h
                    · exact hg h), if_neg hg]
              have HF := Lib.hid hf2
              have HRT := Lib.hid (fun W => readR_any (bareS n) W kt1.1 (by omega))
              have HRL := Lib.hid (fun W => readR_any d W kl1.1 (by omega))
              have HL1 := Lib.hid (len_dec kt1.1 kt3)
              have HL2 := Lib.hid (len_dec kl1.1 kl3)
              have HGL : Hid ((toB 1000000 (Nat.gcd (decV (bareS n)) (decV d))).length ≤ 100) := by
                have h5 := toB_mono (B := 1000000) (by omega) (Nat.gcd_le_right (decV (bareS n)) (n := decV d) (by omega))
                have h6 := HL2.out
                show _ ≤ _
                omega
              clear hf hf2 hdne hcm hng hng2 kt1 kt3 kl1 kl3 HP HQ hb k0 k1 h48 h49 hd2
              generalize bareS n = nb at *
              generalize decV nb = x at *
              generalize decV d = y at *
              go_enter Tryz.func25, Tryz.ntmps25
              go_wp2_with (first
            | ((go_at_call 48; (with_reducible refine (HS.out _).mono ?_); rintro e w1 ⟨rfl, hE⟩))
            | (go_at_call 50; refine (HSL.out _).mono ?_; rintro e w' ⟨rfl, rfl⟩)
            | (go_at_call 49; first | (with_reducible refine (HIT.out _).mono ?_; rintro e w' ⟨rfl, rfl⟩) | (with_reducible refine (HIL.out _).mono ?_; rintro e w' ⟨rfl, rfl⟩))
            | (go_at_call 54; refine (HBT.out _).mono ?_; rintro e w' ⟨rfl, rfl⟩)
            | (go_at_call 53; have hh := HRT; clear HRT; refine (hh.out _).mono ?_; clear hh; rintro e w5 ⟨v5, rfl, o5, n5, e5⟩))
              have E5 := hE.trans e5
              obtain ⟨a5, c5, rfl, oc5, _, _⟩ := o5.reads
              have C5 := Lib.hid oc5
              clear o5 n5 e5 oc5 hE
              go_wp2_with (go_at_call 53; refine (HRL.out _).mono ?_; rintro e w6 ⟨v6, rfl, o6, n6, e6⟩)
              have E6 := E5.trans e6
              obtain ⟨a6, c6, rfl, oc6, _, _⟩ := o6.reads
              have C6 := Lib.hid oc6
              replace C5 := Lib.hid (C5.out.ext e6)
              have hx100 : (toB 1000000 x).length ≤ 100 := Nat.le_trans HL1.out (by omega)
              have hy100 : (toB 1000000 y).length ≤ 100 := Nat.le_trans HL2.out (by omega)
              have HSH := Lib.hid (sharedR_any x y (toB 1000000 x) (toB 1000000 y) a5 a6 c5 c6 w6 rfl rfl hx100 hy100 C5.out C6.out)
              clear o6 n6 e6 oc6 E5 C5 C6 hx100 hy100
              go_wp2_with (go_at_call 52; refine HSH.out.mono ?_; rintro e w7 ⟨a7, c7, rfl, hc7, e7⟩)
              have E7 := E6.trans e7
              have C7 := Lib.hid hc7
              clear e7 hc7 E6 HSH
              by_cases hg : Nat.gcd x y = 1
              · have hz : (ordN (Nat.gcd x y) 1 != 0) = false := by rw [bne_eq_false_iff_eq]; exact ordN_zero.2 hg
                have HF0 : Hid (f = 0) := by show _ = _; rw [HF.out, if_neg (not_not_intro hg)]
                clear hg
                go_wp2_with (go_at_call 51; refine (orderR_any (Nat.gcd x y) 1 (toB 1000000 (Nat.gcd x y)) [1] a7 _ c7 1 _ rfl (toB_one (by omega) (by omega) (by omega)).symm (Nat.le_trans HGL.out (by omega)) (by simp) (C7.out.ext ((Ext.refl _).alloc _)) (cells_one' 1 w7)).mono ?_; rintro e w8 ⟨rfl, e8⟩)
                go_ret
                rw [HF0.out]
                exact ⟨rfl, (E7.trans ((Ext.refl _).alloc _)).trans e8⟩
              · have hz : (ordN (Nat.gcd x y) 1 != 0) = true := by rw [bne_iff_ne]; exact fun h => hg (ordN_zero.1 h)
                have HF0 : Hid (f = 3) := by show _ = _; rw [HF.out, if_pos hg]
                clear hg
                go_wp2_with (go_at_call 51; refine (orderR_any (Nat.gcd x y) 1 (toB 1000000 (Nat.gcd x y)) [1] a7 _ c7 1 _ rfl (toB_one (by omega) (by omega) (by omega)).symm (Nat.le_trans HGL.out (by omega)) (by simp) (C7.out.ext ((Ext.refl _).alloc _)) (cells_one' 1 w7)).mono ?_; rintro e w8 ⟨rfl, e8⟩)
                go_ret
                rw [HF0.out]
                exact ⟨rfl, (E7.trans ((Ext.refl _).alloc _)).trans e8⟩
      · rw [if_pos h47] at hf
        rw [if_neg h47] at HSL
        subst hf
        clear h47 HBT HP HQ
        go_enter Tryz.func25, Tryz.ntmps25
        go_wp2_with (first
          | ((go_at_call 48; (with_reducible refine (HS.out _).mono ?_); rintro e w1 ⟨rfl, hE⟩))
          | (go_at_call 50; refine (HSL.out _).mono ?_; rintro e w' ⟨rfl, rfl⟩)
          | (go_at_call 49; first | (with_reducible refine (HIT.out _).mono ?_; rintro e w' ⟨rfl, rfl⟩) | (with_reducible refine (HIL.out _).mono ?_; rintro e w' ⟨rfl, rfl⟩)))
        go_ret
        exact ⟨rfl, hE⟩
end Go.Proofs.YtbpjbhbbkonjlaaGreatDoor
