/- Steps of the proof: ETopSq. No conditions. -/
import Derived.Test.YtdejgaiocjfhjaaGreatDoorZSB1
import Derived.Test.YtdejgaiocjfhjaaGreatDoorZSB2
import Derived.Test.YtdejgaiocjfhjaaGreatDoorZSB3
import Derived.Test.YtdejgaiocjfhjaaGreatDoorZSB4
import Derived.Test.YtdejgaiocjfhjaaGreatDoorZSB5
import Derived.Test.YtdejgaiocjfhjaaGreatDoorZSB6
import Derived.Test.YtdejgaiocjfhjaaGreatDoorZSB7
import Derived.Test.YtdejgaiocjfhjaaGreatDoorZESpa1
import Derived.Test.YtdejgaiocjfhjaaGreatDoorZESpa2
namespace Go.Proofs.YtdejgaiocjfhjaaGreatDoor
open Go.RowKit Go.ChangeShapes Go.WideShapes Go.Joins Go.Deep
section
variable {H : Type} {enc : TypeId × Value → H} {w : World} {base : Nat} {spare : Nat → Bool} {held : Bool}
set_option maxRecDepth 100000 in
theorem open_span {r : Reach} {b0 : Nat} {v : Value} {d : DataW H} {p : List MemPlace} (hv : Value.okWide Tryz.prog w r b0 82 v) (h : DataW.Trod enc Tryz.prog w base spare held 82 v d p) :
    ∃ a : Spn, v = spanV a := by
  obtain ⟨c0, c1, y0, y1, n, rfl, _, _, h0, h1⟩ := open_agg2 Tryz.underlying82 (by kernel_rfl) (by kernel_rfl) hv h
  obtain ⟨x0, e0, _, _⟩ := DataW.trod_int Tryz.underlying3 h0
  obtain ⟨x1, e1, _, _⟩ := DataW.trod_int Tryz.underlying3 h1
  simp at e0 e1
  subst e0; subst e1
  exact ⟨(x0, x1), rfl⟩
end
set_option maxHeartbeats 4000000 in
set_option maxRecDepth 100000 in
theorem spans_one (l h m k : Int) (w : World) (hG : Glob w) (ha : spanE (l, h) ≠ 0) : Calls Tryz.prog 13 #[spanV (l, h), spanV (m, k)] w (TrueP w) := by
  unfold TrueP
  have HF := Lib.hid (fun W (g : Ext w W) => playF_any W (hG.ext g))
  have H1 : Hid (∀ W, Calls Tryz.prog 62 #[.agg #[.int .i64 l, .int .i64 h]] W fun e w' => e = .returned (.int .i64 (spanE (l, h) : Nat)) ∧ Ext W w') := fun W => rCheck3_any (l, h) W
  have hne : (((spanE (l, h) : Nat) : Int) != 0) = true := by rw [bne_iff_ne]; omega
  clear ha
  generalize spanE (l, h) = n at *
  clear hG
  dsimp only [spanV]
  have A : IntsAt w.heap.size ((w.alloc (.cells #[.int .i64 l, .int .i64 h] 82)).alloc (.cells #[.int .i64 m, .int .i64 k] 82)) l h := ⟨by go_simp, by go_simp, by go_simp, by go_simp⟩
  have B : IntsAt (w.heap.size + 1) ((w.alloc (.cells #[.int .i64 l, .int .i64 h] 82)).alloc (.cells #[.int .i64 m, .int .i64 k] 82)) m k := ⟨by go_simp, by go_simp, by go_simp, by go_simp⟩
  have E : Ext w ((w.alloc (.cells #[.int .i64 l, .int .i64 h] 82)).alloc (.cells #[.int .i64 m, .int .i64 k] 82)) := extA
  go_enter Tryz.func13, Tryz.ntmps13
  go_wp2_with fail
  generalize ((w.alloc (.cells #[.int .i64 l, .int .i64 h] 82)).alloc (.cells #[.int .i64 m, .int .i64 k] 82)) = w0 at A B E ⊢
  refine (H1.out _).mono ?_
  clear H1
  rintro e w1 ⟨rfl, hE⟩
  replace E := E.trans hE
  replace A := A.ext hE
  replace B := B.ext hE
  clear hE
  obtain ⟨a0, a1, _, _⟩ := A
  obtain ⟨b0, b1, _, _⟩ := B
  go_wp2_with fail
  refine (HF.out _ E).mono ?_
  rintro e w3 ⟨rfl, hE⟩
  replace E := E.trans hE
  go_wp2_with fail
  go_ret
  exact ⟨rfl, E⟩
set_option maxHeartbeats 4000000 in
set_option maxRecDepth 100000 in
theorem spans_two (l h m k : Int) (w : World) (hG : Glob w) (ha : spanE (l, h) = 0) (hb : spanE (m, k) ≠ 0) : Calls Tryz.prog 13 #[spanV (l, h), spanV (m, k)] w (TrueP w) := by
  unfold TrueP
  have HF := Lib.hid (fun W (g : Ext w W) => playF_any W (hG.ext g))
  have H1 : Hid (∀ W, Calls Tryz.prog 62 #[.agg #[.int .i64 l, .int .i64 h]] W fun e w' => e = .returned (.int .i64 (0 : Nat)) ∧ Ext W w') := fun W => by have q := rCheck3_any (l, h) W; rw [ha] at q; exact q
  clear ha
  have H2 : Hid (∀ W, Calls Tryz.prog 62 #[.agg #[.int .i64 m, .int .i64 k]] W fun e w' => e = .returned (.int .i64 (spanE (m, k) : Nat)) ∧ Ext W w') := fun W => rCheck3_any (m, k) W
  have hne : (((spanE (m, k) : Nat) : Int) != 0) = true := by rw [bne_iff_ne]; omega
  clear hb
  generalize spanE (m, k) = n at *
  clear hG
  dsimp only [spanV]
  have A : IntsAt w.heap.size ((w.alloc (.cells #[.int .i64 l, .int .i64 h] 82)).alloc (.cells #[.int .i64 m, .int .i64 k] 82)) l h := ⟨by go_simp, by go_simp, by go_simp, by go_simp⟩
  have B : IntsAt (w.heap.size + 1) ((w.alloc (.cells #[.int .i64 l, .int .i64 h] 82)).alloc (.cells #[.int .i64 m, .int .i64 k] 82)) m k := ⟨by go_simp, by go_simp, by go_simp, by go_simp⟩
  have E : Ext w ((w.alloc (.cells #[.int .i64 l, .int .i64 h] 82)).alloc (.cells #[.int .i64 m, .int .i64 k] 82)) := extA
  go_enter Tryz.func13, Tryz.ntmps13
  go_wp2_with fail
  generalize ((w.alloc (.cells #[.int .i64 l, .int .i64 h] 82)).alloc (.cells #[.int .i64 m, .int .i64 k] 82)) = w0 at A B E ⊢
  refine (H1.out _).mono ?_
  clear H1
  rintro e w1 ⟨rfl, hE⟩
  replace E := E.trans hE
  replace A := A.ext hE
  replace B := B.ext hE
  clear hE
  obtain ⟨a0, a1, _, _⟩ := A
  obtain ⟨b0, b1, _, _⟩ := B
  go_wp2_with fail
  refine (H2.out _).mono ?_
  clear H2
  rintro e w2 ⟨rfl, hE⟩
  replace E := E.trans hE
  replace a0 := hE.cell a0
  replace a1 := hE.cell a1
  replace b0 := hE.cell b0
  replace b1 := hE.cell b1
  clear hE
  go_wp2_with fail
  refine (HF.out _ E).mono ?_
  rintro e w3 ⟨rfl, hE⟩
  replace E := E.trans hE
  go_wp2_with fail
  go_ret
  exact ⟨rfl, E⟩
set_option maxHeartbeats 4000000 in
set_option maxRecDepth 100000 in
theorem spans_far (l h m k : Int) (w : World) (hG : Glob w) (ha : spanE (l, h) = 0) (hb : spanE (m, k) = 0) (hs : ¬ h + k ≤ 1000000) : Calls Tryz.prog 13 #[spanV (l, h), spanV (m, k)] w (TrueP w) := by
  unfold TrueP
  have HF := Lib.hid (fun W (g : Ext w W) => playF_any W (hG.ext g))
  have H1 : Hid (∀ W, Calls Tryz.prog 62 #[.agg #[.int .i64 l, .int .i64 h]] W fun e w' => e = .returned (.int .i64 (0 : Nat)) ∧ Ext W w') := fun W => by have q := rCheck3_any (l, h) W; rw [ha] at q; exact q
  have H2 : Hid (∀ W, Calls Tryz.prog 62 #[.agg #[.int .i64 m, .int .i64 k]] W fun e w' => e = .returned (.int .i64 (0 : Nat)) ∧ Ext W w') := fun W => by have q := rCheck3_any (m, k) W; rw [hb] at q; exact q
  have hng : (1000000 : Int) < h + k := by omega
  have hwr : IntKind.i64.wrap (h + k) = h + k := by
    have a1 := (span_right ha).two
    have a2 := (span_right hb).two
    unfold TimeR at a1 a2
    dsimp only at a1 a2
    rw [IntKind.wrap_i64]; omega
  clear ha hb hs
  clear hG
  dsimp only [spanV]
  have A : IntsAt w.heap.size ((w.alloc (.cells #[.int .i64 l, .int .i64 h] 82)).alloc (.cells #[.int .i64 m, .int .i64 k] 82)) l h := ⟨by go_simp, by go_simp, by go_simp, by go_simp⟩
  have B : IntsAt (w.heap.size + 1) ((w.alloc (.cells #[.int .i64 l, .int .i64 h] 82)).alloc (.cells #[.int .i64 m, .int .i64 k] 82)) m k := ⟨by go_simp, by go_simp, by go_simp, by go_simp⟩
  have E : Ext w ((w.alloc (.cells #[.int .i64 l, .int .i64 h] 82)).alloc (.cells #[.int .i64 m, .int .i64 k] 82)) := extA
  go_enter Tryz.func13, Tryz.ntmps13
  go_wp2_with fail
  generalize ((w.alloc (.cells #[.int .i64 l, .int .i64 h] 82)).alloc (.cells #[.int .i64 m, .int .i64 k] 82)) = w0 at A B E ⊢
  refine (H1.out _).mono ?_
  clear H1
  rintro e w1 ⟨rfl, hE⟩
  replace E := E.trans hE
  replace A := A.ext hE
  replace B := B.ext hE
  clear hE
  obtain ⟨a0, a1, _, _⟩ := A
  obtain ⟨b0, b1, _, _⟩ := B
  go_wp2_with fail
  refine (H2.out _).mono ?_
  clear H2
  rintro e w2 ⟨rfl, hE⟩
  replace E := E.trans hE
  replace a0 := hE.cell a0
  replace a1 := hE.cell a1
  replace b0 := hE.cell b0
  replace b1 := hE.cell b1
  clear hE
  go_wp2_with fail
  refine (HF.out _ E).mono ?_
  rintro e w3 ⟨rfl, hE⟩
  replace E := E.trans hE
  go_wp2_with fail
  go_ret
  exact ⟨rfl, E⟩
theorem lawSpans_any (a b : Spn) (w : World) (hG : Glob w) : Calls Tryz.prog 13 #[spanV a, spanV b] w (TrueP w) := by
  obtain ⟨l, h⟩ := a
  obtain ⟨m, k⟩ := b
  by_cases ha : spanE (l, h) = 0
  · by_cases hb : spanE (m, k) = 0
    · by_cases hs : h + k ≤ 1000000
      · exact lawSpansM_any l h m k w hG (span_right ha) (span_right hb) hs
      · exact spans_far l h m k w hG ha hb hs
    · exact spans_two l h m k w hG ha hb
  · exact spans_one l h m k w hG ha
end Go.Proofs.YtdejgaiocjfhjaaGreatDoor
