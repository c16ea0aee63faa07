/- Steps of the proof: ETopSp. No conditions. -/
import Derived.Test.YtdejgaiocjfhjaaGreatDoorZSB1
import Derived.Test.YtdejgaiocjfhjaaGreatDoorZSB2
import Derived.Test.YtdejgaiocjfhjaaGreatDoorZSB3
import Derived.Test.YtdejgaiocjfhjaaGreatDoorZSB4
import Derived.Test.YtdejgaiocjfhjaaGreatDoorZSB5
import Derived.Test.YtdejgaiocjfhjaaGreatDoorZSB6
import Derived.Test.YtdejgaiocjfhjaaGreatDoorZSB7
import Derived.Test.YtdejgaiocjfhjaaGreatDoorZESpa1
namespace Go.Proofs.YtdejgaiocjfhjaaGreatDoor
open Go Go.RowKit
open Go.Lib (itoa)
section
variable {P : Program} {md : Region.Mode} {ops : Array Oper} {Q : Exit → Act → World → Prop} {S : World → Prop} {f : Nat}
theorem wpAnyE_three {i j k : Nat} {o p q : Oper} {fuel : Nat} {listed : Array Bool} {a : Act} {w : World} (ho : ops[i]? = some o) (hp : ops[j]? = some p) (hq : ops[k]? = some q) (hr : Region.ready md ops listed = [i, j, k])
    (h : ∀ K' : Act → World → Prop, Shut (∀ a w, S w → (S w → wpAnyE P md ops Q S f fuel (listed.setIfInBounds i true) a w) → K' a w) → if Region.wanted o (yielded ops a.tmps) = true then Oper.wp P o a w K' Q else K' (a.put o.dst undef) w)
    (h2 : ∀ K' : Act → World → Prop, Shut (∀ a w, S w → (S w → wpAnyE P md ops Q S f fuel (listed.setIfInBounds j true) a w) → K' a w) → if Region.wanted p (yielded ops a.tmps) = true then Oper.wp P p a w K' Q else K' (a.put p.dst undef) w)
    (h3 : ∀ K' : Act → World → Prop, Shut (∀ a w, S w → (S w → wpAnyE P md ops Q S f fuel (listed.setIfInBounds k true) a w) → K' a w) → if Region.wanted q (yielded ops a.tmps) = true then Oper.wp P q a w K' Q else K' (a.put q.dst undef) w) :
    wpAnyE P md ops Q S f (fuel + 1) listed a w := by
  refine ⟨fun h0 => (by rw [hr] at h0; cases h0), fun n hn => ?_⟩
  rw [hr] at hn
  rcases List.mem_cons.1 hn with rfl | hn
  · exact wpOp_step ho (fun K' hK => h K' (fun a w hS hW => hK a w ⟨fun _ => hS, hW hS⟩))
  · rcases List.mem_cons.1 hn with rfl | hn
    · exact wpOp_step hp (fun K' hK => h2 K' (fun a w hS hW => hK a w ⟨fun _ => hS, hW hS⟩))
    · rcases List.mem_singleton.1 hn with rfl
      exact wpOp_step hq (fun K' hK => h3 K' (fun a w hS hW => hK a w ⟨fun _ => hS, hW hS⟩))
end
theorem IntsAt.two {b c o1 o2 : Nat} {A : World} {p q : Int} {v u : Value} (x : IntsAt b A p q) (hn : b ≠ c) : IntsAt b ((A.setCell ⟨c, o1, none⟩ v).setCell ⟨c, o2, none⟩ u) p q :=
  ⟨oth2 hn x.c0, oth2 hn x.c1, by rw [World.frozen?_setCell, World.frozen?_setCell]; exact x.f0, by rw [World.frozen?_setCell, World.frozen?_setCell]; exact x.f1⟩
structure SpanD (w : World) (l h m k s0 s1 g0 g1 q0 q1 c : Int) (ok on : Bool) (tl th tm tk x0 x1 y0 y1 z0 z1 : Txt) : Prop where
  fp1 : ∀ W, Calls Tryz.prog 63 #[.agg #[.int .i64 l, .int .i64 h]] W fun e w' => e = .returned (.agg #[txt tl, txt th]) ∧ Ext W w'
  fp2 : ∀ W, Calls Tryz.prog 63 #[.agg #[.int .i64 m, .int .i64 k]] W fun e w' => e = .returned (.agg #[txt tm, txt tk]) ∧ Ext W w'
  fr1 : ∀ W, Calls Tryz.prog 62 #[.agg #[.int .i64 l, .int .i64 h]] W fun e w' => e = .returned (.int .i64 (0 : Nat)) ∧ Ext W w'
  fr2 : ∀ W, Calls Tryz.prog 62 #[.agg #[.int .i64 m, .int .i64 k]] W fun e w' => e = .returned (.int .i64 (0 : Nat)) ∧ Ext W w'
  fs : ∀ W, Calls Tryz.prog 64 #[.agg #[.int .i64 l, .int .i64 h], .agg #[.int .i64 m, .int .i64 k]] W fun e w' => e = .returned (.tuple #[.agg #[.int .i64 s0, .int .i64 s1], .int .i64 0]) ∧ Ext W w'
  fx : ∀ W, Ext w W → Calls Tryz.prog 20 #[.agg #[txt tl, txt th], .agg #[txt tm, txt tk]] W fun e w' => e = .returned (.tuple #[.agg #[txt x0, txt x1], .int .i64 (0 : Nat)]) ∧ Ext W w'
  fp3 : ∀ W, Calls Tryz.prog 63 #[.agg #[.int .i64 s0, .int .i64 s1]] W fun e w' => e = .returned (.agg #[txt x0, txt x1]) ∧ Ext W w'
  fg : ∀ W, Calls Tryz.prog 65 #[.agg #[.int .i64 l, .int .i64 h], .agg #[.int .i64 m, .int .i64 k]] W fun e w' => e = .returned (.tuple #[.agg #[.int .i64 g0, .int .i64 g1], .int .i64 0]) ∧ Ext W w'
  fy : ∀ W, Ext w W → Calls Tryz.prog 30 #[.agg #[txt tl, txt th], .agg #[txt tm, txt tk]] W fun e w' => e = .returned (.tuple #[.agg #[txt y0, txt y1], .int .i64 (0 : Nat)]) ∧ Ext W w'
  fp4 : ∀ W, Calls Tryz.prog 63 #[.agg #[.int .i64 g0, .int .i64 g1]] W fun e w' => e = .returned (.agg #[txt y0, txt y1]) ∧ Ext W w'
  fc : ∀ W, Calls Tryz.prog 66 #[.agg #[.int .i64 l, .int .i64 h], .agg #[.int .i64 m, .int .i64 k]] W fun e w' => e = .returned (.tuple #[.int .i64 c, .int .i64 0]) ∧ Ext W w'
  fd : ∀ W, Ext w W → Calls Tryz.prog 34 #[.agg #[txt tl, txt th], .agg #[txt tm, txt tk]] W fun e w' => e = .returned (.tuple #[.int .i64 c, .int .i64 (0 : Nat)]) ∧ Ext W w'
  fm : ∀ W, Calls Tryz.prog 67 #[.agg #[.int .i64 l, .int .i64 h], .agg #[.int .i64 m, .int .i64 k]] W fun e w' => e = .returned (.tuple #[.agg #[.int .i64 q0, .int .i64 q1], .bool ok, .int .i64 0]) ∧ Ext W w'
  fz : ∀ W, Ext w W → Calls Tryz.prog 28 #[.agg #[txt tl, txt th], .agg #[txt tm, txt tk]] W fun e w' => e = .returned (.tuple #[.agg #[txt z0, txt z1], .bool ok, .int .i64 (0 : Nat)]) ∧ Ext W w'
  fp5 : ok = true → ∀ W, Calls Tryz.prog 63 #[.agg #[.int .i64 q0, .int .i64 q1]] W fun e w' => e = .returned (.agg #[txt z0, txt z1]) ∧ Ext W w'
  fi : ∀ W, Calls Tryz.prog 68 #[.agg #[.int .i64 l, .int .i64 h], .agg #[.int .i64 m, .int .i64 k]] W fun e w' => e = .returned (.tuple #[.bool on, .int .i64 0]) ∧ Ext W w'
  fj : ∀ W, Ext w W → Calls Tryz.prog 32 #[.agg #[txt tl, txt th], .agg #[txt tm, txt tk]] W fun e w' => e = .returned (.tuple #[.bool on, .int .i64 (0 : Nat)]) ∧ Ext W w'
  ff : ∀ W, Ext w W → Calls Tryz.prog 56 #[] W fun e w' => e = .returned (.bool true) ∧ Ext W w'
set_option maxRecDepth 100000 in
theorem span_data {l h m k : Int} {w : World} (hG : Glob w) (ha : SpanR (l, h)) (hb : SpanR (m, k)) (hs : h + k ≤ 1000000) :
    ∃ (s0 s1 g0 g1 q0 q1 c : Int) (ok on : Bool) (tl th tm tk x0 x1 y0 y1 z0 z1 : Txt), SpanD w l h m k s0 s1 g0 g1 q0 q1 c ok on tl th tm tk x0 x1 y0 y1 z0 z1 := by
  have la := (sp_good ha).len
  have lb := (sp_good hb).len
  have a1 := ha.lo
  have a2 := ha.le
  have a3 := ha.hi
  have b1 := hb.lo
  have b2 := hb.le
  have b3 := hb.hi
  dsimp only at a1 a2 a3 b1 b2 b3
  obtain ⟨q0, q1, ok, z0, z1, M1, M2, M3⟩ : ∃ (q0 q1 : Int) (ok : Bool) (z0 z1 : Txt), (∀ W, Calls Tryz.prog 67 #[spanV (l, h), spanV (m, k)] W fun e w' => e = .returned (.tuple #[.agg #[.int .i64 q0, .int .i64 q1], .bool ok, .int .i64 0]) ∧ Ext W w') ∧
      meetE (spE (l, h)) (spE (m, k)) = ((z0, z1), ok, 0) ∧ (ok = true → ∀ W, Calls Tryz.prog 63 #[.agg #[.int .i64 q0, .int .i64 q1]] W fun e w' => e = .returned (.agg #[txt z0, txt z1]) ∧ Ext W w') := by
    have M := sp_meet ha hb
    dsimp only at M
    by_cases c : min h k < max l m
    · rw [if_pos c] at M
      refine ⟨0, 0, false, [], [], fun W => ?_, M, fun h => by cases h⟩
      have t := tMeet_any l h m k W ha hb
      rw [if_pos c, decide_eq_false (not_not_intro c)] at t
      exact t
    · rw [if_neg c] at M
      refine ⟨max l m, min h k, true, _, _, fun W => ?_, M, fun _ W => playE_any _ _ W (by omega) (by omega) (by omega) (by omega)⟩
      have t := tMeet_any l h m k W ha hb
      rw [if_neg c, decide_eq_true c] at t
      exact t
  refine ⟨l + m, h + k, min l m, max h k, q0, q1, if h < m then -1 else if k < l then 1 else 0, ok, decide (m ≤ l) && decide (h ≤ k), itoa l, itoa h, itoa m, itoa k, itoa (l + m), itoa (h + k), itoa (min l m), itoa (max h k), z0, z1, ?_⟩
  exact {
    fp1 := fun W => playE_any l h W (by omega) (by omega) (by omega) (by omega)
    fp2 := fun W => playE_any m k W (by omega) (by omega) (by omega) (by omega)
    fr1 := fun W => by have q := rCheck3_any (l, h) W; rw [span_zero ha] at q; exact q
    fr2 := fun W => by have q := rCheck3_any (m, k) W; rw [span_zero hb] at q; exact q
    fs := fun W => tAdd_any l h m k W ha hb hs
    fx := fun W g => by have q := eAdd_any _ _ W (hG.ext g) la lb; rw [sp_add ha hb] at q; exact q
    fp3 := fun W => playE_any _ _ W (by omega) (by omega) (by omega) (by omega)
    fg := fun W => tHull_any l h m k W ha hb
    fy := fun W g => by have q := eHull_any _ _ W (hG.ext g) la lb; rw [sp_hull ha hb] at q; exact q
    fp4 := fun W => playE_any _ _ W (by omega) (by omega) (by omega) (by omega)
    fc := fun W => tCompare_any l h m k W ha hb
    fd := fun W g => by have q := eCompare_any _ _ W (hG.ext g) la lb; rw [sp_compare ha hb] at q; exact q
    fm := M1
    fz := fun W g => by have q := eMeet_any _ _ W (hG.ext g) la lb; rw [M2] at q; exact q
    fp5 := M3
    fi := fun W => tWithin_any l h m k W ha hb
    fj := fun W g => by have q := eWithin_any _ _ W (hG.ext g) la lb; rw [sp_within ha hb] at q; exact q
    ff := fun W g => playF_any W (hG.ext g) }
set_option maxHeartbeats 32000000 in
set_option maxRecDepth 100000 in
theorem lawSpansM_any (l h m k : Int) (w : World) (hG : Glob w) (ha : SpanR (l, h)) (hb : SpanR (m, k)) (hs : h + k ≤ 1000000) : Calls Tryz.prog 13 #[spanV (l, h), spanV (m, k)] w (TrueP w) := by
  unfold TrueP
  obtain ⟨s0, s1, g0, g1, q0, q1, c, ok, on, tl, th, tm, tk, x0, x1, y0, y1, z0, z1, D⟩ := span_data hG ha hb hs
  have Dp1 := Lib.hid D.fp1
  have Dp2 := Lib.hid D.fp2
  have Dr1 := Lib.hid D.fr1
  have Dr2 := Lib.hid D.fr2
  have Ds := Lib.hid D.fs
  have Dx := Lib.hid D.fx
  have Dp3 := Lib.hid D.fp3
  have Dg := Lib.hid D.fg
  have Dy := Lib.hid D.fy
  have Dp4 := Lib.hid D.fp4
  have Dc := Lib.hid D.fc
  have Dd := Lib.hid D.fd
  have Dm := Lib.hid D.fm
  have Dz := Lib.hid D.fz
  have Dp5 := Lib.hid D.fp5
  have Di := Lib.hid D.fi
  have Dj := Lib.hid D.fj
  have Df := Lib.hid D.ff
  have hng : ¬ (1000000 : Int) < h + k := by omega
  have hwr : IntKind.i64.wrap (h + k) = h + k := by
    have a1 := ha.two
    have a2 := hb.two
    unfold TimeR at a1 a2
    dsimp only at a1 a2
    rw [IntKind.wrap_i64]; omega
  have hw0 : IntKind.i64.wrap 0 = 0 := by decide
  clear hG ha hb hs D
  dsimp only [spanV]
  have A : IntsAt w.heap.size ((w.alloc (.cells #[.int .i64 l, .int .i64 h] 82)).alloc (.cells #[.int .i64 m, .int .i64 k] 82)) l h := ⟨by go_simp, by go_simp, by go_simp, by go_simp⟩
  have B : IntsAt (w.heap.size + 1) ((w.alloc (.cells #[.int .i64 l, .int .i64 h] 82)).alloc (.cells #[.int .i64 m, .int .i64 k] 82)) m k := ⟨by go_simp, by go_simp, by go_simp, by go_simp⟩
  have E : Ext w ((w.alloc (.cells #[.int .i64 l, .int .i64 h] 82)).alloc (.cells #[.int .i64 m, .int .i64 k] 82)) := extA
  go_enter Tryz.func13, Tryz.ntmps13
  go_wp2_with fail
  generalize ((w.alloc (.cells #[.int .i64 l, .int .i64 h] 82)).alloc (.cells #[.int .i64 m, .int .i64 k] 82)) = w0 at A B E ⊢
  refine (Dr1.out _).mono ?_
  clear Dr1
  rintro e w1 ⟨rfl, hE⟩
  replace E := E.trans hE
  replace A := A.ext hE
  replace B := B.ext hE
  clear hE
  have A' := A
  have B' := B
  obtain ⟨A0, A1, A2, A3⟩ := A
  have zA := cell_lt A0
  dsimp only at zA
  obtain ⟨B0, B1, B2, B3⟩ := B
  have zB := cell_lt B0
  dsimp only at zB
  go_wp2_with fail
  clear A0 A1 A2 A3 zA B0 B1 B2 B3 zB
  have A := A'
  clear A'
  have B := B'
  clear B'
  refine (Dr2.out _).mono ?_
  clear Dr2
  rintro e w2 ⟨rfl, hE⟩
  replace E := E.trans hE
  replace A := A.ext hE
  replace B := B.ext hE
  clear hE
  have A' := A
  have B' := B
  obtain ⟨A0, A1, A2, A3⟩ := A
  have zA := cell_lt A0
  dsimp only at zA
  obtain ⟨B0, B1, B2, B3⟩ := B
  have zB := cell_lt B0
  dsimp only at zB
  go_wp2
  clear A0 A1 A2 A3 zA B0 B1 B2 B3 zB
  have A := A'
  clear A'
  have B := B'
  clear B'
  go_cut [5, 6] (fun xv yv wx => ∃ nx ny, xv = .pointer (some ⟨nx, 0, none⟩) ∧ yv = .pointer (some ⟨ny, 0, none⟩) ∧ Hid (EncAt nx wx tl th) ∧ Hid (EncAt ny wx tm tk) ∧ Hid (IntsAt w.heap.size wx l h) ∧ Hid (IntsAt (w.heap.size + 1) wx m k) ∧ Ext w wx)
  case first =>
    have hD : Ext w2 w2.drew := extA
    replace E := E.trans hD
    replace A := A.ext hD
    replace B := B.ext hD
    have hS : w2.drew.cell? ⟨w.heap.size, 0, none⟩ = some (.int .i64 l) ∧ w2.drew.cell? ⟨w.heap.size, 1, none⟩ = some (.int .i64 h) ∧ w2.drew.cell? ⟨w.heap.size + 1, 0, none⟩ = some (.int .i64 m) ∧ w2.drew.cell? ⟨w.heap.size + 1, 1, none⟩ = some (.int .i64 k) := ⟨A.c0, A.c1, B.c0, B.c1⟩
    refine wp_region_heldE 99 (fun w' => w'.cell? ⟨w.heap.size, 0, none⟩ = some (.int .i64 l) ∧ w'.cell? ⟨w.heap.size, 1, none⟩ = some (.int .i64 h) ∧ w'.cell? ⟨w.heap.size + 1, 0, none⟩ = some (.int .i64 m) ∧ w'.cell? ⟨w.heap.size + 1, 1, none⟩ = some (.int .i64 k)) (by kernel_rfl) ?_
    clear hD
    generalize w2.drew = v0 at A B E hS ⊢
    ((refine eTk 0 ?_); (refine eTk 2 ?_))
    refine wpAnyE_three (i := 1) (j := 4) (k := 5) (o := ?_) (p := ?_) (q := ?_) (by (simp only [List.getElem?_toArray, List.getElem?_cons_succ, List.getElem?_cons_zero]; exact rfl)) (by (simp only [List.getElem?_toArray, List.getElem?_cons_succ, List.getElem?_cons_zero]; exact rfl)) (by (simp only [List.getElem?_toArray, List.getElem?_cons_succ, List.getElem?_cons_zero]; exact rfl)) (by kernel_rfl) (fun K hK => ?_) (fun K hK => ?_) (fun K hK => ?_)
    · go_simp
      go_at_call 63
      refine (Dp1.out _).mono ?_
      rintro e v1 ⟨rfl, hE⟩
      go_wp2_with fail
      refine hK.out _ _ ⟨hE.cell hS.1, hE.cell hS.2.1, hE.cell hS.2.2.1, hE.cell hS.2.2.2⟩ (fun _ => ?_)
      clear hK K
      (try simp only [Act.put, List.setIfInBounds_toArray, List.set_cons_zero, List.set_cons_succ])
      replace E := E.trans hE
      replace A := A.ext hE
      replace B := B.ext hE
      replace hS : v1.cell? ⟨w.heap.size, 0, none⟩ = some (.int .i64 l) ∧ v1.cell? ⟨w.heap.size, 1, none⟩ = some (.int .i64 h) ∧ v1.cell? ⟨w.heap.size + 1, 0, none⟩ = some (.int .i64 m) ∧ v1.cell? ⟨w.heap.size + 1, 1, none⟩ = some (.int .i64 k) := ⟨hE.cell hS.1, hE.cell hS.2.1, hE.cell hS.2.2.1, hE.cell hS.2.2.2⟩
      clear hE
      refine wpAnyE_three (i := 3) (j := 4) (k := 5) (o := ?_) (p := ?_) (q := ?_) (by (simp only [List.getElem?_toArray, List.getElem?_cons_succ, List.getElem?_cons_zero]; exact rfl)) (by (simp only [List.getElem?_toArray, List.getElem?_cons_succ, List.getElem?_cons_zero]; exact rfl)) (by (simp only [List.getElem?_toArray, List.getElem?_cons_succ, List.getElem?_cons_zero]; exact rfl)) (by kernel_rfl) (fun K hK => ?_) (fun K hK => ?_) (fun K hK => ?_)
      · go_simp
        go_at_call 63
        refine (Dp2.out _).mono ?_
        rintro e v2 ⟨rfl, hE⟩
        go_wp2_with fail
        refine hK.out _ _ ⟨hE.cell hS.1, hE.cell hS.2.1, hE.cell hS.2.2.1, hE.cell hS.2.2.2⟩ (fun _ => ?_)
        clear hK K
        (try simp only [Act.put, List.setIfInBounds_toArray, List.set_cons_zero, List.set_cons_succ])
        replace E := E.trans hE
        replace A := A.ext hE
        replace B := B.ext hE
        replace hS : v2.cell? ⟨w.heap.size, 0, none⟩ = some (.int .i64 l) ∧ v2.cell? ⟨w.heap.size, 1, none⟩ = some (.int .i64 h) ∧ v2.cell? ⟨w.heap.size + 1, 0, none⟩ = some (.int .i64 m) ∧ v2.cell? ⟨w.heap.size + 1, 1, none⟩ = some (.int .i64 k) := ⟨hE.cell hS.1, hE.cell hS.2.1, hE.cell hS.2.2.1, hE.cell hS.2.2.2⟩
        clear hE
        refine wpAnyE_two (i := 4) (j := 5) (o := ?_) (p := ?_) (by (simp only [List.getElem?_toArray, List.getElem?_cons_succ, List.getElem?_cons_zero]; exact rfl)) (by (simp only [List.getElem?_toArray, List.getElem?_cons_succ, List.getElem?_cons_zero]; exact rfl)) (by kernel_rfl) (fun K hK => ?_) (fun K hK => ?_)
        · have EB : Ext v2 (v2.alloc (.cells #[.string ⟨#[]⟩, .string ⟨#[]⟩] 24)) := extA
          have X := encAt_new v2 v2.heap.size rfl [] [] 24
          have hbnx := cell_lt B.c0
          dsimp only at hbnx
          go_simp
          refine hK.out _ _ ⟨EB.cell hS.1, EB.cell hS.2.1, EB.cell hS.2.2.1, EB.cell hS.2.2.2⟩ (fun _ => ?_)
          clear hK K
          (try simp only [Act.put, List.setIfInBounds_toArray, List.set_cons_zero, List.set_cons_succ])
          replace E := E.trans EB
          replace A := A.ext EB
          replace B := B.ext EB
          replace hS : (v2.alloc (.cells #[.string ⟨#[]⟩, .string ⟨#[]⟩] 24)).cell? ⟨w.heap.size, 0, none⟩ = some (.int .i64 l) ∧ (v2.alloc (.cells #[.string ⟨#[]⟩, .string ⟨#[]⟩] 24)).cell? ⟨w.heap.size, 1, none⟩ = some (.int .i64 h) ∧ (v2.alloc (.cells #[.string ⟨#[]⟩, .string ⟨#[]⟩] 24)).cell? ⟨w.heap.size + 1, 0, none⟩ = some (.int .i64 m) ∧ (v2.alloc (.cells #[.string ⟨#[]⟩, .string ⟨#[]⟩] 24)).cell? ⟨w.heap.size + 1, 1, none⟩ = some (.int .i64 k) := ⟨EB.cell hS.1, EB.cell hS.2.1, EB.cell hS.2.2.1, EB.cell hS.2.2.2⟩
          clear EB
          obtain ⟨nx, hnx⟩ : ∃ n, n = v2.heap.size := ⟨_, rfl⟩
          rw [← hnx] at X hbnx ⊢
          generalize (v2.alloc (.cells #[.string ⟨#[]⟩, .string ⟨#[]⟩] 24)) = v3 at A B E X hS ⊢
          clear hnx
          have EB : Ext v3 (v3.alloc (.cells #[.string ⟨#[]⟩, .string ⟨#[]⟩] 24)) := extA
          have Y := encAt_new v3 v3.heap.size rfl [] [] 24
          have hbny := cell_lt B.c0
          dsimp only at hbny
          have hne := cell_lt X.c0
          dsimp only at hne
          (refine wpAnyE_one (i := 5) (o := ?_) ?_ (by kernel_rfl) (fun K hK => ?_); rotate_left; (focus ((simp only [List.getElem?_toArray, List.getElem?_cons_succ, List.getElem?_cons_zero]; exact rfl))); go_simp; refine hK.out _ _ ?_ (fun hHeld => ?_); rotate_left; clear hK K; (try simp only [Act.put, List.setIfInBounds_toArray, List.set_cons_zero, List.set_cons_succ]))
          rotate_left
          · exact ⟨EB.cell hS.1, EB.cell hS.2.1, EB.cell hS.2.2.1, EB.cell hS.2.2.2⟩
          clear hHeld
          replace E := E.trans EB
          replace A := A.ext EB
          replace B := B.ext EB
          replace X := X.ext EB
          replace hS : (v3.alloc (.cells #[.string ⟨#[]⟩, .string ⟨#[]⟩] 24)).cell? ⟨w.heap.size, 0, none⟩ = some (.int .i64 l) ∧ (v3.alloc (.cells #[.string ⟨#[]⟩, .string ⟨#[]⟩] 24)).cell? ⟨w.heap.size, 1, none⟩ = some (.int .i64 h) ∧ (v3.alloc (.cells #[.string ⟨#[]⟩, .string ⟨#[]⟩] 24)).cell? ⟨w.heap.size + 1, 0, none⟩ = some (.int .i64 m) ∧ (v3.alloc (.cells #[.string ⟨#[]⟩, .string ⟨#[]⟩] 24)).cell? ⟨w.heap.size + 1, 1, none⟩ = some (.int .i64 k) := ⟨EB.cell hS.1, EB.cell hS.2.1, EB.cell hS.2.2.1, EB.cell hS.2.2.2⟩
          clear EB
          obtain ⟨ny, hny⟩ : ∃ n, n = v3.heap.size := ⟨_, rfl⟩
          rw [← hny] at Y hbny hne ⊢
          generalize (v3.alloc (.cells #[.string ⟨#[]⟩, .string ⟨#[]⟩] 24)) = v4 at A B E X Y hS ⊢
          clear hny
          have X3 := X
          obtain ⟨n0, n1, n2, n3⟩ := X3
          have X2 := (X.set0 tl).set1 th
          have Y2 := Y.two (c := nx) (o1 := 0) (v := txt tl) (o2 := 1) (u := txt th) (by omega)
          have A2 := A.two (c := nx) (o1 := 0) (v := txt tl) (o2 := 1) (u := txt th) (by omega)
          have B2 := B.two (c := nx) (o1 := 0) (v := txt tl) (o2 := 1) (u := txt th) (by omega)
          have E2 := (E.set (b := nx) (o := 0) (by omega) (txt tl)).set (b := nx) (o := 1) (by omega) (txt th)
          clear X Y A B E hS
          have hS : ((v4.setCell ⟨nx, 0, none⟩ (txt tl)).setCell ⟨nx, 1, none⟩ (txt th)).cell? ⟨w.heap.size, 0, none⟩ = some (.int .i64 l) ∧ ((v4.setCell ⟨nx, 0, none⟩ (txt tl)).setCell ⟨nx, 1, none⟩ (txt th)).cell? ⟨w.heap.size, 1, none⟩ = some (.int .i64 h) ∧ ((v4.setCell ⟨nx, 0, none⟩ (txt tl)).setCell ⟨nx, 1, none⟩ (txt th)).cell? ⟨w.heap.size + 1, 0, none⟩ = some (.int .i64 m) ∧ ((v4.setCell ⟨nx, 0, none⟩ (txt tl)).setCell ⟨nx, 1, none⟩ (txt th)).cell? ⟨w.heap.size + 1, 1, none⟩ = some (.int .i64 k) := ⟨A2.c0, A2.c1, B2.c0, B2.c1⟩
          (refine wpAnyE_one (i := 6) (o := ?_) ?_ (by kernel_rfl) (fun K hK => ?_); rotate_left; (focus ((simp only [List.getElem?_toArray, List.getElem?_cons_succ, List.getElem?_cons_zero]; exact rfl))); go_simp; refine hK.out _ _ ?_ (fun hHeld => ?_); rotate_left; clear hK K; (try simp only [Act.put, List.setIfInBounds_toArray, List.set_cons_zero, List.set_cons_succ]))
          rotate_left
          · exact hS
          clear hHeld n0 n1 n2 n3
          have X := X2
          have Y := Y2
          have A := A2
          have B := B2
          have E := E2
          clear X2 Y2 A2 B2 E2
          generalize ((v4.setCell ⟨nx, 0, none⟩ (txt tl)).setCell ⟨nx, 1, none⟩ (txt th)) = v5 at A B E X Y hS ⊢
          have X3 := Y
          obtain ⟨n0, n1, n2, n3⟩ := X3
          have Y2 := (Y.set0 tm).set1 tk
          have X2 := X.two (c := ny) (o1 := 0) (v := txt tm) (o2 := 1) (u := txt tk) (by omega)
          have A2 := A.two (c := ny) (o1 := 0) (v := txt tm) (o2 := 1) (u := txt tk) (by omega)
          have B2 := B.two (c := ny) (o1 := 0) (v := txt tm) (o2 := 1) (u := txt tk) (by omega)
          have E2 := (E.set (b := ny) (o := 0) (by omega) (txt tm)).set (b := ny) (o := 1) (by omega) (txt tk)
          clear X Y A B E hS
          have hS : ((v5.setCell ⟨ny, 0, none⟩ (txt tm)).setCell ⟨ny, 1, none⟩ (txt tk)).cell? ⟨w.heap.size, 0, none⟩ = some (.int .i64 l) ∧ ((v5.setCell ⟨ny, 0, none⟩ (txt tm)).setCell ⟨ny, 1, none⟩ (txt tk)).cell? ⟨w.heap.size, 1, none⟩ = some (.int .i64 h) ∧ ((v5.setCell ⟨ny, 0, none⟩ (txt tm)).setCell ⟨ny, 1, none⟩ (txt tk)).cell? ⟨w.heap.size + 1, 0, none⟩ = some (.int .i64 m) ∧ ((v5.setCell ⟨ny, 0, none⟩ (txt tm)).setCell ⟨ny, 1, none⟩ (txt tk)).cell? ⟨w.heap.size + 1, 1, none⟩ = some (.int .i64 k) := ⟨A2.c0, A2.c1, B2.c0, B2.c1⟩
          (refine wpAnyE_one (i := 7) (o := ?_) ?_ (by kernel_rfl) (fun K hK => ?_); rotate_left; (focus ((simp only [List.getElem?_toArray, List.getElem?_cons_succ, List.getElem?_cons_zero]; exact rfl))); go_simp; refine hK.out _ _ ?_ (fun hHeld => ?_); rotate_left; clear hK K; (try simp only [Act.put, List.setIfInBounds_toArray, List.set_cons_zero, List.set_cons_succ]))
          rotate_left
          · exact hS
          clear hHeld n0 n1 n2 n3
          have X := X2
          have Y := Y2
          have A := A2
          have B := B2
          have E := E2
          clear X2 Y2 A2 B2 E2
          generalize ((v5.setCell ⟨ny, 0, none⟩ (txt tm)).setCell ⟨ny, 1, none⟩ (txt tk)) = v6 at A B E X Y hS ⊢
          refine wpAnyE_done (by kernel_rfl) ?_ _
          go_wp2_with fail
          go_meet
          exact ⟨nx, ny, rfl, rfl, X, Y, A, B, E⟩
        · have EB : Ext v2 (v2.alloc (.cells #[.string ⟨#[]⟩, .string ⟨#[]⟩] 24)) := extA
          have Y := encAt_new v2 v2.heap.size rfl [] [] 24
          have hbny := cell_lt B.c0
          dsimp only at hbny
          go_simp
          refine hK.out _ _ ⟨EB.cell hS.1, EB.cell hS.2.1, EB.cell hS.2.2.1, EB.cell hS.2.2.2⟩ (fun _ => ?_)
          clear hK K
          (try simp only [Act.put, List.setIfInBounds_toArray, List.set_cons_zero, List.set_cons_succ])
          replace E := E.trans EB
          replace A := A.ext EB
          replace B := B.ext EB
          replace hS : (v2.alloc (.cells #[.string ⟨#[]⟩, .string ⟨#[]⟩] 24)).cell? ⟨w.heap.size, 0, none⟩ = some (.int .i64 l) ∧ (v2.alloc (.cells #[.string ⟨#[]⟩, .string ⟨#[]⟩] 24)).cell? ⟨w.heap.size, 1, none⟩ = some (.int .i64 h) ∧ (v2.alloc (.cells #[.string ⟨#[]⟩, .string ⟨#[]⟩] 24)).cell? ⟨w.heap.size + 1, 0, none⟩ = some (.int .i64 m) ∧ (v2.alloc (.cells #[.string ⟨#[]⟩, .string ⟨#[]⟩] 24)).cell? ⟨w.heap.size + 1, 1, none⟩ = some (.int .i64 k) := ⟨EB.cell hS.1, EB.cell hS.2.1, EB.cell hS.2.2.1, EB.cell hS.2.2.2⟩
          clear EB
          obtain ⟨ny, hny⟩ : ∃ n, n = v2.heap.size := ⟨_, rfl⟩
          rw [← hny] at Y hbny ⊢
          generalize (v2.alloc (.cells #[.string ⟨#[]⟩, .string ⟨#[]⟩] 24)) = v3 at A B E Y hS ⊢
          clear hny
          have EB : Ext v3 (v3.alloc (.cells #[.string ⟨#[]⟩, .string ⟨#[]⟩] 24)) := extA
          have X := encAt_new v3 v3.heap.size rfl [] [] 24
          have hbnx := cell_lt B.c0
          dsimp only at hbnx
          have hne := cell_lt Y.c0
          dsimp only at hne
          (refine wpAnyE_one (i := 4) (o := ?_) ?_ (by kernel_rfl) (fun K hK => ?_); rotate_left; (focus ((simp only [List.getElem?_toArray, List.getElem?_cons_succ, List.getElem?_cons_zero]; exact rfl))); go_simp; refine hK.out _ _ ?_ (fun hHeld => ?_); rotate_left; clear hK K; (try simp only [Act.put, List.setIfInBounds_toArray, List.set_cons_zero, List.set_cons_succ]))
          rotate_left
          · exact ⟨EB.cell hS.1, EB.cell hS.2.1, EB.cell hS.2.2.1, EB.cell hS.2.2.2⟩
          clear hHeld
          replace E := E.trans EB
          replace A := A.ext EB
          replace B := B.ext EB
          replace Y := Y.ext EB
          replace hS : (v3.alloc (.cells #[.string ⟨#[]⟩, .string ⟨#[]⟩] 24)).cell? ⟨w.heap.size, 0, none⟩ = some (.int .i64 l) ∧ (v3.alloc (.cells #[.string ⟨#[]⟩, .string ⟨#[]⟩] 24)).cell? ⟨w.heap.size, 1, none⟩ = some (.int .i64 h) ∧ (v3.alloc (.cells #[.string ⟨#[]⟩, .string ⟨#[]⟩] 24)).cell? ⟨w.heap.size + 1, 0, none⟩ = some (.int .i64 m) ∧ (v3.alloc (.cells #[.string ⟨#[]⟩, .string ⟨#[]⟩] 24)).cell? ⟨w.heap.size + 1, 1, none⟩ = some (.int .i64 k) := ⟨EB.cell hS.1, EB.cell hS.2.1, EB.cell hS.2.2.1, EB.cell hS.2.2.2⟩
          clear EB
          obtain ⟨nx, hnx⟩ : ∃ n, n = v3.heap.size := ⟨_, rfl⟩
          rw [← hnx] at X hbnx hne ⊢
          generalize (v3.alloc (.cells #[.string ⟨#[]⟩, .string ⟨#[]⟩] 24)) = v4 at A B E X Y hS ⊢
          clear hnx
          have X3 := X
          obtain ⟨n0, n1, n2, n3⟩ := X3
          have X2 := (X.set0 tl).set1 th
          have Y2 := Y.two (c := nx) (o1 := 0) (v := txt tl) (o2 := 1) (u := txt th) (by omega)
          have A2 := A.two (c := nx) (o1 := 0) (v := txt tl) (o2 := 1) (u := txt th) (by omega)
          have B2 := B.two (c := nx) (o1 := 0) (v := txt tl) (o2 := 1) (u := txt th) (by omega)
          have E2 := (E.set (b := nx) (o := 0) (by omega) (txt tl)).set (b := nx) (o := 1) (by omega) (txt th)
          clear X Y A B E hS
          have hS : ((v4.setCell ⟨nx, 0, none⟩ (txt tl)).setCell ⟨nx, 1, none⟩ (txt th)).cell? ⟨w.heap.size, 0, none⟩ = some (.int .i64 l) ∧ ((v4.setCell ⟨nx, 0, none⟩ (txt tl)).setCell ⟨nx, 1, none⟩ (txt th)).cell? ⟨w.heap.size, 1, none⟩ = some (.int .i64 h) ∧ ((v4.setCell ⟨nx, 0, none⟩ (txt tl)).setCell ⟨nx, 1, none⟩ (txt th)).cell? ⟨w.heap.size + 1, 0, none⟩ = some (.int .i64 m) ∧ ((v4.setCell ⟨nx, 0, none⟩ (txt tl)).setCell ⟨nx, 1, none⟩ (txt th)).cell? ⟨w.heap.size + 1, 1, none⟩ = some (.int .i64 k) := ⟨A2.c0, A2.c1, B2.c0, B2.c1⟩
          (refine wpAnyE_one (i := 6) (o := ?_) ?_ (by kernel_rfl) (fun K hK => ?_); rotate_left; (focus ((simp only [List.getElem?_toArray, List.getElem?_cons_succ, List.getElem?_cons_zero]; exact rfl))); go_simp; refine hK.out _ _ ?_ (fun hHeld => ?_); rotate_left; clear hK K; (try simp only [Act.put, List.setIfInBounds_toArray, List.set_cons_zero, List.set_cons_succ]))
          rotate_left
          · exact hS
          clear hHeld n0 n1 n2 n3
          have X := X2
          have Y := Y2
          have A := A2
          have B := B2
          have E := E2
          clear X2 Y2 A2 B2 E2
          generalize ((v4.setCell ⟨nx, 0, none⟩ (txt tl)).setCell ⟨nx, 1, none⟩ (txt th)) = v5 at A B E X Y hS ⊢
          have X3 := Y
          obtain ⟨n0, n1, n2, n3⟩ := X3
          have Y2 := (Y.set0 tm).set1 tk
          have X2 := X.two (c := ny) (o1 := 0) (v := txt tm) (o2 := 1) (u := txt tk) (by omega)
          have A2 := A.two (c := ny) (o1 := 0) (v := txt tm) (o2 := 1) (u := txt tk) (by omega)
          have B2 := B.two (c := ny) (o1 := 0) (v := txt tm) (o2 := 1) (u := txt tk) (by omega)
          have E2 := (E.set (b := ny) (o := 0) (by omega) (txt tm)).set (b := ny) (o := 1) (by omega) (txt tk)
          clear X Y A B E hS
          have hS : ((v5.setCell ⟨ny, 0, none⟩ (txt tm)).setCell ⟨ny, 1, none⟩ (txt tk)).cell? ⟨w.heap.size, 0, none⟩ = some (.int .i64 l) ∧ ((v5.setCell ⟨ny, 0, none⟩ (txt tm)).setCell ⟨ny, 1, none⟩ (txt tk)).cell? ⟨w.heap.size, 1, none⟩ = some (.int .i64 h) ∧ ((v5.setCell ⟨ny, 0, none⟩ (txt tm)).setCell ⟨ny, 1, none⟩ (txt tk)).cell? ⟨w.heap.size + 1, 0, none⟩ = some (.int .i64 m) ∧ ((v5.setCell ⟨ny, 0, none⟩ (txt tm)).setCell ⟨ny, 1, none⟩ (txt tk)).cell? ⟨w.heap.size + 1, 1, none⟩ = some (.int .i64 k) := ⟨A2.c0, A2.c1, B2.c0, B2.c1⟩
          (refine wpAnyE_one (i := 7) (o := ?_) ?_ (by kernel_rfl) (fun K hK => ?_); rotate_left; (focus ((simp only [List.getElem?_toArray, List.getElem?_cons_succ, List.getElem?_cons_zero]; exact rfl))); go_simp; refine hK.out _ _ ?_ (fun hHeld => ?_); rotate_left; clear hK K; (try simp only [Act.put, List.setIfInBounds_toArray, List.set_cons_zero, List.set_cons_succ]))
          rotate_left
          · exact hS
          clear hHeld n0 n1 n2 n3
          have X := X2
          have Y := Y2
          have A := A2
          have B := B2
          have E := E2
          clear X2 Y2 A2 B2 E2
          generalize ((v5.setCell ⟨ny, 0, none⟩ (txt tm)).setCell ⟨ny, 1, none⟩ (txt tk)) = v6 at A B E X Y hS ⊢
          refine wpAnyE_done (by kernel_rfl) ?_ _
          go_wp2_with fail
          go_meet
          exact ⟨nx, ny, rfl, rfl, X, Y, A, B, E⟩
      · have EB : Ext v1 (v1.alloc (.cells #[.string ⟨#[]⟩, .string ⟨#[]⟩] 24)) := extA
        have X := encAt_new v1 v1.heap.size rfl [] [] 24
        have hbnx := cell_lt B.c0
        dsimp only at hbnx
        go_simp
        refine hK.out _ _ ⟨EB.cell hS.1, EB.cell hS.2.1, EB.cell hS.2.2.1, EB.cell hS.2.2.2⟩ (fun _ => ?_)
        clear hK K
        (try simp only [Act.put, List.setIfInBounds_toArray, List.set_cons_zero, List.set_cons_succ])
        replace E := E.trans EB
        replace A := A.ext EB
        replace B := B.ext EB
        replace hS : (v1.alloc (.cells #[.string ⟨#[]⟩, .string ⟨#[]⟩] 24)).cell? ⟨w.heap.size, 0, none⟩ = some (.int .i64 l) ∧ (v1.alloc (.cells #[.string ⟨#[]⟩, .string ⟨#[]⟩] 24)).cell? ⟨w.heap.size, 1, none⟩ = some (.int .i64 h) ∧ (v1.alloc (.cells #[.string ⟨#[]⟩, .string ⟨#[]⟩] 24)).cell? ⟨w.heap.size + 1, 0, none⟩ = some (.int .i64 m) ∧ (v1.alloc (.cells #[.string ⟨#[]⟩, .string ⟨#[]⟩] 24)).cell? ⟨w.heap.size + 1, 1, none⟩ = some (.int .i64 k) := ⟨EB.cell hS.1, EB.cell hS.2.1, EB.cell hS.2.2.1, EB.cell hS.2.2.2⟩
        clear EB
        obtain ⟨nx, hnx⟩ : ∃ n, n = v1.heap.size := ⟨_, rfl⟩
        rw [← hnx] at X hbnx ⊢
        generalize (v1.alloc (.cells #[.string ⟨#[]⟩, .string ⟨#[]⟩] 24)) = v2 at A B E X hS ⊢
        clear hnx
        refine wpAnyE_two (i := 3) (j := 5) (o := ?_) (p := ?_) (by (simp only [List.getElem?_toArray, List.getElem?_cons_succ, List.getElem?_cons_zero]; exact rfl)) (by (simp only [List.getElem?_toArray, List.getElem?_cons_succ, List.getElem?_cons_zero]; exact rfl)) (by kernel_rfl) (fun K hK => ?_) (fun K hK => ?_)
        · go_simp
          go_at_call 63
          refine (Dp2.out _).mono ?_
          rintro e v3 ⟨rfl, hE⟩
          go_wp2_with fail
          refine hK.out _ _ ⟨hE.cell hS.1, hE.cell hS.2.1, hE.cell hS.2.2.1, hE.cell hS.2.2.2⟩ (fun _ => ?_)
          clear hK K
          (try simp only [Act.put, List.setIfInBounds_toArray, List.set_cons_zero, List.set_cons_succ])
          replace E := E.trans hE
          replace A := A.ext hE
          replace B := B.ext hE
          replace X := X.ext hE
          replace hS : v3.cell? ⟨w.heap.size, 0, none⟩ = some (.int .i64 l) ∧ v3.cell? ⟨w.heap.size, 1, none⟩ = some (.int .i64 h) ∧ v3.cell? ⟨w.heap.size + 1, 0, none⟩ = some (.int .i64 m) ∧ v3.cell? ⟨w.heap.size + 1, 1, none⟩ = some (.int .i64 k) := ⟨hE.cell hS.1, hE.cell hS.2.1, hE.cell hS.2.2.1, hE.cell hS.2.2.2⟩
          clear hE
          have EB : Ext v3 (v3.alloc (.cells #[.string ⟨#[]⟩, .string ⟨#[]⟩] 24)) := extA
          have Y := encAt_new v3 v3.heap.size rfl [] [] 24
          have hbny := cell_lt B.c0
          dsimp only at hbny
          have hne := cell_lt X.c0
          dsimp only at hne
          (refine wpAnyE_one (i := 5) (o := ?_) ?_ (by kernel_rfl) (fun K hK => ?_); rotate_left; (focus ((simp only [List.getElem?_toArray, List.getElem?_cons_succ, List.getElem?_cons_zero]; exact rfl))); go_simp; refine hK.out _ _ ?_ (fun hHeld => ?_); rotate_left; clear hK K; (try simp only [Act.put, List.setIfInBounds_toArray, List.set_cons_zero, List.set_cons_succ]))
          rotate_left
          · exact ⟨EB.cell hS.1, EB.cell hS.2.1, EB.cell hS.2.2.1, EB.cell hS.2.2.2⟩
          clear hHeld
          replace E := E.trans EB
          replace A := A.ext EB
          replace B := B.ext EB
          replace X := X.ext EB
          replace hS : (v3.alloc (.cells #[.string ⟨#[]⟩, .string ⟨#[]⟩] 24)).cell? ⟨w.heap.size, 0, none⟩ = some (.int .i64 l) ∧ (v3.alloc (.cells #[.string ⟨#[]⟩, .string ⟨#[]⟩] 24)).cell? ⟨w.heap.size, 1, none⟩ = some (.int .i64 h) ∧ (v3.alloc (.cells #[.string ⟨#[]⟩, .string ⟨#[]⟩] 24)).cell? ⟨w.heap.size + 1, 0, none⟩ = some (.int .i64 m) ∧ (v3.alloc (.cells #[.string ⟨#[]⟩, .string ⟨#[]⟩] 24)).cell? ⟨w.heap.size + 1, 1, none⟩ = some (.int .i64 k) := ⟨EB.cell hS.1, EB.cell hS.2.1, EB.cell hS.2.2.1, EB.cell hS.2.2.2⟩
          clear EB
          obtain ⟨ny, hny⟩ : ∃ n, n = v3.heap.size := ⟨_, rfl⟩
          rw [← hny] at Y hbny hne ⊢
          generalize (v3.alloc (.cells #[.string ⟨#[]⟩, .string ⟨#[]⟩] 24)) = v4 at A B E X Y hS ⊢
          clear hny
          have X3 := X
          obtain ⟨n0, n1, n2, n3⟩ := X3
          have X2 := (X.set0 tl).set1 th
          have Y2 := Y.two (c := nx) (o1 := 0) (v := txt tl) (o2 := 1) (u := txt th) (by omega)
          have A2 := A.two (c := nx) (o1 := 0) (v := txt tl) (o2 := 1) (u := txt th) (by omega)
          have B2 := B.two (c := nx) (o1 := 0) (v := txt tl) (o2 := 1) (u := txt th) (by omega)
          have E2 := (E.set (b := nx) (o := 0) (by omega) (txt tl)).set (b := nx) (o := 1) (by omega) (txt th)
          clear X Y A B E hS
          have hS : ((v4.setCell ⟨nx, 0, none⟩ (txt tl)).setCell ⟨nx, 1, none⟩ (txt th)).cell? ⟨w.heap.size, 0, none⟩ = some (.int .i64 l) ∧ ((v4.setCell ⟨nx, 0, none⟩ (txt tl)).setCell ⟨nx, 1, none⟩ (txt th)).cell? ⟨w.heap.size, 1, none⟩ = some (.int .i64 h) ∧ ((v4.setCell ⟨nx, 0, none⟩ (txt tl)).setCell ⟨nx, 1, none⟩ (txt th)).cell? ⟨w.heap.size + 1, 0, none⟩ = some (.int .i64 m) ∧ ((v4.setCell ⟨nx, 0, none⟩ (txt tl)).setCell ⟨nx, 1, none⟩ (txt th)).cell? ⟨w.heap.size + 1, 1, none⟩ = some (.int .i64 k) := ⟨A2.c0, A2.c1, B2.c0, B2.c1⟩
          (refine wpAnyE_one (i := 6) (o := ?_) ?_ (by kernel_rfl) (fun K hK => ?_); rotate_left; (focus ((simp only [List.getElem?_toArray, List.getElem?_cons_succ, List.getElem?_cons_zero]; exact rfl))); go_simp; refine hK.out _ _ ?_ (fun hHeld => ?_); rotate_left; clear hK K; (try simp only [Act.put, List.setIfInBounds_toArray, List.set_cons_zero, List.set_cons_succ]))
          rotate_left
          · exact hS
          clear hHeld n0 n1 n2 n3
          have X := X2
          have Y := Y2
          have A := A2
          have B := B2
          have E := E2
          clear X2 Y2 A2 B2 E2
          generalize ((v4.setCell ⟨nx, 0, none⟩ (txt tl)).setCell ⟨nx, 1, none⟩ (txt th)) = v5 at A B E X Y hS ⊢
          have X3 := Y
          obtain ⟨n0, n1, n2, n3⟩ := X3
          have Y2 := (Y.set0 tm).set1 tk
          have X2 := X.two (c := ny) (o1 := 0) (v := txt tm) (o2 := 1) (u := txt tk) (by omega)
          have A2 := A.two (c := ny) (o1 := 0) (v := txt tm) (o2 := 1) (u := txt tk) (by omega)
          have B2 := B.two (c := ny) (o1 := 0) (v := txt tm) (o2 := 1) (u := txt tk) (by omega)
          have E2 := (E.set (b := ny) (o := 0) (by omega) (txt tm)).set (b := ny) (o := 1) (by omega) (txt tk)
          clear X Y A B E hS
          have hS : ((v5.setCell ⟨ny, 0, none⟩ (txt tm)).setCell ⟨ny, 1, none⟩ (txt tk)).cell? ⟨w.heap.size, 0, none⟩ = some (.int .i64 l) ∧ ((v5.setCell ⟨ny, 0, none⟩ (txt tm)).setCell ⟨ny, 1, none⟩ (txt tk)).cell? ⟨w.heap.size, 1, none⟩ = some (.int .i64 h) ∧ ((v5.setCell ⟨ny, 0, none⟩ (txt tm)).setCell ⟨ny, 1, none⟩ (txt tk)).cell? ⟨w.heap.size + 1, 0, none⟩ = some (.int .i64 m) ∧ ((v5.setCell ⟨ny, 0, none⟩ (txt tm)).setCell ⟨ny, 1, none⟩ (txt tk)).cell? ⟨w.heap.size + 1, 1, none⟩ = some (.int .i64 k) := ⟨A2.c0, A2.c1, B2.c0, B2.c1⟩
          (refine wpAnyE_one (i := 7) (o := ?_) ?_ (by kernel_rfl) (fun K hK => ?_); rotate_left; (focus ((simp only [List.getElem?_toArray, List.getElem?_cons_succ, List.getElem?_cons_zero]; exact rfl))); go_simp; refine hK.out _ _ ?_ (fun hHeld => ?_); rotate_left; clear hK K; (try simp only [Act.put, List.setIfInBounds_toArray, List.set_cons_zero, List.set_cons_succ]))
          rotate_left
          · exact hS
          clear hHeld n0 n1 n2 n3
          have X := X2
          have Y := Y2
          have A := A2
          have B := B2
          have E := E2
          clear X2 Y2 A2 B2 E2
          generalize ((v5.setCell ⟨ny, 0, none⟩ (txt tm)).setCell ⟨ny, 1, none⟩ (txt tk)) = v6 at A B E X Y hS ⊢
          refine wpAnyE_done (by kernel_rfl) ?_ _
          go_wp2_with fail
          go_meet
          exact ⟨nx, ny, rfl, rfl, X, Y, A, B, E⟩
        · have EB : Ext v2 (v2.alloc (.cells #[.string ⟨#[]⟩, .string ⟨#[]⟩] 24)) := extA
          have Y := encAt_new v2 v2.heap.size rfl [] [] 24
          have hbny := cell_lt B.c0
          dsimp only at hbny
          have hne := cell_lt X.c0
          dsimp only at hne
          go_simp
          refine hK.out _ _ ⟨EB.cell hS.1, EB.cell hS.2.1, EB.cell hS.2.2.1, EB.cell hS.2.2.2⟩ (fun _ => ?_)
          clear hK K
          (try simp only [Act.put, List.setIfInBounds_toArray, List.set_cons_zero, List.set_cons_succ])
          replace E := E.trans EB
          replace A := A.ext EB
          replace B := B.ext EB
          replace X := X.ext EB
          replace hS : (v2.alloc (.cells #[.string ⟨#[]⟩, .string ⟨#[]⟩] 24)).cell? ⟨w.heap.size, 0, none⟩ = some (.int .i64 l) ∧ (v2.alloc (.cells #[.string ⟨#[]⟩, .string ⟨#[]⟩] 24)).cell? ⟨w.heap.size, 1, none⟩ = some (.int .i64 h) ∧ (v2.alloc (.cells #[.string ⟨#[]⟩, .string ⟨#[]⟩] 24)).cell? ⟨w.heap.size + 1, 0, none⟩ = some (.int .i64 m) ∧ (v2.alloc (.cells #[.string ⟨#[]⟩, .string ⟨#[]⟩] 24)).cell? ⟨w.heap.size + 1, 1, none⟩ = some (.int .i64 k) := ⟨EB.cell hS.1, EB.cell hS.2.1, EB.cell hS.2.2.1, EB.cell hS.2.2.2⟩
          clear EB
          obtain ⟨ny, hny⟩ : ∃ n, n = v2.heap.size := ⟨_, rfl⟩
          rw [← hny] at Y hbny hne ⊢
          generalize (v2.alloc (.cells #[.string ⟨#[]⟩, .string ⟨#[]⟩] 24)) = v3 at A B E X Y hS ⊢
          clear hny
          (refine wpAnyE_one (i := 3) (o := ?_) ?_ (by kernel_rfl) (fun K hK => ?_); rotate_left; (focus ((simp only [List.getElem?_toArray, List.getElem?_cons_succ, List.getElem?_cons_zero]; exact rfl))); go_simp; go_at_call 63; refine (Dp2.out _).mono ?_; rintro e v4 ⟨rfl, hE⟩; go_wp2_with fail; refine hK.out _ _ ?_ (fun hHeld => ?_); rotate_left; clear hK K; (try simp only [Act.put, List.setIfInBounds_toArray, List.set_cons_zero, List.set_cons_succ]))
          rotate_left
          · exact ⟨hE.cell hS.1, hE.cell hS.2.1, hE.cell hS.2.2.1, hE.cell hS.2.2.2⟩
          clear hHeld
          replace E := E.trans hE
          replace A := A.ext hE
          replace B := B.ext hE
          replace X := X.ext hE
          replace Y := Y.ext hE
          replace hS : v4.cell? ⟨w.heap.size, 0, none⟩ = some (.int .i64 l) ∧ v4.cell? ⟨w.heap.size, 1, none⟩ = some (.int .i64 h) ∧ v4.cell? ⟨w.heap.size + 1, 0, none⟩ = some (.int .i64 m) ∧ v4.cell? ⟨w.heap.size + 1, 1, none⟩ = some (.int .i64 k) := ⟨hE.cell hS.1, hE.cell hS.2.1, hE.cell hS.2.2.1, hE.cell hS.2.2.2⟩
          clear hE
          have X3 := X
          obtain ⟨n0, n1, n2, n3⟩ := X3
          have X2 := (X.set0 tl).set1 th
          have Y2 := Y.two (c := nx) (o1 := 0) (v := txt tl) (o2 := 1) (u := txt th) (by omega)
          have A2 := A.two (c := nx) (o1 := 0) (v := txt tl) (o2 := 1) (u := txt th) (by omega)
          have B2 := B.two (c := nx) (o1 := 0) (v := txt tl) (o2 := 1) (u := txt th) (by omega)
          have E2 := (E.set (b := nx) (o := 0) (by omega) (txt tl)).set (b := nx) (o := 1) (by omega) (txt th)
          clear X Y A B E hS
          have hS : ((v4.setCell ⟨nx, 0, none⟩ (txt tl)).setCell ⟨nx, 1, none⟩ (txt th)).cell? ⟨w.heap.size, 0, none⟩ = some (.int .i64 l) ∧ ((v4.setCell ⟨nx, 0, none⟩ (txt tl)).setCell ⟨nx, 1, none⟩ (txt th)).cell? ⟨w.heap.size, 1, none⟩ = some (.int .i64 h) ∧ ((v4.setCell ⟨nx, 0, none⟩ (txt tl)).setCell ⟨nx, 1, none⟩ (txt th)).cell? ⟨w.heap.size + 1, 0, none⟩ = some (.int .i64 m) ∧ ((v4.setCell ⟨nx, 0, none⟩ (txt tl)).setCell ⟨nx, 1, none⟩ (txt th)).cell? ⟨w.heap.size + 1, 1, none⟩ = some (.int .i64 k) := ⟨A2.c0, A2.c1, B2.c0, B2.c1⟩
          (refine wpAnyE_one (i := 6) (o := ?_) ?_ (by kernel_rfl) (fun K hK => ?_); rotate_left; (focus ((simp only [List.getElem?_toArray, List.getElem?_cons_succ, List.getElem?_cons_zero]; exact rfl))); go_simp; refine hK.out _ _ ?_ (fun hHeld => ?_); rotate_left; clear hK K; (try simp only [Act.put, List.setIfInBounds_toArray, List.set_cons_zero, List.set_cons_succ]))
          rotate_left
          · exact hS
          clear hHeld n0 n1 n2 n3
          have X := X2
          have Y := Y2
          have A := A2
          have B := B2
          have E := E2
          clear X2 Y2 A2 B2 E2
          generalize ((v4.setCell ⟨nx, 0, none⟩ (txt tl)).setCell ⟨nx, 1, none⟩ (txt th)) = v5 at A B E X Y hS ⊢
          have X3 := Y
          obtain ⟨n0, n1, n2, n3⟩ := X3
          have Y2 := (Y.set0 tm).set1 tk
          have X2 := X.two (c := ny) (o1 := 0) (v := txt tm) (o2 := 1) (u := txt tk) (by omega)
          have A2 := A.two (c := ny) (o1 := 0) (v := txt tm) (o2 := 1) (u := txt tk) (by omega)
          have B2 := B.two (c := ny) (o1 := 0) (v := txt tm) (o2 := 1) (u := txt tk) (by omega)
          have E2 := (E.set (b := ny) (o := 0) (by omega) (txt tm)).set (b := ny) (o := 1) (by omega) (txt tk)
          clear X Y A B E hS
          have hS : ((v5.setCell ⟨ny, 0, none⟩ (txt tm)).setCell ⟨ny, 1, none⟩ (txt tk)).cell? ⟨w.heap.size, 0, none⟩ = some (.int .i64 l) ∧ ((v5.setCell ⟨ny, 0, none⟩ (txt tm)).setCell ⟨ny, 1, none⟩ (txt tk)).cell? ⟨w.heap.size, 1, none⟩ = some (.int .i64 h) ∧ ((v5.setCell ⟨ny, 0, none⟩ (txt tm)).setCell ⟨ny, 1, none⟩ (txt tk)).cell? ⟨w.heap.size + 1, 0, none⟩ = some (.int .i64 m) ∧ ((v5.setCell ⟨ny, 0, none⟩ (txt tm)).setCell ⟨ny, 1, none⟩ (txt tk)).cell? ⟨w.heap.size + 1, 1, none⟩ = some (.int .i64 k) := ⟨A2.c0, A2.c1, B2.c0, B2.c1⟩
          (refine wpAnyE_one (i := 7) (o := ?_) ?_ (by kernel_rfl) (fun K hK => ?_); rotate_left; (focus ((simp only [List.getElem?_toArray, List.getElem?_cons_succ, List.getElem?_cons_zero]; exact rfl))); go_simp; refine hK.out _ _ ?_ (fun hHeld => ?_); rotate_left; clear hK K; (try simp only [Act.put, List.setIfInBounds_toArray, List.set_cons_zero, List.set_cons_succ]))
          rotate_left
          · exact hS
          clear hHeld n0 n1 n2 n3
          have X := X2
          have Y := Y2
          have A := A2
          have B := B2
          have E := E2
          clear X2 Y2 A2 B2 E2
          generalize ((v5.setCell ⟨ny, 0, none⟩ (txt tm)).setCell ⟨ny, 1, none⟩ (txt tk)) = v6 at A B E X Y hS ⊢
          refine wpAnyE_done (by kernel_rfl) ?_ _
          go_wp2_with fail
          go_meet
          exact ⟨nx, ny, rfl, rfl, X, Y, A, B, E⟩
      · have EB : Ext v1 (v1.alloc (.cells #[.string ⟨#[]⟩, .string ⟨#[]⟩] 24)) := extA
        have Y := encAt_new v1 v1.heap.size rfl [] [] 24
        have hbny := cell_lt B.c0
        dsimp only at hbny
        go_simp
        refine hK.out _ _ ⟨EB.cell hS.1, EB.cell hS.2.1, EB.cell hS.2.2.1, EB.cell hS.2.2.2⟩ (fun _ => ?_)
        clear hK K
        (try simp only [Act.put, List.setIfInBounds_toArray, List.set_cons_zero, List.set_cons_succ])
        replace E := E.trans EB
        replace A := A.ext EB
        replace B := B.ext EB
        replace hS : (v1.alloc (.cells #[.string ⟨#[]⟩, .string ⟨#[]⟩] 24)).cell? ⟨w.heap.size, 0, none⟩ = some (.int .i64 l) ∧ (v1.alloc (.cells #[.string ⟨#[]⟩, .string ⟨#[]⟩] 24)).cell? ⟨w.heap.size, 1, none⟩ = some (.int .i64 h) ∧ (v1.alloc (.cells #[.string ⟨#[]⟩, .string ⟨#[]⟩] 24)).cell? ⟨w.heap.size + 1, 0, none⟩ = some (.int .i64 m) ∧ (v1.alloc (.cells #[.string ⟨#[]⟩, .string ⟨#[]⟩] 24)).cell? ⟨w.heap.size + 1, 1, none⟩ = some (.int .i64 k) := ⟨EB.cell hS.1, EB.cell hS.2.1, EB.cell hS.2.2.1, EB.cell hS.2.2.2⟩
        clear EB
        obtain ⟨ny, hny⟩ : ∃ n, n = v1.heap.size := ⟨_, rfl⟩
        rw [← hny] at Y hbny ⊢
        generalize (v1.alloc (.cells #[.string ⟨#[]⟩, .string ⟨#[]⟩] 24)) = v2 at A B E Y hS ⊢
        clear hny
        refine wpAnyE_two (i := 3) (j := 4) (o := ?_) (p := ?_) (by (simp only [List.getElem?_toArray, List.getElem?_cons_succ, List.getElem?_cons_zero]; exact rfl)) (by (simp only [List.getElem?_toArray, List.getElem?_cons_succ, List.getElem?_cons_zero]; exact rfl)) (by kernel_rfl) (fun K hK => ?_) (fun K hK => ?_)
        · go_simp
          go_at_call 63
          refine (Dp2.out _).mono ?_
          rintro e v3 ⟨rfl, hE⟩
          go_wp2_with fail
          refine hK.out _ _ ⟨hE.cell hS.1, hE.cell hS.2.1, hE.cell hS.2.2.1, hE.cell hS.2.2.2⟩ (fun _ => ?_)
          clear hK K
          (try simp only [Act.put, List.setIfInBounds_toArray, List.set_cons_zero, List.set_cons_succ])
          replace E := E.trans hE
          replace A := A.ext hE
          replace B := B.ext hE
          replace Y := Y.ext hE
          replace hS : v3.cell? ⟨w.heap.size, 0, none⟩ = some (.int .i64 l) ∧ v3.cell? ⟨w.heap.size, 1, none⟩ = some (.int .i64 h) ∧ v3.cell? ⟨w.heap.size + 1, 0, none⟩ = some (.int .i64 m) ∧ v3.cell? ⟨w.heap.size + 1, 1, none⟩ = some (.int .i64 k) := ⟨hE.cell hS.1, hE.cell hS.2.1, hE.cell hS.2.2.1, hE.cell hS.2.2.2⟩
          clear hE
          have EB : Ext v3 (v3.alloc (.cells #[.string ⟨#[]⟩, .string ⟨#[]⟩] 24)) := extA
          have X := encAt_new v3 v3.heap.size rfl [] [] 24
          have hbnx := cell_lt B.c0
          dsimp only at hbnx
          have hne := cell_lt Y.c0
          dsimp only at hne
          (refine wpAnyE_one (i := 4) (o := ?_) ?_ (by kernel_rfl) (fun K hK => ?_); rotate_left; (focus ((simp only [List.getElem?_toArray, List.getElem?_cons_succ, List.getElem?_cons_zero]; exact rfl))); go_simp; refine hK.out _ _ ?_ (fun hHeld => ?_); rotate_left; clear hK K; (try simp only [Act.put, List.setIfInBounds_toArray, List.set_cons_zero, List.set_cons_succ]))
          rotate_left
          · exact ⟨EB.cell hS.1, EB.cell hS.2.1, EB.cell hS.2.2.1, EB.cell hS.2.2.2⟩
          clear hHeld
          replace E := E.trans EB
          replace A := A.ext EB
          replace B := B.ext EB
          replace Y := Y.ext EB
          replace hS : (v3.alloc (.cells #[.string ⟨#[]⟩, .string ⟨#[]⟩] 24)).cell? ⟨w.heap.size, 0, none⟩ = some (.int .i64 l) ∧ (v3.alloc (.cells #[.string ⟨#[]⟩, .string ⟨#[]⟩] 24)).cell? ⟨w.heap.size, 1, none⟩ = some (.int .i64 h) ∧ (v3.alloc (.cells #[.string ⟨#[]⟩, .string ⟨#[]⟩] 24)).cell? ⟨w.heap.size + 1, 0, none⟩ = some (.int .i64 m) ∧ (v3.alloc (.cells #[.string ⟨#[]⟩, .string ⟨#[]⟩] 24)).cell? ⟨w.heap.size + 1, 1, none⟩ = some (.int .i64 k) := ⟨EB.cell hS.1, EB.cell hS.2.1, EB.cell hS.2.2.1, EB.cell hS.2.2.2⟩
          clear EB
          obtain ⟨nx, hnx⟩ : ∃ n, n = v3.heap.size := ⟨_, rfl⟩
          rw [← hnx] at X hbnx hne ⊢
          generalize (v3.alloc (.cells #[.string ⟨#[]⟩, .string ⟨#[]⟩] 24)) = v4 at A B E X Y hS ⊢
          clear hnx
          have X3 := X
          obtain ⟨n0, n1, n2, n3⟩ := X3
          have X2 := (X.set0 tl).set1 th
          have Y2 := Y.two (c := nx) (o1 := 0) (v := txt tl) (o2 := 1) (u := txt th) (by omega)
          have A2 := A.two (c := nx) (o1 := 0) (v := txt tl) (o2 := 1) (u := txt th) (by omega)
          have B2 := B.two (c := nx) (o1 := 0) (v := txt tl) (o2 := 1) (u := txt th) (by omega)
          have E2 := (E.set (b := nx) (o := 0) (by omega) (txt tl)).set (b := nx) (o := 1) (by omega) (txt th)
          clear X Y A B E hS
          have hS : ((v4.setCell ⟨nx, 0, none⟩ (txt tl)).setCell ⟨nx, 1, none⟩ (txt th)).cell? ⟨w.heap.size, 0, none⟩ = some (.int .i64 l) ∧ ((v4.setCell ⟨nx, 0, none⟩ (txt tl)).setCell ⟨nx, 1, none⟩ (txt th)).cell? ⟨w.heap.size, 1, none⟩ = some (.int .i64 h) ∧ ((v4.setCell ⟨nx, 0, none⟩ (txt tl)).setCell ⟨nx, 1, none⟩ (txt th)).cell? ⟨w.heap.size + 1, 0, none⟩ = some (.int .i64 m) ∧ ((v4.setCell ⟨nx, 0, none⟩ (txt tl)).setCell ⟨nx, 1, none⟩ (txt th)).cell? ⟨w.heap.size + 1, 1, none⟩ = some (.int .i64 k) := ⟨A2.c0, A2.c1, B2.c0, B2.c1⟩
          (refine wpAnyE_one (i := 6) (o := ?_) ?_ (by kernel_rfl) (fun K hK => ?_); rotate_left; (focus ((simp only [List.getElem?_toArray, List.getElem?_cons_succ, List.getElem?_cons_zero]; exact rfl))); go_simp; refine hK.out _ _ ?_ (fun hHeld => ?_); rotate_left; clear hK K; (try simp only [Act.put, List.setIfInBounds_toArray, List.set_cons_zero, List.set_cons_succ]))
          rotate_left
          · exact hS
          clear hHeld n0 n1 n2 n3
          have X := X2
          have Y := Y2
          have A := A2
          have B := B2
          have E := E2
          clear X2 Y2 A2 B2 E2
          generalize ((v4.setCell ⟨nx, 0, none⟩ (txt tl)).setCell ⟨nx, 1, none⟩ (txt th)) = v5 at A B E X Y hS ⊢
          have X3 := Y
          obtain ⟨n0, n1, n2, n3⟩ := X3
          have Y2 := (Y.set0 tm).set1 tk
          have X2 := X.two (c := ny) (o1 := 0) (v := txt tm) (o2 := 1) (u := txt tk) (by omega)
          have A2 := A.two (c := ny) (o1 := 0) (v := txt tm) (o2 := 1) (u := txt tk) (by omega)
          have B2 := B.two (c := ny) (o1 := 0) (v := txt tm) (o2 := 1) (u := txt tk) (by omega)
          have E2 := (E.set (b := ny) (o := 0) (by omega) (txt tm)).set (b := ny) (o := 1) (by omega) (txt tk)
          clear X Y A B E hS
          have hS : ((v5.setCell ⟨ny, 0, none⟩ (txt tm)).setCell ⟨ny, 1, none⟩ (txt tk)).cell? ⟨w.heap.size, 0, none⟩ = some (.int .i64 l) ∧ ((v5.setCell ⟨ny, 0, none⟩ (txt tm)).setCell ⟨ny, 1, none⟩ (txt tk)).cell? ⟨w.heap.size, 1, none⟩ = some (.int .i64 h) ∧ ((v5.setCell ⟨ny, 0, none⟩ (txt tm)).setCell ⟨ny, 1, none⟩ (txt tk)).cell? ⟨w.heap.size + 1, 0, none⟩ = some (.int .i64 m) ∧ ((v5.setCell ⟨ny, 0, none⟩ (txt tm)).setCell ⟨ny, 1, none⟩ (txt tk)).cell? ⟨w.heap.size + 1, 1, none⟩ = some (.int .i64 k) := ⟨A2.c0, A2.c1, B2.c0, B2.c1⟩
          (refine wpAnyE_one (i := 7) (o := ?_) ?_ (by kernel_rfl) (fun K hK => ?_); rotate_left; (focus ((simp only [List.getElem?_toArray, List.getElem?_cons_succ, List.getElem?_cons_zero]; exact rfl))); go_simp; refine hK.out _ _ ?_ (fun hHeld => ?_); rotate_left; clear hK K; (try simp only [Act.put, List.setIfInBounds_toArray, List.set_cons_zero, List.set_cons_succ]))
          rotate_left
          · exact hS
          clear hHeld n0 n1 n2 n3
          have X := X2
          have Y := Y2
          have A := A2
          have B := B2
          have E := E2
          clear X2 Y2 A2 B2 E2
          generalize ((v5.setCell ⟨ny, 0, none⟩ (txt tm)).setCell ⟨ny, 1, none⟩ (txt tk)) = v6 at A B E X Y hS ⊢
          refine wpAnyE_done (by kernel_rfl) ?_ _
          go_wp2_with fail
          go_meet
          exact ⟨nx, ny, rfl, rfl, X, Y, A, B, E⟩
        · have EB : Ext v2 (v2.alloc (.cells #[.string ⟨#[]⟩, .string ⟨#[]⟩] 24)) := extA
          have X := encAt_new v2 v2.heap.size rfl [] [] 24
          have hbnx := cell_lt B.c0
          dsimp only at hbnx
          have hne := cell_lt Y.c0
          dsimp only at hne
          go_simp
          refine hK.out _ _ ⟨EB.cell hS.1, EB.cell hS.2.1, EB.cell hS.2.2.1, EB.cell hS.2.2.2⟩ (fun _ => ?_)
          clear hK K
          (try simp only [Act.put, List.setIfInBounds_toArray, List.set_cons_zero, List.set_cons_succ])
          replace E := E.trans EB
          replace A := A.ext EB
          replace B := B.ext EB
          replace Y := Y.ext EB
          replace hS : (v2.alloc (.cells #[.string ⟨#[]⟩, .string ⟨#[]⟩] 24)).cell? ⟨w.heap.size, 0, none⟩ = some (.int .i64 l) ∧ (v2.alloc (.cells #[.string ⟨#[]⟩, .string ⟨#[]⟩] 24)).cell? ⟨w.heap.size, 1, none⟩ = some (.int .i64 h) ∧ (v2.alloc (.cells #[.string ⟨#[]⟩, .string ⟨#[]⟩] 24)).cell? ⟨w.heap.size + 1, 0, none⟩ = some (.int .i64 m) ∧ (v2.alloc (.cells #[.string ⟨#[]⟩, .string ⟨#[]⟩] 24)).cell? ⟨w.heap.size + 1, 1, none⟩ = some (.int .i64 k) := ⟨EB.cell hS.1, EB.cell hS.2.1, EB.cell hS.2.2.1, EB.cell hS.2.2.2⟩
          clear EB
          obtain ⟨nx, hnx⟩ : ∃ n, n = v2.heap.size := ⟨_, rfl⟩
          rw [← hnx] at X hbnx hne ⊢
          generalize (v2.alloc (.cells #[.string ⟨#[]⟩, .string ⟨#[]⟩] 24)) = v3 at A B E X Y hS ⊢
          clear hnx
          (refine wpAnyE_one (i := 3) (o := ?_) ?_ (by kernel_rfl) (fun K hK => ?_); rotate_left; (focus ((simp only [List.getElem?_toArray, List.getElem?_cons_succ, List.getElem?_cons_zero]; exact rfl))); go_simp; go_at_call 63; refine (Dp2.out _).mono ?_; rintro e v4 ⟨rfl, hE⟩; go_wp2_with fail; refine hK.out _ _ ?_ (fun hHeld => ?_); rotate_left; clear hK K; (try simp only [Act.put, List.setIfInBounds_toArray, List.set_cons_zero, List.set_cons_succ]))
          rotate_left
          · exact ⟨hE.cell hS.1, hE.cell hS.2.1, hE.cell hS.2.2.1, hE.cell hS.2.2.2⟩
          clear hHeld
          replace E := E.trans hE
          replace A := A.ext hE
          replace B := B.ext hE
          replace X := X.ext hE
          replace Y := Y.ext hE
          replace hS : v4.cell? ⟨w.heap.size, 0, none⟩ = some (.int .i64 l) ∧ v4.cell? ⟨w.heap.size, 1, none⟩ = some (.int .i64 h) ∧ v4.cell? ⟨w.heap.size + 1, 0, none⟩ = some (.int .i64 m) ∧ v4.cell? ⟨w.heap.size + 1, 1, none⟩ = some (.int .i64 k) := ⟨hE.cell hS.1, hE.cell hS.2.1, hE.cell hS.2.2.1, hE.cell hS.2.2.2⟩
          clear hE
          have X3 := X
          obtain ⟨n0, n1, n2, n3⟩ := X3
          have X2 := (X.set0 tl).set1 th
          have Y2 := Y.two (c := nx) (o1 := 0) (v := txt tl) (o2 := 1) (u := txt th) (by omega)
          have A2 := A.two (c := nx) (o1 := 0) (v := txt tl) (o2 := 1) (u := txt th) (by omega)
          have B2 := B.two (c := nx) (o1 := 0) (v := txt tl) (o2 := 1) (u := txt th) (by omega)
          have E2 := (E.set (b := nx) (o := 0) (by omega) (txt tl)).set (b := nx) (o := 1) (by omega) (txt th)
          clear X Y A B E hS
          have hS : ((v4.setCell ⟨nx, 0, none⟩ (txt tl)).setCell ⟨nx, 1, none⟩ (txt th)).cell? ⟨w.heap.size, 0, none⟩ = some (.int .i64 l) ∧ ((v4.setCell ⟨nx, 0, none⟩ (txt tl)).setCell ⟨nx, 1, none⟩ (txt th)).cell? ⟨w.heap.size, 1, none⟩ = some (.int .i64 h) ∧ ((v4.setCell ⟨nx, 0, none⟩ (txt tl)).setCell ⟨nx, 1, none⟩ (txt th)).cell? ⟨w.heap.size + 1, 0, none⟩ = some (.int .i64 m) ∧ ((v4.setCell ⟨nx, 0, none⟩ (txt tl)).setCell ⟨nx, 1, none⟩ (txt th)).cell? ⟨w.heap.size + 1, 1, none⟩ = some (.int .i64 k) := ⟨A2.c0, A2.c1, B2.c0, B2.c1⟩
          (refine wpAnyE_one (i := 6) (o := ?_) ?_ (by kernel_rfl) (fun K hK => ?_); rotate_left; (focus ((simp only [List.getElem?_toArray, List.getElem?_cons_succ, List.getElem?_cons_zero]; exact rfl))); go_simp; refine hK.out _ _ ?_ (fun hHeld => ?_); rotate_left; clear hK K; (try simp only [Act.put, List.setIfInBounds_toArray, List.set_cons_zero, List.set_cons_succ]))
          rotate_left
          · exact hS
          clear hHeld n0 n1 n2 n3
          have X := X2
          have Y := Y2
          have A := A2
          have B := B2
          have E := E2
          clear X2 Y2 A2 B2 E2
          generalize ((v4.setCell ⟨nx, 0, none⟩ (txt tl)).setCell ⟨nx, 1, none⟩ (txt th)) = v5 at A B E X Y hS ⊢
          have X3 := Y
          obtain ⟨n0, n1, n2, n3⟩ := X3
          have Y2 := (Y.set0 tm).set1 tk
          have X2 := X.two (c := ny) (o1 := 0) (v := txt tm) (o2 := 1) (u := txt tk) (by omega)
          have A2 := A.two (c := ny) (o1 := 0) (v := txt tm) (o2 := 1) (u := txt tk) (by omega)
          have B2 := B.two (c := ny) (o1 := 0) (v := txt tm) (o2 := 1) (u := txt tk) (by omega)
          have E2 := (E.set (b := ny) (o := 0) (by omega) (txt tm)).set (b := ny) (o := 1) (by omega) (txt tk)
          clear X Y A B E hS
          have hS : ((v5.setCell ⟨ny, 0, none⟩ (txt tm)).setCell ⟨ny, 1, none⟩ (txt tk)).cell? ⟨w.heap.size, 0, none⟩ = some (.int .i64 l) ∧ ((v5.setCell ⟨ny, 0, none⟩ (txt tm)).setCell ⟨ny, 1, none⟩ (txt tk)).cell? ⟨w.heap.size, 1, none⟩ = some (.int .i64 h) ∧ ((v5.setCell ⟨ny, 0, none⟩ (txt tm)).setCell ⟨ny, 1, none⟩ (txt tk)).cell? ⟨w.heap.size + 1, 0, none⟩ = some (.int .i64 m) ∧ ((v5.setCell ⟨ny, 0, none⟩ (txt tm)).setCell ⟨ny, 1, none⟩ (txt tk)).cell? ⟨w.heap.size + 1, 1, none⟩ = some (.int .i64 k) := ⟨A2.c0, A2.c1, B2.c0, B2.c1⟩
          (refine wpAnyE_one (i := 7) (o := ?_) ?_ (by kernel_rfl) (fun K hK => ?_); rotate_left; (focus ((simp only [List.getElem?_toArray, List.getElem?_cons_succ, List.getElem?_cons_zero]; exact rfl))); go_simp; refine hK.out _ _ ?_ (fun hHeld => ?_); rotate_left; clear hK K; (try simp only [Act.put, List.setIfInBounds_toArray, List.set_cons_zero, List.set_cons_succ]))
          rotate_left
          · exact hS
          clear hHeld n0 n1 n2 n3
          have X := X2
          have Y := Y2
          have A := A2
          have B := B2
          have E := E2
          clear X2 Y2 A2 B2 E2
          generalize ((v5.setCell ⟨ny, 0, none⟩ (txt tm)).setCell ⟨ny, 1, none⟩ (txt tk)) = v6 at A B E X Y hS ⊢
          refine wpAnyE_done (by kernel_rfl) ?_ _
          go_wp2_with fail
          go_meet
          exact ⟨nx, ny, rfl, rfl, X, Y, A, B, E⟩
    · have EB : Ext v0 (v0.alloc (.cells #[.string ⟨#[]⟩, .string ⟨#[]⟩] 24)) := extA
      have X := encAt_new v0 v0.heap.size rfl [] [] 24
      have hbnx := cell_lt B.c0
      dsimp only at hbnx
      go_simp
      refine hK.out _ _ ⟨EB.cell hS.1, EB.cell hS.2.1, EB.cell hS.2.2.1, EB.cell hS.2.2.2⟩ (fun _ => ?_)
      clear hK K
      (try simp only [Act.put, List.setIfInBounds_toArray, List.set_cons_zero, List.set_cons_succ])
      replace E := E.trans EB
      replace A := A.ext EB
      replace B := B.ext EB
      replace hS : (v0.alloc (.cells #[.string ⟨#[]⟩, .string ⟨#[]⟩] 24)).cell? ⟨w.heap.size, 0, none⟩ = some (.int .i64 l) ∧ (v0.alloc (.cells #[.string ⟨#[]⟩, .string ⟨#[]⟩] 24)).cell? ⟨w.heap.size, 1, none⟩ = some (.int .i64 h) ∧ (v0.alloc (.cells #[.string ⟨#[]⟩, .string ⟨#[]⟩] 24)).cell? ⟨w.heap.size + 1, 0, none⟩ = some (.int .i64 m) ∧ (v0.alloc (.cells #[.string ⟨#[]⟩, .string ⟨#[]⟩] 24)).cell? ⟨w.heap.size + 1, 1, none⟩ = some (.int .i64 k) := ⟨EB.cell hS.1, EB.cell hS.2.1, EB.cell hS.2.2.1, EB.cell hS.2.2.2⟩
      clear EB
      obtain ⟨nx, hnx⟩ : ∃ n, n = v0.heap.size := ⟨_, rfl⟩
      rw [← hnx] at X hbnx ⊢
      generalize (v0.alloc (.cells #[.string ⟨#[]⟩, .string ⟨#[]⟩] 24)) = v1 at A B E X hS ⊢
      clear hnx
      refine wpAnyE_two (i := 1) (j := 5) (o := ?_) (p := ?_) (by (simp only [List.getElem?_toArray, List.getElem?_cons_succ, List.getElem?_cons_zero]; exact rfl)) (by (simp only [List.getElem?_toArray, List.getElem?_cons_succ, List.getElem?_cons_zero]; exact rfl)) (by kernel_rfl) (fun K hK => ?_) (fun K hK => ?_)
      · go_simp
        go_at_call 63
        refine (Dp1.out _).mono ?_
        rintro e v2 ⟨rfl, hE⟩
        go_wp2_with fail
        refine hK.out _ _ ⟨hE.cell hS.1, hE.cell hS.2.1, hE.cell hS.2.2.1, hE.cell hS.2.2.2⟩ (fun _ => ?_)
        clear hK K
        (try simp only [Act.put, List.setIfInBounds_toArray, List.set_cons_zero, List.set_cons_succ])
        replace E := E.trans hE
        replace A := A.ext hE
        replace B := B.ext hE
        replace X := X.ext hE
        replace hS : v2.cell? ⟨w.heap.size, 0, none⟩ = some (.int .i64 l) ∧ v2.cell? ⟨w.heap.size, 1, none⟩ = some (.int .i64 h) ∧ v2.cell? ⟨w.heap.size + 1, 0, none⟩ = some (.int .i64 m) ∧ v2.cell? ⟨w.heap.size + 1, 1, none⟩ = some (.int .i64 k) := ⟨hE.cell hS.1, hE.cell hS.2.1, hE.cell hS.2.2.1, hE.cell hS.2.2.2⟩
        clear hE
        refine wpAnyE_two (i := 3) (j := 5) (o := ?_) (p := ?_) (by (simp only [List.getElem?_toArray, List.getElem?_cons_succ, List.getElem?_cons_zero]; exact rfl)) (by (simp only [List.getElem?_toArray, List.getElem?_cons_succ, List.getElem?_cons_zero]; exact rfl)) (by kernel_rfl) (fun K hK => ?_) (fun K hK => ?_)
        · go_simp
          go_at_call 63
          refine (Dp2.out _).mono ?_
          rintro e v3 ⟨rfl, hE⟩
          go_wp2_with fail
          refine hK.out _ _ ⟨hE.cell hS.1, hE.cell hS.2.1, hE.cell hS.2.2.1, hE.cell hS.2.2.2⟩ (fun _ => ?_)
          clear hK K
          (try simp only [Act.put, List.setIfInBounds_toArray, List.set_cons_zero, List.set_cons_succ])
          replace E := E.trans hE
          replace A := A.ext hE
          replace B := B.ext hE
          replace X := X.ext hE
          replace hS : v3.cell? ⟨w.heap.size, 0, none⟩ = some (.int .i64 l) ∧ v3.cell? ⟨w.heap.size, 1, none⟩ = some (.int .i64 h) ∧ v3.cell? ⟨w.heap.size + 1, 0, none⟩ = some (.int .i64 m) ∧ v3.cell? ⟨w.heap.size + 1, 1, none⟩ = some (.int .i64 k) := ⟨hE.cell hS.1, hE.cell hS.2.1, hE.cell hS.2.2.1, hE.cell hS.2.2.2⟩
          clear hE
          have EB : Ext v3 (v3.alloc (.cells #[.string ⟨#[]⟩, .string ⟨#[]⟩] 24)) := extA
          have Y := encAt_new v3 v3.heap.size rfl [] [] 24
          have hbny := cell_lt B.c0
          dsimp only at hbny
          have hne := cell_lt X.c0
          dsimp only at hne
          (refine wpAnyE_one (i := 5) (o := ?_) ?_ (by kernel_rfl) (fun K hK => ?_); rotate_left; (focus ((simp only [List.getElem?_toArray, List.getElem?_cons_succ, List.getElem?_cons_zero]; exact rfl))); go_simp; refine hK.out _ _ ?_ (fun hHeld => ?_); rotate_left; clear hK K; (try simp only [Act.put, List.setIfInBounds_toArray, List.set_cons_zero, List.set_cons_succ]))
          rotate_left
          · exact ⟨EB.cell hS.1, EB.cell hS.2.1, EB.cell hS.2.2.1, EB.cell hS.2.2.2⟩
          clear hHeld
          replace E := E.trans EB
          replace A := A.ext EB
          replace B := B.ext EB
          replace X := X.ext EB
          replace hS : (v3.alloc (.cells #[.string ⟨#[]⟩, .string ⟨#[]⟩] 24)).cell? ⟨w.heap.size, 0, none⟩ = some (.int .i64 l) ∧ (v3.alloc (.cells #[.string ⟨#[]⟩, .string ⟨#[]⟩] 24)).cell? ⟨w.heap.size, 1, none⟩ = some (.int .i64 h) ∧ (v3.alloc (.cells #[.string ⟨#[]⟩, .string ⟨#[]⟩] 24)).cell? ⟨w.heap.size + 1, 0, none⟩ = some (.int .i64 m) ∧ (v3.alloc (.cells #[.string ⟨#[]⟩, .string ⟨#[]⟩] 24)).cell? ⟨w.heap.size + 1, 1, none⟩ = some (.int .i64 k) := ⟨EB.cell hS.1, EB.cell hS.2.1, EB.cell hS.2.2.1, EB.cell hS.2.2.2⟩
          clear EB
          obtain ⟨ny, hny⟩ : ∃ n, n = v3.heap.size := ⟨_, rfl⟩
          rw [← hny] at Y hbny hne ⊢
          generalize (v3.alloc (.cells #[.string ⟨#[]⟩, .string ⟨#[]⟩] 24)) = v4 at A B E X Y hS ⊢
          clear hny
          have X3 := X
          obtain ⟨n0, n1, n2, n3⟩ := X3
          have X2 := (X.set0 tl).set1 th
          have Y2 := Y.two (c := nx) (o1 := 0) (v := txt tl) (o2 := 1) (u := txt th) (by omega)
          have A2 := A.two (c := nx) (o1 := 0) (v := txt tl) (o2 := 1) (u := txt th) (by omega)
          have B2 := B.two (c := nx) (o1 := 0) (v := txt tl) (o2 := 1) (u := txt th) (by omega)
          have E2 := (E.set (b := nx) (o := 0) (by omega) (txt tl)).set (b := nx) (o := 1) (by omega) (txt th)
          clear X Y A B E hS
          have hS : ((v4.setCell ⟨nx, 0, none⟩ (txt tl)).setCell ⟨nx, 1, none⟩ (txt th)).cell? ⟨w.heap.size, 0, none⟩ = some (.int .i64 l) ∧ ((v4.setCell ⟨nx, 0, none⟩ (txt tl)).setCell ⟨nx, 1, none⟩ (txt th)).cell? ⟨w.heap.size, 1, none⟩ = some (.int .i64 h) ∧ ((v4.setCell ⟨nx, 0, none⟩ (txt tl)).setCell ⟨nx, 1, none⟩ (txt th)).cell? ⟨w.heap.size + 1, 0, none⟩ = some (.int .i64 m) ∧ ((v4.setCell ⟨nx, 0, none⟩ (txt tl)).setCell ⟨nx, 1, none⟩ (txt th)).cell? ⟨w.heap.size + 1, 1, none⟩ = some (.int .i64 k) := ⟨A2.c0, A2.c1, B2.c0, B2.c1⟩
          (refine wpAnyE_one (i := 6) (o := ?_) ?_ (by kernel_rfl) (fun K hK => ?_); rotate_left; (focus ((simp only [List.getElem?_toArray, List.getElem?_cons_succ, List.getElem?_cons_zero]; exact rfl))); go_simp; refine hK.out _ _ ?_ (fun hHeld => ?_); rotate_left; clear hK K; (try simp only [Act.put, List.setIfInBounds_toArray, List.set_cons_zero, List.set_cons_succ]))
          rotate_left
          · exact hS
          clear hHeld n0 n1 n2 n3
          have X := X2
          have Y := Y2
          have A := A2
          have B := B2
          have E := E2
          clear X2 Y2 A2 B2 E2
          generalize ((v4.setCell ⟨nx, 0, none⟩ (txt tl)).setCell ⟨nx, 1, none⟩ (txt th)) = v5 at A B E X Y hS ⊢
          have X3 := Y
          obtain ⟨n0, n1, n2, n3⟩ := X3
          have Y2 := (Y.set0 tm).set1 tk
          have X2 := X.two (c := ny) (o1 := 0) (v := txt tm) (o2 := 1) (u := txt tk) (by omega)
          have A2 := A.two (c := ny) (o1 := 0) (v := txt tm) (o2 := 1) (u := txt tk) (by omega)
          have B2 := B.two (c := ny) (o1 := 0) (v := txt tm) (o2 := 1) (u := txt tk) (by omega)
          have E2 := (E.set (b := ny) (o := 0) (by omega) (txt tm)).set (b := ny) (o := 1) (by omega) (txt tk)
          clear X Y A B E hS
          have hS : ((v5.setCell ⟨ny, 0, none⟩ (txt tm)).setCell ⟨ny, 1, none⟩ (txt tk)).cell? ⟨w.heap.size, 0, none⟩ = some (.int .i64 l) ∧ ((v5.setCell ⟨ny, 0, none⟩ (txt tm)).setCell ⟨ny, 1, none⟩ (txt tk)).cell? ⟨w.heap.size, 1, none⟩ = some (.int .i64 h) ∧ ((v5.setCell ⟨ny, 0, none⟩ (txt tm)).setCell ⟨ny, 1, none⟩ (txt tk)).cell? ⟨w.heap.size + 1, 0, none⟩ = some (.int .i64 m) ∧ ((v5.setCell ⟨ny, 0, none⟩ (txt tm)).setCell ⟨ny, 1, none⟩ (txt tk)).cell? ⟨w.heap.size + 1, 1, none⟩ = some (.int .i64 k) := ⟨A2.c0, A2.c1, B2.c0, B2.c1⟩
          (refine wpAnyE_one (i := 7) (o := ?_) ?_ (by kernel_rfl) (fun K hK => ?_); rotate_left; (focus ((simp only [List.getElem?_toArray, List.getElem?_cons_succ, List.getElem?_cons_zero]; exact rfl))); go_simp; refine hK.out _ _ ?_ (fun hHeld => ?_); rotate_left; clear hK K; (try simp only [Act.put, List.setIfInBounds_toArray, List.set_cons_zero, List.set_cons_succ]))
          rotate_left
          · exact hS
          clear hHeld n0 n1 n2 n3
          have X := X2
          have Y := Y2
          have A := A2
          have B := B2
          have E := E2
          clear X2 Y2 A2 B2 E2
          generalize ((v5.setCell ⟨ny, 0, none⟩ (txt tm)).setCell ⟨ny, 1, none⟩ (txt tk)) = v6 at A B E X Y hS ⊢
          refine wpAnyE_done (by kernel_rfl) ?_ _
          go_wp2_with fail
          go_meet
          exact ⟨nx, ny, rfl, rfl, X, Y, A, B, E⟩
        · have EB : Ext v2 (v2.alloc (.cells #[.string ⟨#[]⟩, .string ⟨#[]⟩] 24)) := extA
          have Y := encAt_new v2 v2.heap.size rfl [] [] 24
          have hbny := cell_lt B.c0
          dsimp only at hbny
          have hne := cell_lt X.c0
          dsimp only at hne
          go_simp
          refine hK.out _ _ ⟨EB.cell hS.1, EB.cell hS.2.1, EB.cell hS.2.2.1, EB.cell hS.2.2.2⟩ (fun _ => ?_)
          clear hK K
          (try simp only [Act.put, List.setIfInBounds_toArray, List.set_cons_zero, List.set_cons_succ])
          replace E := E.trans EB
          replace A := A.ext EB
          replace B := B.ext EB
          replace X := X.ext EB
          replace hS : (v2.alloc (.cells #[.string ⟨#[]⟩, .string ⟨#[]⟩] 24)).cell? ⟨w.heap.size, 0, none⟩ = some (.int .i64 l) ∧ (v2.alloc (.cells #[.string ⟨#[]⟩, .string ⟨#[]⟩] 24)).cell? ⟨w.heap.size, 1, none⟩ = some (.int .i64 h) ∧ (v2.alloc (.cells #[.string ⟨#[]⟩, .string ⟨#[]⟩] 24)).cell? ⟨w.heap.size + 1, 0, none⟩ = some (.int .i64 m) ∧ (v2.alloc (.cells #[.string ⟨#[]⟩, .string ⟨#[]⟩] 24)).cell? ⟨w.heap.size + 1, 1, none⟩ = some (.int .i64 k) := ⟨EB.cell hS.1, EB.cell hS.2.1, EB.cell hS.2.2.1, EB.cell hS.2.2.2⟩
          clear EB
          obtain ⟨ny, hny⟩ : ∃ n, n = v2.heap.size := ⟨_, rfl⟩
          rw [← hny] at Y hbny hne ⊢
          generalize (v2.alloc (.cells #[.string ⟨#[]⟩, .string ⟨#[]⟩] 24)) = v3 at A B E X Y hS ⊢
          clear hny
          (refine wpAnyE_one (i := 3) (o := ?_) ?_ (by kernel_rfl) (fun K hK => ?_); rotate_left; (focus ((simp only [List.getElem?_toArray, List.getElem?_cons_succ, List.getElem?_cons_zero]; exact rfl))); go_simp; go_at_call 63; refine (Dp2.out _).mono ?_; rintro e v4 ⟨rfl, hE⟩; go_wp2_with fail; refine hK.out _ _ ?_ (fun hHeld => ?_); rotate_left; clear hK K; (try simp only [Act.put, List.setIfInBounds_toArray, List.set_cons_zero, List.set_cons_succ]))
          rotate_left
          · exact ⟨hE.cell hS.1, hE.cell hS.2.1, hE.cell hS.2.2.1, hE.cell hS.2.2.2⟩
          clear hHeld
          replace E := E.trans hE
          replace A := A.ext hE
          replace B := B.ext hE
          replace X := X.ext hE
          replace Y := Y.ext hE
          replace hS : v4.cell? ⟨w.heap.size, 0, none⟩ = some (.int .i64 l) ∧ v4.cell? ⟨w.heap.size, 1, none⟩ = some (.int .i64 h) ∧ v4.cell? ⟨w.heap.size + 1, 0, none⟩ = some (.int .i64 m) ∧ v4.cell? ⟨w.heap.size + 1, 1, none⟩ = some (.int .i64 k) := ⟨hE.cell hS.1, hE.cell hS.2.1, hE.cell hS.2.2.1, hE.cell hS.2.2.2⟩
          clear hE
          have X3 := X
          obtain ⟨n0, n1, n2, n3⟩ := X3
          have X2 := (X.set0 tl).set1 th
          have Y2 := Y.two (c := nx) (o1 := 0) (v := txt tl) (o2 := 1) (u := txt th) (by omega)
          have A2 := A.two (c := nx) (o1 := 0) (v := txt tl) (o2 := 1) (u := txt th) (by omega)
          have B2 := B.two (c := nx) (o1 := 0) (v := txt tl) (o2 := 1) (u := txt th) (by omega)
          have E2 := (E.set (b := nx) (o := 0) (by omega) (txt tl)).set (b := nx) (o := 1) (by omega) (txt th)
          clear X Y A B E hS
          have hS : ((v4.setCell ⟨nx, 0, none⟩ (txt tl)).setCell ⟨nx, 1, none⟩ (txt th)).cell? ⟨w.heap.size, 0, none⟩ = some (.int .i64 l) ∧ ((v4.setCell ⟨nx, 0, none⟩ (txt tl)).setCell ⟨nx, 1, none⟩ (txt th)).cell? ⟨w.heap.size, 1, none⟩ = some (.int .i64 h) ∧ ((v4.setCell ⟨nx, 0, none⟩ (txt tl)).setCell ⟨nx, 1, none⟩ (txt th)).cell? ⟨w.heap.size + 1, 0, none⟩ = some (.int .i64 m) ∧ ((v4.setCell ⟨nx, 0, none⟩ (txt tl)).setCell ⟨nx, 1, none⟩ (txt th)).cell? ⟨w.heap.size + 1, 1, none⟩ = some (.int .i64 k) := ⟨A2.c0, A2.c1, B2.c0, B2.c1⟩
          (refine wpAnyE_one (i := 6) (o := ?_) ?_ (by kernel_rfl) (fun K hK => ?_); rotate_left; (focus ((simp only [List.getElem?_toArray, List.getElem?_cons_succ, List.getElem?_cons_zero]; exact rfl))); go_simp; refine hK.out _ _ ?_ (fun hHeld => ?_); rotate_left; clear hK K; (try simp only [Act.put, List.setIfInBounds_toArray, List.set_cons_zero, List.set_cons_succ]))
          rotate_left
          · exact hS
          clear hHeld n0 n1 n2 n3
          have X := X2
          have Y := Y2
          have A := A2
          have B := B2
          have E := E2
          clear X2 Y2 A2 B2 E2
          generalize ((v4.setCell ⟨nx, 0, none⟩ (txt tl)).setCell ⟨nx, 1, none⟩ (txt th)) = v5 at A B E X Y hS ⊢
          have X3 := Y
          obtain ⟨n0, n1, n2, n3⟩ := X3
          have Y2 := (Y.set0 tm).set1 tk
          have X2 := X.two (c := ny) (o1 := 0) (v := txt tm) (o2 := 1) (u := txt tk) (by omega)
          have A2 := A.two (c := ny) (o1 := 0) (v := txt tm) (o2 := 1) (u := txt tk) (by omega)
          have B2 := B.two (c := ny) (o1 := 0) (v := txt tm) (o2 := 1) (u := txt tk) (by omega)
          have E2 := (E.set (b := ny) (o := 0) (by omega) (txt tm)).set (b := ny) (o := 1) (by omega) (txt tk)
          clear X Y A B E hS
          have hS : ((v5.setCell ⟨ny, 0, none⟩ (txt tm)).setCell ⟨ny, 1, none⟩ (txt tk)).cell? ⟨w.heap.size, 0, none⟩ = some (.int .i64 l) ∧ ((v5.setCell ⟨ny, 0, none⟩ (txt tm)).setCell ⟨ny, 1, none⟩ (txt tk)).cell? ⟨w.heap.size, 1, none⟩ = some (.int .i64 h) ∧ ((v5.setCell ⟨ny, 0, none⟩ (txt tm)).setCell ⟨ny, 1, none⟩ (txt tk)).cell? ⟨w.heap.size + 1, 0, none⟩ = some (.int .i64 m) ∧ ((v5.setCell ⟨ny, 0, none⟩ (txt tm)).setCell ⟨ny, 1, none⟩ (txt tk)).cell? ⟨w.heap.size + 1, 1, none⟩ = some (.int .i64 k) := ⟨A2.c0, A2.c1, B2.c0, B2.c1⟩
          (refine wpAnyE_one (i := 7) (o := ?_) ?_ (by kernel_rfl) (fun K hK => ?_); rotate_left; (focus ((simp only [List.getElem?_toArray, List.getElem?_cons_succ, List.getElem?_cons_zero]; exact rfl))); go_simp; refine hK.out _ _ ?_ (fun hHeld => ?_); rotate_left; clear hK K; (try simp only [Act.put, List.setIfInBounds_toArray, List.set_cons_zero, List.set_cons_succ]))
          rotate_left
          · exact hS
          clear hHeld n0 n1 n2 n3
          have X := X2
          have Y := Y2
          have A := A2
          have B := B2
          have E := E2
          clear X2 Y2 A2 B2 E2
          generalize ((v5.setCell ⟨ny, 0, none⟩ (txt tm)).setCell ⟨ny, 1, none⟩ (txt tk)) = v6 at A B E X Y hS ⊢
          refine wpAnyE_done (by kernel_rfl) ?_ _
          go_wp2_with fail
          go_meet
          exact ⟨nx, ny, rfl, rfl, X, Y, A, B, E⟩
      · have EB : Ext v1 (v1.alloc (.cells #[.string ⟨#[]⟩, .string ⟨#[]⟩] 24)) := extA
        have Y := encAt_new v1 v1.heap.size rfl [] [] 24
        have hbny := cell_lt B.c0
        dsimp only at hbny
        have hne := cell_lt X.c0
        dsimp only at hne
        go_simp
        refine hK.out _ _ ⟨EB.cell hS.1, EB.cell hS.2.1, EB.cell hS.2.2.1, EB.cell hS.2.2.2⟩ (fun _ => ?_)
        clear hK K
        (try simp only [Act.put, List.setIfInBounds_toArray, List.set_cons_zero, List.set_cons_succ])
        replace E := E.trans EB
        replace A := A.ext EB
        replace B := B.ext EB
        replace X := X.ext EB
        replace hS : (v1.alloc (.cells #[.string ⟨#[]⟩, .string ⟨#[]⟩] 24)).cell? ⟨w.heap.size, 0, none⟩ = some (.int .i64 l) ∧ (v1.alloc (.cells #[.string ⟨#[]⟩, .string ⟨#[]⟩] 24)).cell? ⟨w.heap.size, 1, none⟩ = some (.int .i64 h) ∧ (v1.alloc (.cells #[.string ⟨#[]⟩, .string ⟨#[]⟩] 24)).cell? ⟨w.heap.size + 1, 0, none⟩ = some (.int .i64 m) ∧ (v1.alloc (.cells #[.string ⟨#[]⟩, .string ⟨#[]⟩] 24)).cell? ⟨w.heap.size + 1, 1, none⟩ = some (.int .i64 k) := ⟨EB.cell hS.1, EB.cell hS.2.1, EB.cell hS.2.2.1, EB.cell hS.2.2.2⟩
        clear EB
        obtain ⟨ny, hny⟩ : ∃ n, n = v1.heap.size := ⟨_, rfl⟩
        rw [← hny] at Y hbny hne ⊢
        generalize (v1.alloc (.cells #[.string ⟨#[]⟩, .string ⟨#[]⟩] 24)) = v2 at A B E X Y hS ⊢
        clear hny
        (refine wpAnyE_one (i := 1) (o := ?_) ?_ (by kernel_rfl) (fun K hK => ?_); rotate_left; (focus ((simp only [List.getElem?_toArray, List.getElem?_cons_succ, List.getElem?_cons_zero]; exact rfl))); go_simp; go_at_call 63; refine (Dp1.out _).mono ?_; rintro e v3 ⟨rfl, hE⟩; go_wp2_with fail; refine hK.out _ _ ?_ (fun hHeld => ?_); rotate_left; clear hK K; (try simp only [Act.put, List.setIfInBounds_toArray, List.set_cons_zero, List.set_cons_succ]))
        rotate_left
        · exact ⟨hE.cell hS.1, hE.cell hS.2.1, hE.cell hS.2.2.1, hE.cell hS.2.2.2⟩
        clear hHeld
        replace E := E.trans hE
        replace A := A.ext hE
        replace B := B.ext hE
        replace X := X.ext hE
        replace Y := Y.ext hE
        replace hS : v3.cell? ⟨w.heap.size, 0, none⟩ = some (.int .i64 l) ∧ v3.cell? ⟨w.heap.size, 1, none⟩ = some (.int .i64 h) ∧ v3.cell? ⟨w.heap.size + 1, 0, none⟩ = some (.int .i64 m) ∧ v3.cell? ⟨w.heap.size + 1, 1, none⟩ = some (.int .i64 k) := ⟨hE.cell hS.1, hE.cell hS.2.1, hE.cell hS.2.2.1, hE.cell hS.2.2.2⟩
        clear hE
        (refine wpAnyE_one (i := 3) (o := ?_) ?_ (by kernel_rfl) (fun K hK => ?_); rotate_left; (focus ((simp only [List.getElem?_toArray, List.getElem?_cons_succ, List.getElem?_cons_zero]; exact rfl))); go_simp; go_at_call 63; refine (Dp2.out _).mono ?_; rintro e v4 ⟨rfl, hE⟩; go_wp2_with fail; refine hK.out _ _ ?_ (fun hHeld => ?_); rotate_left; clear hK K; (try simp only [Act.put, List.setIfInBounds_toArray, List.set_cons_zero, List.set_cons_succ]))
        rotate_left
        · exact ⟨hE.cell hS.1, hE.cell hS.2.1, hE.cell hS.2.2.1, hE.cell hS.2.2.2⟩
        clear hHeld
        replace E := E.trans hE
        replace A := A.ext hE
        replace B := B.ext hE
        replace X := X.ext hE
        replace Y := Y.ext hE
        replace hS : v4.cell? ⟨w.heap.size, 0, none⟩ = some (.int .i64 l) ∧ v4.cell? ⟨w.heap.size, 1, none⟩ = some (.int .i64 h) ∧ v4.cell? ⟨w.heap.size + 1, 0, none⟩ = some (.int .i64 m) ∧ v4.cell? ⟨w.heap.size + 1, 1, none⟩ = some (.int .i64 k) := ⟨hE.cell hS.1, hE.cell hS.2.1, hE.cell hS.2.2.1, hE.cell hS.2.2.2⟩
        clear hE
        have X3 := X
        obtain ⟨n0, n1, n2, n3⟩ := X3
        have X2 := (X.set0 tl).set1 th
        have Y2 := Y.two (c := nx) (o1 := 0) (v := txt tl) (o2 := 1) (u := txt th) (by omega)
        have A2 := A.two (c := nx) (o1 := 0) (v := txt tl) (o2 := 1) (u := txt th) (by omega)
        have B2 := B.two (c := nx) (o1 := 0) (v := txt tl) (o2 := 1) (u := txt th) (by omega)
        have E2 := (E.set (b := nx) (o := 0) (by omega) (txt tl)).set (b := nx) (o := 1) (by omega) (txt th)
        clear X Y A B E hS
        have hS : ((v4.setCell ⟨nx, 0, none⟩ (txt tl)).setCell ⟨nx, 1, none⟩ (txt th)).cell? ⟨w.heap.size, 0, none⟩ = some (.int .i64 l) ∧ ((v4.setCell ⟨nx, 0, none⟩ (txt tl)).setCell ⟨nx, 1, none⟩ (txt th)).cell? ⟨w.heap.size, 1, none⟩ = some (.int .i64 h) ∧ ((v4.setCell ⟨nx, 0, none⟩ (txt tl)).setCell ⟨nx, 1, none⟩ (txt th)).cell? ⟨w.heap.size + 1, 0, none⟩ = some (.int .i64 m) ∧ ((v4.setCell ⟨nx, 0, none⟩ (txt tl)).setCell ⟨nx, 1, none⟩ (txt th)).cell? ⟨w.heap.size + 1, 1, none⟩ = some (.int .i64 k) := ⟨A2.c0, A2.c1, B2.c0, B2.c1⟩
        (refine wpAnyE_one (i := 6) (o := ?_) ?_ (by kernel_rfl) (fun K hK => ?_); rotate_left; (focus ((simp only [List.getElem?_toArray, List.getElem?_cons_succ, List.getElem?_cons_zero]; exact rfl))); go_simp; refine hK.out _ _ ?_ (fun hHeld => ?_); rotate_left; clear hK K; (try simp only [Act.put, List.setIfInBounds_toArray, List.set_cons_zero, List.set_cons_succ]))
        rotate_left
        · exact hS
        clear hHeld n0 n1 n2 n3
        have X := X2
        have Y := Y2
        have A := A2
        have B := B2
        have E := E2
        clear X2 Y2 A2 B2 E2
        generalize ((v4.setCell ⟨nx, 0, none⟩ (txt tl)).setCell ⟨nx, 1, none⟩ (txt th)) = v5 at A B E X Y hS ⊢
        have X3 := Y
        obtain ⟨n0, n1, n2, n3⟩ := X3
        have Y2 := (Y.set0 tm).set1 tk
        have X2 := X.two (c := ny) (o1 := 0) (v := txt tm) (o2 := 1) (u := txt tk) (by omega)
        have A2 := A.two (c := ny) (o1 := 0) (v := txt tm) (o2 := 1) (u := txt tk) (by omega)
        have B2 := B.two (c := ny) (o1 := 0) (v := txt tm) (o2 := 1) (u := txt tk) (by omega)
        have E2 := (E.set (b := ny) (o := 0) (by omega) (txt tm)).set (b := ny) (o := 1) (by omega) (txt tk)
        clear X Y A B E hS
        have hS : ((v5.setCell ⟨ny, 0, none⟩ (txt tm)).setCell ⟨ny, 1, none⟩ (txt tk)).cell? ⟨w.heap.size, 0, none⟩ = some (.int .i64 l) ∧ ((v5.setCell ⟨ny, 0, none⟩ (txt tm)).setCell ⟨ny, 1, none⟩ (txt tk)).cell? ⟨w.heap.size, 1, none⟩ = some (.int .i64 h) ∧ ((v5.setCell ⟨ny, 0, none⟩ (txt tm)).setCell ⟨ny, 1, none⟩ (txt tk)).cell? ⟨w.heap.size + 1, 0, none⟩ = some (.int .i64 m) ∧ ((v5.setCell ⟨ny, 0, none⟩ (txt tm)).setCell ⟨ny, 1, none⟩ (txt tk)).cell? ⟨w.heap.size + 1, 1, none⟩ = some (.int .i64 k) := ⟨A2.c0, A2.c1, B2.c0, B2.c1⟩
        (refine wpAnyE_one (i := 7) (o := ?_) ?_ (by kernel_rfl) (fun K hK => ?_); rotate_left; (focus ((simp only [List.getElem?_toArray, List.getElem?_cons_succ, List.getElem?_cons_zero]; exact rfl))); go_simp; refine hK.out _ _ ?_ (fun hHeld => ?_); rotate_left; clear hK K; (try simp only [Act.put, List.setIfInBounds_toArray, List.set_cons_zero, List.set_cons_succ]))
        rotate_left
        · exact hS
        clear hHeld n0 n1 n2 n3
        have X := X2
        have Y := Y2
        have A := A2
        have B := B2
        have E := E2
        clear X2 Y2 A2 B2 E2
        generalize ((v5.setCell ⟨ny, 0, none⟩ (txt tm)).setCell ⟨ny, 1, none⟩ (txt tk)) = v6 at A B E X Y hS ⊢
        refine wpAnyE_done (by kernel_rfl) ?_ _
        go_wp2_with fail
        go_meet
        exact ⟨nx, ny, rfl, rfl, X, Y, A, B, E⟩
    · have EB : Ext v0 (v0.alloc (.cells #[.string ⟨#[]⟩, .string ⟨#[]⟩] 24)) := extA
      have Y := encAt_new v0 v0.heap.size rfl [] [] 24
      have hbny := cell_lt B.c0
      dsimp only at hbny
      go_simp
      refine hK.out _ _ ⟨EB.cell hS.1, EB.cell hS.2.1, EB.cell hS.2.2.1, EB.cell hS.2.2.2⟩ (fun _ => ?_)
      clear hK K
      (try simp only [Act.put, List.setIfInBounds_toArray, List.set_cons_zero, List.set_cons_succ])
      replace E := E.trans EB
      replace A := A.ext EB
      replace B := B.ext EB
      replace hS : (v0.alloc (.cells #[.string ⟨#[]⟩, .string ⟨#[]⟩] 24)).cell? ⟨w.heap.size, 0, none⟩ = some (.int .i64 l) ∧ (v0.alloc (.cells #[.string ⟨#[]⟩, .string ⟨#[]⟩] 24)).cell? ⟨w.heap.size, 1, none⟩ = some (.int .i64 h) ∧ (v0.alloc (.cells #[.string ⟨#[]⟩, .string ⟨#[]⟩] 24)).cell? ⟨w.heap.size + 1, 0, none⟩ = some (.int .i64 m) ∧ (v0.alloc (.cells #[.string ⟨#[]⟩, .string ⟨#[]⟩] 24)).cell? ⟨w.heap.size + 1, 1, none⟩ = some (.int .i64 k) := ⟨EB.cell hS.1, EB.cell hS.2.1, EB.cell hS.2.2.1, EB.cell hS.2.2.2⟩
      clear EB
      obtain ⟨ny, hny⟩ : ∃ n, n = v0.heap.size := ⟨_, rfl⟩
      rw [← hny] at Y hbny ⊢
      generalize (v0.alloc (.cells #[.string ⟨#[]⟩, .string ⟨#[]⟩] 24)) = v1 at A B E Y hS ⊢
      clear hny
      refine wpAnyE_two (i := 1) (j := 4) (o := ?_) (p := ?_) (by (simp only [List.getElem?_toArray, List.getElem?_cons_succ, List.getElem?_cons_zero]; exact rfl)) (by (simp only [List.getElem?_toArray, List.getElem?_cons_succ, List.getElem?_cons_zero]; exact rfl)) (by kernel_rfl) (fun K hK => ?_) (fun K hK => ?_)
      · go_simp
        go_at_call 63
        refine (Dp1.out _).mono ?_
        rintro e v2 ⟨rfl, hE⟩
        go_wp2_with fail
        refine hK.out _ _ ⟨hE.cell hS.1, hE.cell hS.2.1, hE.cell hS.2.2.1, hE.cell hS.2.2.2⟩ (fun _ => ?_)
        clear hK K
        (try simp only [Act.put, List.setIfInBounds_toArray, List.set_cons_zero, List.set_cons_succ])
        replace E := E.trans hE
        replace A := A.ext hE
        replace B := B.ext hE
        replace Y := Y.ext hE
        replace hS : v2.cell? ⟨w.heap.size, 0, none⟩ = some (.int .i64 l) ∧ v2.cell? ⟨w.heap.size, 1, none⟩ = some (.int .i64 h) ∧ v2.cell? ⟨w.heap.size + 1, 0, none⟩ = some (.int .i64 m) ∧ v2.cell? ⟨w.heap.size + 1, 1, none⟩ = some (.int .i64 k) := ⟨hE.cell hS.1, hE.cell hS.2.1, hE.cell hS.2.2.1, hE.cell hS.2.2.2⟩
        clear hE
        refine wpAnyE_two (i := 3) (j := 4) (o := ?_) (p := ?_) (by (simp only [List.getElem?_toArray, List.getElem?_cons_succ, List.getElem?_cons_zero]; exact rfl)) (by (simp only [List.getElem?_toArray, List.getElem?_cons_succ, List.getElem?_cons_zero]; exact rfl)) (by kernel_rfl) (fun K hK => ?_) (fun K hK => ?_)
        · go_simp
          go_at_call 63
          refine (Dp2.out _).mono ?_
          rintro e v3 ⟨rfl, hE⟩
          go_wp2_with fail
          refine hK.out _ _ ⟨hE.cell hS.1, hE.cell hS.2.1, hE.cell hS.2.2.1, hE.cell hS.2.2.2⟩ (fun _ => ?_)
          clear hK K
          (try simp only [Act.put, List.setIfInBounds_toArray, List.set_cons_zero, List.set_cons_succ])
          replace E := E.trans hE
          replace A := A.ext hE
          replace B := B.ext hE
          replace Y := Y.ext hE
          replace hS : v3.cell? ⟨w.heap.size, 0, none⟩ = some (.int .i64 l) ∧ v3.cell? ⟨w.heap.size, 1, none⟩ = some (.int .i64 h) ∧ v3.cell? ⟨w.heap.size + 1, 0, none⟩ = some (.int .i64 m) ∧ v3.cell? ⟨w.heap.size + 1, 1, none⟩ = some (.int .i64 k) := ⟨hE.cell hS.1, hE.cell hS.2.1, hE.cell hS.2.2.1, hE.cell hS.2.2.2⟩
          clear hE
          have EB : Ext v3 (v3.alloc (.cells #[.string ⟨#[]⟩, .string ⟨#[]⟩] 24)) := extA
          have X := encAt_new v3 v3.heap.size rfl [] [] 24
          have hbnx := cell_lt B.c0
          dsimp only at hbnx
          have hne := cell_lt Y.c0
          dsimp only at hne
          (refine wpAnyE_one (i := 4) (o := ?_) ?_ (by kernel_rfl) (fun K hK => ?_); rotate_left; (focus ((simp only [List.getElem?_toArray, List.getElem?_cons_succ, List.getElem?_cons_zero]; exact rfl))); go_simp; refine hK.out _ _ ?_ (fun hHeld => ?_); rotate_left; clear hK K; (try simp only [Act.put, List.setIfInBounds_toArray, List.set_cons_zero, List.set_cons_succ]))
          rotate_left
          · exact ⟨EB.cell hS.1, EB.cell hS.2.1, EB.cell hS.2.2.1, EB.cell hS.2.2.2⟩
          clear hHeld
          replace E := E.trans EB
          replace A := A.ext EB
          replace B := B.ext EB
          replace Y := Y.ext EB
          replace hS : (v3.alloc (.cells #[.string ⟨#[]⟩, .string ⟨#[]⟩] 24)).cell? ⟨w.heap.size, 0, none⟩ = some (.int .i64 l) ∧ (v3.alloc (.cells #[.string ⟨#[]⟩, .string ⟨#[]⟩] 24)).cell? ⟨w.heap.size, 1, none⟩ = some (.int .i64 h) ∧ (v3.alloc (.cells #[.string ⟨#[]⟩, .string ⟨#[]⟩] 24)).cell? ⟨w.heap.size + 1, 0, none⟩ = some (.int .i64 m) ∧ (v3.alloc (.cells #[.string ⟨#[]⟩, .string ⟨#[]⟩] 24)).cell? ⟨w.heap.size + 1, 1, none⟩ = some (.int .i64 k) := ⟨EB.cell hS.1, EB.cell hS.2.1, EB.cell hS.2.2.1, EB.cell hS.2.2.2⟩
          clear EB
          obtain ⟨nx, hnx⟩ : ∃ n, n = v3.heap.size := ⟨_, rfl⟩
          rw [← hnx] at X hbnx hne ⊢
          generalize (v3.alloc (.cells #[.string ⟨#[]⟩, .string ⟨#[]⟩] 24)) = v4 at A B E X Y hS ⊢
          clear hnx
          have X3 := X
          obtain ⟨n0, n1, n2, n3⟩ := X3
          have X2 := (X.set0 tl).set1 th
          have Y2 := Y.two (c := nx) (o1 := 0) (v := txt tl) (o2 := 1) (u := txt th) (by omega)
          have A2 := A.two (c := nx) (o1 := 0) (v := txt tl) (o2 := 1) (u := txt th) (by omega)
          have B2 := B.two (c := nx) (o1 := 0) (v := txt tl) (o2 := 1) (u := txt th) (by omega)
          have E2 := (E.set (b := nx) (o := 0) (by omega) (txt tl)).set (b := nx) (o := 1) (by omega) (txt th)
          clear X Y A B E hS
          have hS : ((v4.setCell ⟨nx, 0, none⟩ (txt tl)).setCell ⟨nx, 1, none⟩ (txt th)).cell? ⟨w.heap.size, 0, none⟩ = some (.int .i64 l) ∧ ((v4.setCell ⟨nx, 0, none⟩ (txt tl)).setCell ⟨nx, 1, none⟩ (txt th)).cell? ⟨w.heap.size, 1, none⟩ = some (.int .i64 h) ∧ ((v4.setCell ⟨nx, 0, none⟩ (txt tl)).setCell ⟨nx, 1, none⟩ (txt th)).cell? ⟨w.heap.size + 1, 0, none⟩ = some (.int .i64 m) ∧ ((v4.setCell ⟨nx, 0, none⟩ (txt tl)).setCell ⟨nx, 1, none⟩ (txt th)).cell? ⟨w.heap.size + 1, 1, none⟩ = some (.int .i64 k) := ⟨A2.c0, A2.c1, B2.c0, B2.c1⟩
          (refine wpAnyE_one (i := 6) (o := ?_) ?_ (by kernel_rfl) (fun K hK => ?_); rotate_left; (focus ((simp only [List.getElem?_toArray, List.getElem?_cons_succ, List.getElem?_cons_zero]; exact rfl))); go_simp; refine hK.out _ _ ?_ (fun hHeld => ?_); rotate_left; clear hK K; (try simp only [Act.put, List.setIfInBounds_toArray, List.set_cons_zero, List.set_cons_succ]))
          rotate_left
          · exact hS
          clear hHeld n0 n1 n2 n3
          have X := X2
          have Y := Y2
          have A := A2
          have B := B2
          have E := E2
          clear X2 Y2 A2 B2 E2
          generalize ((v4.setCell ⟨nx, 0, none⟩ (txt tl)).setCell ⟨nx, 1, none⟩ (txt th)) = v5 at A B E X Y hS ⊢
          have X3 := Y
          obtain ⟨n0, n1, n2, n3⟩ := X3
          have Y2 := (Y.set0 tm).set1 tk
          have X2 := X.two (c := ny) (o1 := 0) (v := txt tm) (o2 := 1) (u := txt tk) (by omega)
          have A2 := A.two (c := ny) (o1 := 0) (v := txt tm) (o2 := 1) (u := txt tk) (by omega)
          have B2 := B.two (c := ny) (o1 := 0) (v := txt tm) (o2 := 1) (u := txt tk) (by omega)
          have E2 := (E.set (b := ny) (o := 0) (by omega) (txt tm)).set (b := ny) (o := 1) (by omega) (txt tk)
          clear X Y A B E hS
          have hS : ((v5.setCell ⟨ny, 0, none⟩ (txt tm)).setCell ⟨ny, 1, none⟩ (txt tk)).cell? ⟨w.heap.size, 0, none⟩ = some (.int .i64 l) ∧ ((v5.setCell ⟨ny, 0, none⟩ (txt tm)).setCell ⟨ny, 1, none⟩ (txt tk)).cell? ⟨w.heap.size, 1, none⟩ = some (.int .i64 h) ∧ ((v5.setCell ⟨ny, 0, none⟩ (txt tm)).setCell ⟨ny, 1, none⟩ (txt tk)).cell? ⟨w.heap.size + 1, 0, none⟩ = some (.int .i64 m) ∧ ((v5.setCell ⟨ny, 0, none⟩ (txt tm)).setCell ⟨ny, 1, none⟩ (txt tk)).cell? ⟨w.heap.size + 1, 1, none⟩ = some (.int .i64 k) := ⟨A2.c0, A2.c1, B2.c0, B2.c1⟩
          (refine wpAnyE_one (i := 7) (o := ?_) ?_ (by kernel_rfl) (fun K hK => ?_); rotate_left; (focus ((simp only [List.getElem?_toArray, List.getElem?_cons_succ, List.getElem?_cons_zero]; exact rfl))); go_simp; refine hK.out _ _ ?_ (fun hHeld => ?_); rotate_left; clear hK K; (try simp only [Act.put, List.setIfInBounds_toArray, List.set_cons_zero, List.set_cons_succ]))
          rotate_left
          · exact hS
          clear hHeld n0 n1 n2 n3
          have X := X2
          have Y := Y2
          have A := A2
          have B := B2
          have E := E2
          clear X2 Y2 A2 B2 E2
          generalize ((v5.setCell ⟨ny, 0, none⟩ (txt tm)).setCell ⟨ny, 1, none⟩ (txt tk)) = v6 at A B E X Y hS ⊢
          refine wpAnyE_done (by kernel_rfl) ?_ _
          go_wp2_with fail
          go_meet
          exact ⟨nx, ny, rfl, rfl, X, Y, A, B, E⟩
        · have EB : Ext v2 (v2.alloc (.cells #[.string ⟨#[]⟩, .string ⟨#[]⟩] 24)) := extA
          have X := encAt_new v2 v2.heap.size rfl [] [] 24
          have hbnx := cell_lt B.c0
          dsimp only at hbnx
          have hne := cell_lt Y.c0
          dsimp only at hne
          go_simp
          refine hK.out _ _ ⟨EB.cell hS.1, EB.cell hS.2.1, EB.cell hS.2.2.1, EB.cell hS.2.2.2⟩ (fun _ => ?_)
          clear hK K
          (try simp only [Act.put, List.setIfInBounds_toArray, List.set_cons_zero, List.set_cons_succ])
          replace E := E.trans EB
          replace A := A.ext EB
          replace B := B.ext EB
          replace Y := Y.ext EB
          replace hS : (v2.alloc (.cells #[.string ⟨#[]⟩, .string ⟨#[]⟩] 24)).cell? ⟨w.heap.size, 0, none⟩ = some (.int .i64 l) ∧ (v2.alloc (.cells #[.string ⟨#[]⟩, .string ⟨#[]⟩] 24)).cell? ⟨w.heap.size, 1, none⟩ = some (.int .i64 h) ∧ (v2.alloc (.cells #[.string ⟨#[]⟩, .string ⟨#[]⟩] 24)).cell? ⟨w.heap.size + 1, 0, none⟩ = some (.int .i64 m) ∧ (v2.alloc (.cells #[.string ⟨#[]⟩, .string ⟨#[]⟩] 24)).cell? ⟨w.heap.size + 1, 1, none⟩ = some (.int .i64 k) := ⟨EB.cell hS.1, EB.cell hS.2.1, EB.cell hS.2.2.1, EB.cell hS.2.2.2⟩
          clear EB
          obtain ⟨nx, hnx⟩ : ∃ n, n = v2.heap.size := ⟨_, rfl⟩
          rw [← hnx] at X hbnx hne ⊢
          generalize (v2.alloc (.cells #[.string ⟨#[]⟩, .string ⟨#[]⟩] 24)) = v3 at A B E X Y hS ⊢
          clear hnx
          (refine wpAnyE_one (i := 3) (o := ?_) ?_ (by kernel_rfl) (fun K hK => ?_); rotate_left; (focus ((simp only [List.getElem?_toArray, List.getElem?_cons_succ, List.getElem?_cons_zero]; exact rfl))); go_simp; go_at_call 63; refine (Dp2.out _).mono ?_; rintro e v4 ⟨rfl, hE⟩; go_wp2_with fail; refine hK.out _ _ ?_ (fun hHeld => ?_); rotate_left; clear hK K; (try simp only [Act.put, List.setIfInBounds_toArray, List.set_cons_zero, List.set_cons_succ]))
          rotate_left
          · exact ⟨hE.cell hS.1, hE.cell hS.2.1, hE.cell hS.2.2.1, hE.cell hS.2.2.2⟩
          clear hHeld
          replace E := E.trans hE
          replace A := A.ext hE
          replace B := B.ext hE
          replace X := X.ext hE
          replace Y := Y.ext hE
          replace hS : v4.cell? ⟨w.heap.size, 0, none⟩ = some (.int .i64 l) ∧ v4.cell? ⟨w.heap.size, 1, none⟩ = some (.int .i64 h) ∧ v4.cell? ⟨w.heap.size + 1, 0, none⟩ = some (.int .i64 m) ∧ v4.cell? ⟨w.heap.size + 1, 1, none⟩ = some (.int .i64 k) := ⟨hE.cell hS.1, hE.cell hS.2.1, hE.cell hS.2.2.1, hE.cell hS.2.2.2⟩
          clear hE
          have X3 := X
          obtain ⟨n0, n1, n2, n3⟩ := X3
          have X2 := (X.set0 tl).set1 th
          have Y2 := Y.two (c := nx) (o1 := 0) (v := txt tl) (o2 := 1) (u := txt th) (by omega)
          have A2 := A.two (c := nx) (o1 := 0) (v := txt tl) (o2 := 1) (u := txt th) (by omega)
          have B2 := B.two (c := nx) (o1 := 0) (v := txt tl) (o2 := 1) (u := txt th) (by omega)
          have E2 := (E.set (b := nx) (o := 0) (by omega) (txt tl)).set (b := nx) (o := 1) (by omega) (txt th)
          clear X Y A B E hS
          have hS : ((v4.setCell ⟨nx, 0, none⟩ (txt tl)).setCell ⟨nx, 1, none⟩ (txt th)).cell? ⟨w.heap.size, 0, none⟩ = some (.int .i64 l) ∧ ((v4.setCell ⟨nx, 0, none⟩ (txt tl)).setCell ⟨nx, 1, none⟩ (txt th)).cell? ⟨w.heap.size, 1, none⟩ = some (.int .i64 h) ∧ ((v4.setCell ⟨nx, 0, none⟩ (txt tl)).setCell ⟨nx, 1, none⟩ (txt th)).cell? ⟨w.heap.size + 1, 0, none⟩ = some (.int .i64 m) ∧ ((v4.setCell ⟨nx, 0, none⟩ (txt tl)).setCell ⟨nx, 1, none⟩ (txt th)).cell? ⟨w.heap.size + 1, 1, none⟩ = some (.int .i64 k) := ⟨A2.c0, A2.c1, B2.c0, B2.c1⟩
          (refine wpAnyE_one (i := 6) (o := ?_) ?_ (by kernel_rfl) (fun K hK => ?_); rotate_left; (focus ((simp only [List.getElem?_toArray, List.getElem?_cons_succ, List.getElem?_cons_zero]; exact rfl))); go_simp; refine hK.out _ _ ?_ (fun hHeld => ?_); rotate_left; clear hK K; (try simp only [Act.put, List.setIfInBounds_toArray, List.set_cons_zero, List.set_cons_succ]))
          rotate_left
          · exact hS
          clear hHeld n0 n1 n2 n3
          have X := X2
          have Y := Y2
          have A := A2
          have B := B2
          have E := E2
          clear X2 Y2 A2 B2 E2
          generalize ((v4.setCell ⟨nx, 0, none⟩ (txt tl)).setCell ⟨nx, 1, none⟩ (txt th)) = v5 at A B E X Y hS ⊢
          have X3 := Y
          obtain ⟨n0, n1, n2, n3⟩ := X3
          have Y2 := (Y.set0 tm).set1 tk
          have X2 := X.two (c := ny) (o1 := 0) (v := txt tm) (o2 := 1) (u := txt tk) (by omega)
          have A2 := A.two (c := ny) (o1 := 0) (v := txt tm) (o2 := 1) (u := txt tk) (by omega)
          have B2 := B.two (c := ny) (o1 := 0) (v := txt tm) (o2 := 1) (u := txt tk) (by omega)
          have E2 := (E.set (b := ny) (o := 0) (by omega) (txt tm)).set (b := ny) (o := 1) (by omega) (txt tk)
          clear X Y A B E hS
          have hS : ((v5.setCell ⟨ny, 0, none⟩ (txt tm)).setCell ⟨ny, 1, none⟩ (txt tk)).cell? ⟨w.heap.size, 0, none⟩ = some (.int .i64 l) ∧ ((v5.setCell ⟨ny, 0, none⟩ (txt tm)).setCell ⟨ny, 1, none⟩ (txt tk)).cell? ⟨w.heap.size, 1, none⟩ = some (.int .i64 h) ∧ ((v5.setCell ⟨ny, 0, none⟩ (txt tm)).setCell ⟨ny, 1, none⟩ (txt tk)).cell? ⟨w.heap.size + 1, 0, none⟩ = some (.int .i64 m) ∧ ((v5.setCell ⟨ny, 0, none⟩ (txt tm)).setCell ⟨ny, 1, none⟩ (txt tk)).cell? ⟨w.heap.size + 1, 1, none⟩ = some (.int .i64 k) := ⟨A2.c0, A2.c1, B2.c0, B2.c1⟩
          (refine wpAnyE_one (i := 7) (o := ?_) ?_ (by kernel_rfl) (fun K hK => ?_); rotate_left; (focus ((simp only [List.getElem?_toArray, List.getElem?_cons_succ, List.getElem?_cons_zero]; exact rfl))); go_simp; refine hK.out _ _ ?_ (fun hHeld => ?_); rotate_left; clear hK K; (try simp only [Act.put, List.setIfInBounds_toArray, List.set_cons_zero, List.set_cons_succ]))
          rotate_left
          · exact hS
          clear hHeld n0 n1 n2 n3
          have X := X2
          have Y := Y2
          have A := A2
          have B := B2
          have E := E2
          clear X2 Y2 A2 B2 E2
          generalize ((v5.setCell ⟨ny, 0, none⟩ (txt tm)).setCell ⟨ny, 1, none⟩ (txt tk)) = v6 at A B E X Y hS ⊢
          refine wpAnyE_done (by kernel_rfl) ?_ _
          go_wp2_with fail
          go_meet
          exact ⟨nx, ny, rfl, rfl, X, Y, A, B, E⟩
      · have EB : Ext v1 (v1.alloc (.cells #[.string ⟨#[]⟩, .string ⟨#[]⟩] 24)) := extA
        have X := encAt_new v1 v1.heap.size rfl [] [] 24
        have hbnx := cell_lt B.c0
        dsimp only at hbnx
        have hne := cell_lt Y.c0
        dsimp only at hne
        go_simp
        refine hK.out _ _ ⟨EB.cell hS.1, EB.cell hS.2.1, EB.cell hS.2.2.1, EB.cell hS.2.2.2⟩ (fun _ => ?_)
        clear hK K
        (try simp only [Act.put, List.setIfInBounds_toArray, List.set_cons_zero, List.set_cons_succ])
        replace E := E.trans EB
        replace A := A.ext EB
        replace B := B.ext EB
        replace Y := Y.ext EB
        replace hS : (v1.alloc (.cells #[.string ⟨#[]⟩, .string ⟨#[]⟩] 24)).cell? ⟨w.heap.size, 0, none⟩ = some (.int .i64 l) ∧ (v1.alloc (.cells #[.string ⟨#[]⟩, .string ⟨#[]⟩] 24)).cell? ⟨w.heap.size, 1, none⟩ = some (.int .i64 h) ∧ (v1.alloc (.cells #[.string ⟨#[]⟩, .string ⟨#[]⟩] 24)).cell? ⟨w.heap.size + 1, 0, none⟩ = some (.int .i64 m) ∧ (v1.alloc (.cells #[.string ⟨#[]⟩, .string ⟨#[]⟩] 24)).cell? ⟨w.heap.size + 1, 1, none⟩ = some (.int .i64 k) := ⟨EB.cell hS.1, EB.cell hS.2.1, EB.cell hS.2.2.1, EB.cell hS.2.2.2⟩
        clear EB
        obtain ⟨nx, hnx⟩ : ∃ n, n = v1.heap.size := ⟨_, rfl⟩
        rw [← hnx] at X hbnx hne ⊢
        generalize (v1.alloc (.cells #[.string ⟨#[]⟩, .string ⟨#[]⟩] 24)) = v2 at A B E X Y hS ⊢
        clear hnx
        (refine wpAnyE_one (i := 1) (o := ?_) ?_ (by kernel_rfl) (fun K hK => ?_); rotate_left; (focus ((simp only [List.getElem?_toArray, List.getElem?_cons_succ, List.getElem?_cons_zero]; exact rfl))); go_simp; go_at_call 63; refine (Dp1.out _).mono ?_; rintro e v3 ⟨rfl, hE⟩; go_wp2_with fail; refine hK.out _ _ ?_ (fun hHeld => ?_); rotate_left; clear hK K; (try simp only [Act.put, List.setIfInBounds_toArray, List.set_cons_zero, List.set_cons_succ]))
        rotate_left
        · exact ⟨hE.cell hS.1, hE.cell hS.2.1, hE.cell hS.2.2.1, hE.cell hS.2.2.2⟩
        clear hHeld
        replace E := E.trans hE
        replace A := A.ext hE
        replace B := B.ext hE
        replace X := X.ext hE
        replace Y := Y.ext hE
        replace hS : v3.cell? ⟨w.heap.size, 0, none⟩ = some (.int .i64 l) ∧ v3.cell? ⟨w.heap.size, 1, none⟩ = some (.int .i64 h) ∧ v3.cell? ⟨w.heap.size + 1, 0, none⟩ = some (.int .i64 m) ∧ v3.cell? ⟨w.heap.size + 1, 1, none⟩ = some (.int .i64 k) := ⟨hE.cell hS.1, hE.cell hS.2.1, hE.cell hS.2.2.1, hE.cell hS.2.2.2⟩
        clear hE
        (refine wpAnyE_one (i := 3) (o := ?_) ?_ (by kernel_rfl) (fun K hK => ?_); rotate_left; (focus ((simp only [List.getElem?_toArray, List.getElem?_cons_succ, List.getElem?_cons_zero]; exact rfl))); go_simp; go_at_call 63; refine (Dp2.out _).mono ?_; rintro e v4 ⟨rfl, hE⟩; go_wp2_with fail; refine hK.out _ _ ?_ (fun hHeld => ?_); rotate_left; clear hK K; (try simp only [Act.put, List.setIfInBounds_toArray, List.set_cons_zero, List.set_cons_succ]))
        rotate_left
        · exact ⟨hE.cell hS.1, hE.cell hS.2.1, hE.cell hS.2.2.1, hE.cell hS.2.2.2⟩
        clear hHeld
        replace E := E.trans hE
        replace A := A.ext hE
        replace B := B.ext hE
        replace X := X.ext hE
        replace Y := Y.ext hE
        replace hS : v4.cell? ⟨w.heap.size, 0, none⟩ = some (.int .i64 l) ∧ v4.cell? ⟨w.heap.size, 1, none⟩ = some (.int .i64 h) ∧ v4.cell? ⟨w.heap.size + 1, 0, none⟩ = some (.int .i64 m) ∧ v4.cell? ⟨w.heap.size + 1, 1, none⟩ = some (.int .i64 k) := ⟨hE.cell hS.1, hE.cell hS.2.1, hE.cell hS.2.2.1, hE.cell hS.2.2.2⟩
        clear hE
        have X3 := X
        obtain ⟨n0, n1, n2, n3⟩ := X3
        have X2 := (X.set0 tl).set1 th
        have Y2 := Y.two (c := nx) (o1 := 0) (v := txt tl) (o2 := 1) (u := txt th) (by omega)
        have A2 := A.two (c := nx) (o1 := 0) (v := txt tl) (o2 := 1) (u := txt th) (by omega)
        have B2 := B.two (c := nx) (o1 := 0) (v := txt tl) (o2 := 1) (u := txt th) (by omega)
        have E2 := (E.set (b := nx) (o := 0) (by omega) (txt tl)).set (b := nx) (o := 1) (by omega) (txt th)
        clear X Y A B E hS
        have hS : ((v4.setCell ⟨nx, 0, none⟩ (txt tl)).setCell ⟨nx, 1, none⟩ (txt th)).cell? ⟨w.heap.size, 0, none⟩ = some (.int .i64 l) ∧ ((v4.setCell ⟨nx, 0, none⟩ (txt tl)).setCell ⟨nx, 1, none⟩ (txt th)).cell? ⟨w.heap.size, 1, none⟩ = some (.int .i64 h) ∧ ((v4.setCell ⟨nx, 0, none⟩ (txt tl)).setCell ⟨nx, 1, none⟩ (txt th)).cell? ⟨w.heap.size + 1, 0, none⟩ = some (.int .i64 m) ∧ ((v4.setCell ⟨nx, 0, none⟩ (txt tl)).setCell ⟨nx, 1, none⟩ (txt th)).cell? ⟨w.heap.size + 1, 1, none⟩ = some (.int .i64 k) := ⟨A2.c0, A2.c1, B2.c0, B2.c1⟩
        (refine wpAnyE_one (i := 6) (o := ?_) ?_ (by kernel_rfl) (fun K hK => ?_); rotate_left; (focus ((simp only [List.getElem?_toArray, List.getElem?_cons_succ, List.getElem?_cons_zero]; exact rfl))); go_simp; refine hK.out _ _ ?_ (fun hHeld => ?_); rotate_left; clear hK K; (try simp only [Act.put, List.setIfInBounds_toArray, List.set_cons_zero, List.set_cons_succ]))
        rotate_left
        · exact hS
        clear hHeld n0 n1 n2 n3
        have X := X2
        have Y := Y2
        have A := A2
        have B := B2
        have E := E2
        clear X2 Y2 A2 B2 E2
        generalize ((v4.setCell ⟨nx, 0, none⟩ (txt tl)).setCell ⟨nx, 1, none⟩ (txt th)) = v5 at A B E X Y hS ⊢
        have X3 := Y
        obtain ⟨n0, n1, n2, n3⟩ := X3
        have Y2 := (Y.set0 tm).set1 tk
        have X2 := X.two (c := ny) (o1 := 0) (v := txt tm) (o2 := 1) (u := txt tk) (by omega)
        have A2 := A.two (c := ny) (o1 := 0) (v := txt tm) (o2 := 1) (u := txt tk) (by omega)
        have B2 := B.two (c := ny) (o1 := 0) (v := txt tm) (o2 := 1) (u := txt tk) (by omega)
        have E2 := (E.set (b := ny) (o := 0) (by omega) (txt tm)).set (b := ny) (o := 1) (by omega) (txt tk)
        clear X Y A B E hS
        have hS : ((v5.setCell ⟨ny, 0, none⟩ (txt tm)).setCell ⟨ny, 1, none⟩ (txt tk)).cell? ⟨w.heap.size, 0, none⟩ = some (.int .i64 l) ∧ ((v5.setCell ⟨ny, 0, none⟩ (txt tm)).setCell ⟨ny, 1, none⟩ (txt tk)).cell? ⟨w.heap.size, 1, none⟩ = some (.int .i64 h) ∧ ((v5.setCell ⟨ny, 0, none⟩ (txt tm)).setCell ⟨ny, 1, none⟩ (txt tk)).cell? ⟨w.heap.size + 1, 0, none⟩ = some (.int .i64 m) ∧ ((v5.setCell ⟨ny, 0, none⟩ (txt tm)).setCell ⟨ny, 1, none⟩ (txt tk)).cell? ⟨w.heap.size + 1, 1, none⟩ = some (.int .i64 k) := ⟨A2.c0, A2.c1, B2.c0, B2.c1⟩
        (refine wpAnyE_one (i := 7) (o := ?_) ?_ (by kernel_rfl) (fun K hK => ?_); rotate_left; (focus ((simp only [List.getElem?_toArray, List.getElem?_cons_succ, List.getElem?_cons_zero]; exact rfl))); go_simp; refine hK.out _ _ ?_ (fun hHeld => ?_); rotate_left; clear hK K; (try simp only [Act.put, List.setIfInBounds_toArray, List.set_cons_zero, List.set_cons_succ]))
        rotate_left
        · exact hS
        clear hHeld n0 n1 n2 n3
        have X := X2
        have Y := Y2
        have A := A2
        have B := B2
        have E := E2
        clear X2 Y2 A2 B2 E2
        generalize ((v5.setCell ⟨ny, 0, none⟩ (txt tm)).setCell ⟨ny, 1, none⟩ (txt tk)) = v6 at A B E X Y hS ⊢
        refine wpAnyE_done (by kernel_rfl) ?_ _
        go_wp2_with fail
        go_meet
        exact ⟨nx, ny, rfl, rfl, X, Y, A, B, E⟩
  case rest =>
    obtain ⟨nx, ny, rfl, rfl, HX, HY, HA, HB, E1⟩ := hcut
    have X := HX.out
    have Y := HY.out
    have A := HA.out
    have B := HB.out
    have E := E1
    clear HX HY HA HB E1 Dp1 Dp2 hng hwr
    generalize wc = w9 at X Y A B E ⊢
    have A' := A
    have B' := B
    have X' := X
    have Y' := Y
    obtain ⟨A0, A1, A2, A3⟩ := A
    have zA := cell_lt A0
    dsimp only at zA
    obtain ⟨B0, B1, B2, B3⟩ := B
    have zB := cell_lt B0
    dsimp only at zB
    obtain ⟨X0, X1, X2, X3⟩ := X
    have zX := cell_lt X0
    dsimp only at zX
    obtain ⟨Y0, Y1, Y2, Y3⟩ := Y
    have zY := cell_lt Y0
    dsimp only at zY
    go_wp2_with fail
    clear A0 A1 A2 A3 zA B0 B1 B2 B3 zB X0 X1 X2 X3 zX Y0 Y1 Y2 Y3 zY
    have A := A'
    clear A'
    have B := B'
    clear B'
    have X := X'
    clear X'
    have Y := Y'
    clear Y'
    refine (Ds.out _).mono ?_
    clear Ds
    rintro e w10 ⟨rfl, hE⟩
    replace E := E.trans hE
    replace A := A.ext hE
    replace B := B.ext hE
    replace X := X.ext hE
    replace Y := Y.ext hE
    clear hE
    have A' := A
    have B' := B
    have X' := X
    have Y' := Y
    obtain ⟨A0, A1, A2, A3⟩ := A
    have zA := cell_lt A0
    dsimp only at zA
    obtain ⟨B0, B1, B2, B3⟩ := B
    have zB := cell_lt B0
    dsimp only at zB
    obtain ⟨X0, X1, X2, X3⟩ := X
    have zX := cell_lt X0
    dsimp only at zX
    obtain ⟨Y0, Y1, Y2, Y3⟩ := Y
    have zY := cell_lt Y0
    dsimp only at zY
    have P : IntsAt (w10.heap.size) (w10.alloc (.cells #[.int .i64 s0, .int .i64 s1] 82)) s0 s1 := ⟨by go_simp, by go_simp, by go_simp, by go_simp⟩
    have EA : Ext w10 (w10.alloc (.cells #[.int .i64 s0, .int .i64 s1] 82)) := extA
    replace A' := A'.ext EA
    replace B' := B'.ext EA
    replace X' := X'.ext EA
    replace Y' := Y'.ext EA
    replace E := E.trans EA
    clear EA
    go_wp2_with fail
    clear A0 A1 A2 A3 zA B0 B1 B2 B3 zB X0 X1 X2 X3 zX Y0 Y1 Y2 Y3 zY
    have A := A'
    clear A'
    have B := B'
    clear B'
    have X := X'
    clear X'
    have Y := Y'
    clear Y'
    obtain ⟨bP, hbP⟩ : ∃ b, b = w10.heap.size := ⟨_, rfl⟩
    rw [← hbP] at P  ⊢
    generalize (w10.alloc (.cells #[.int .i64 s0, .int .i64 s1] 82)) = w11 at A B X Y P E ⊢
    clear hbP
    refine (Dx.out _ E).mono ?_
    clear Dx
    rintro e w12 ⟨rfl, hE⟩
    replace E := E.trans hE
    replace A := A.ext hE
    replace B := B.ext hE
    replace X := X.ext hE
    replace Y := Y.ext hE
    replace P := P.ext hE
    clear hE
    have A' := A
    have B' := B
    have X' := X
    have Y' := Y
    have P' := P
    obtain ⟨A0, A1, A2, A3⟩ := A
    have zA := cell_lt A0
    dsimp only at zA
    obtain ⟨B0, B1, B2, B3⟩ := B
    have zB := cell_lt B0
    dsimp only at zB
    obtain ⟨X0, X1, X2, X3⟩ := X
    have zX := cell_lt X0
    dsimp only at zX
    obtain ⟨Y0, Y1, Y2, Y3⟩ := Y
    have zY := cell_lt Y0
    dsimp only at zY
    obtain ⟨P0, P1, P2, P3⟩ := P
    have zP := cell_lt P0
    dsimp only at zP
    have Q : EncAt (w12.heap.size) (w12.alloc (.cells #[txt x0, txt x1] 24)) x0 x1 := ⟨by go_simp, by go_simp, by go_simp, by go_simp⟩
    have EA : Ext w12 (w12.alloc (.cells #[txt x0, txt x1] 24)) := extA
    replace A' := A'.ext EA
    replace B' := B'.ext EA
    replace X' := X'.ext EA
    replace Y' := Y'.ext EA
    replace P' := P'.ext EA
    replace E := E.trans EA
    clear EA
    go_wp2_with fail
    clear A0 A1 A2 A3 zA B0 B1 B2 B3 zB X0 X1 X2 X3 zX Y0 Y1 Y2 Y3 zY P0 P1 P2 P3 zP
    have A := A'
    clear A'
    have B := B'
    clear B'
    have X := X'
    clear X'
    have Y := Y'
    clear Y'
    have P := P'
    clear P'
    obtain ⟨bQ, hbQ⟩ : ∃ b, b = w12.heap.size := ⟨_, rfl⟩
    rw [← hbQ] at Q  ⊢
    generalize (w12.alloc (.cells #[txt x0, txt x1] 24)) = w13 at A B X Y P Q E ⊢
    clear hbQ
    refine (Dg.out _).mono ?_
    clear Dg
    rintro e w14 ⟨rfl, hE⟩
    replace E := E.trans hE
    replace A := A.ext hE
    replace B := B.ext hE
    replace X := X.ext hE
    replace Y := Y.ext hE
    replace P := P.ext hE
    replace Q := Q.ext hE
    clear hE
    have A' := A
    have B' := B
    have X' := X
    have Y' := Y
    have P' := P
    have Q' := Q
    obtain ⟨A0, A1, A2, A3⟩ := A
    have zA := cell_lt A0
    dsimp only at zA
    obtain ⟨B0, B1, B2, B3⟩ := B
    have zB := cell_lt B0
    dsimp only at zB
    obtain ⟨X0, X1, X2, X3⟩ := X
    have zX := cell_lt X0
    dsimp only at zX
    obtain ⟨Y0, Y1, Y2, Y3⟩ := Y
    have zY := cell_lt Y0
    dsimp only at zY
    obtain ⟨P0, P1, P2, P3⟩ := P
    have zP := cell_lt P0
    dsimp only at zP
    obtain ⟨Q0, Q1, Q2, Q3⟩ := Q
    have zQ := cell_lt Q0
    dsimp only at zQ
    have G : IntsAt (w14.heap.size) (w14.alloc (.cells #[.int .i64 g0, .int .i64 g1] 82)) g0 g1 := ⟨by go_simp, by go_simp, by go_simp, by go_simp⟩
    have EA : Ext w14 (w14.alloc (.cells #[.int .i64 g0, .int .i64 g1] 82)) := extA
    replace A' := A'.ext EA
    replace B' := B'.ext EA
    replace X' := X'.ext EA
    replace Y' := Y'.ext EA
    replace P' := P'.ext EA
    replace Q' := Q'.ext EA
    replace E := E.trans EA
    clear EA
    go_wp2_with fail
    clear A0 A1 A2 A3 zA B0 B1 B2 B3 zB X0 X1 X2 X3 zX Y0 Y1 Y2 Y3 zY P0 P1 P2 P3 zP Q0 Q1 Q2 Q3 zQ
    have A := A'
    clear A'
    have B := B'
    clear B'
    have X := X'
    clear X'
    have Y := Y'
    clear Y'
    have P := P'
    clear P'
    have Q := Q'
    clear Q'
    obtain ⟨bG, hbG⟩ : ∃ b, b = w14.heap.size := ⟨_, rfl⟩
    rw [← hbG] at G  ⊢
    generalize (w14.alloc (.cells #[.int .i64 g0, .int .i64 g1] 82)) = w15 at A B X Y P Q G E ⊢
    clear hbG
    refine (Dy.out _ E).mono ?_
    clear Dy
    rintro e w16 ⟨rfl, hE⟩
    replace E := E.trans hE
    replace A := A.ext hE
    replace B := B.ext hE
    replace X := X.ext hE
    replace Y := Y.ext hE
    replace P := P.ext hE
    replace Q := Q.ext hE
    replace G := G.ext hE
    clear hE
    have A' := A
    have B' := B
    have X' := X
    have Y' := Y
    have P' := P
    have Q' := Q
    have G' := G
    obtain ⟨A0, A1, A2, A3⟩ := A
    have zA := cell_lt A0
    dsimp only at zA
    obtain ⟨B0, B1, B2, B3⟩ := B
    have zB := cell_lt B0
    dsimp only at zB
    obtain ⟨X0, X1, X2, X3⟩ := X
    have zX := cell_lt X0
    dsimp only at zX
    obtain ⟨Y0, Y1, Y2, Y3⟩ := Y
    have zY := cell_lt Y0
    dsimp only at zY
    obtain ⟨P0, P1, P2, P3⟩ := P
    have zP := cell_lt P0
    dsimp only at zP
    obtain ⟨Q0, Q1, Q2, Q3⟩ := Q
    have zQ := cell_lt Q0
    dsimp only at zQ
    obtain ⟨G0, G1, G2, G3⟩ := G
    have zG := cell_lt G0
    dsimp only at zG
    have I : EncAt (w16.heap.size) (w16.alloc (.cells #[txt y0, txt y1] 24)) y0 y1 := ⟨by go_simp, by go_simp, by go_simp, by go_simp⟩
    have EA : Ext w16 (w16.alloc (.cells #[txt y0, txt y1] 24)) := extA
    replace A' := A'.ext EA
    replace B' := B'.ext EA
    replace X' := X'.ext EA
    replace Y' := Y'.ext EA
    replace P' := P'.ext EA
    replace Q' := Q'.ext EA
    replace G' := G'.ext EA
    replace E := E.trans EA
    clear EA
    go_wp2_with fail
    clear A0 A1 A2 A3 zA B0 B1 B2 B3 zB X0 X1 X2 X3 zX Y0 Y1 Y2 Y3 zY P0 P1 P2 P3 zP Q0 Q1 Q2 Q3 zQ G0 G1 G2 G3 zG
    have A := A'
    clear A'
    have B := B'
    clear B'
    have X := X'
    clear X'
    have Y := Y'
    clear Y'
    have P := P'
    clear P'
    have Q := Q'
    clear Q'
    have G := G'
    clear G'
    obtain ⟨bI, hbI⟩ : ∃ b, b = w16.heap.size := ⟨_, rfl⟩
    rw [← hbI] at I  ⊢
    generalize (w16.alloc (.cells #[txt y0, txt y1] 24)) = w17 at A B X Y P Q G I E ⊢
    clear hbI
    refine (Dc.out _).mono ?_
    clear Dc
    rintro e w18 ⟨rfl, hE⟩
    replace E := E.trans hE
    replace A := A.ext hE
    replace B := B.ext hE
    replace X := X.ext hE
    replace Y := Y.ext hE
    replace P := P.ext hE
    replace Q := Q.ext hE
    replace G := G.ext hE
    replace I := I.ext hE
    clear hE
    have A' := A
    have B' := B
    have X' := X
    have Y' := Y
    have P' := P
    have Q' := Q
    have G' := G
    have I' := I
    obtain ⟨A0, A1, A2, A3⟩ := A
    have zA := cell_lt A0
    dsimp only at zA
    obtain ⟨B0, B1, B2, B3⟩ := B
    have zB := cell_lt B0
    dsimp only at zB
    obtain ⟨X0, X1, X2, X3⟩ := X
    have zX := cell_lt X0
    dsimp only at zX
    obtain ⟨Y0, Y1, Y2, Y3⟩ := Y
    have zY := cell_lt Y0
    dsimp only at zY
    obtain ⟨P0, P1, P2, P3⟩ := P
    have zP := cell_lt P0
    dsimp only at zP
    obtain ⟨Q0, Q1, Q2, Q3⟩ := Q
    have zQ := cell_lt Q0
    dsimp only at zQ
    obtain ⟨G0, G1, G2, G3⟩ := G
    have zG := cell_lt G0
    dsimp only at zG
    obtain ⟨I0, I1, I2, I3⟩ := I
    have zI := cell_lt I0
    dsimp only at zI
    go_wp2_with fail
    clear A0 A1 A2 A3 zA B0 B1 B2 B3 zB X0 X1 X2 X3 zX Y0 Y1 Y2 Y3 zY P0 P1 P2 P3 zP Q0 Q1 Q2 Q3 zQ G0 G1 G2 G3 zG I0 I1 I2 I3 zI
    have A := A'
    clear A'
    have B := B'
    clear B'
    have X := X'
    clear X'
    have Y := Y'
    clear Y'
    have P := P'
    clear P'
    have Q := Q'
    clear Q'
    have G := G'
    clear G'
    have I := I'
    clear I'
    refine (Dd.out _ E).mono ?_
    clear Dd
    rintro e w19 ⟨rfl, hE⟩
    replace E := E.trans hE
    replace A := A.ext hE
    replace B := B.ext hE
    replace X := X.ext hE
    replace Y := Y.ext hE
    replace P := P.ext hE
    replace Q := Q.ext hE
    replace G := G.ext hE
    replace I := I.ext hE
    clear hE
    have A' := A
    have B' := B
    have X' := X
    have Y' := Y
    have P' := P
    have Q' := Q
    have G' := G
    have I' := I
    obtain ⟨A0, A1, A2, A3⟩ := A
    have zA := cell_lt A0
    dsimp only at zA
    obtain ⟨B0, B1, B2, B3⟩ := B
    have zB := cell_lt B0
    dsimp only at zB
    obtain ⟨X0, X1, X2, X3⟩ := X
    have zX := cell_lt X0
    dsimp only at zX
    obtain ⟨Y0, Y1, Y2, Y3⟩ := Y
    have zY := cell_lt Y0
    dsimp only at zY
    obtain ⟨P0, P1, P2, P3⟩ := P
    have zP := cell_lt P0
    dsimp only at zP
    obtain ⟨Q0, Q1, Q2, Q3⟩ := Q
    have zQ := cell_lt Q0
    dsimp only at zQ
    obtain ⟨G0, G1, G2, G3⟩ := G
    have zG := cell_lt G0
    dsimp only at zG
    obtain ⟨I0, I1, I2, I3⟩ := I
    have zI := cell_lt I0
    dsimp only at zI
    go_wp2
    clear A0 A1 A2 A3 zA B0 B1 B2 B3 zB X0 X1 X2 X3 zX Y0 Y1 Y2 Y3 zY P0 P1 P2 P3 zP Q0 Q1 Q2 Q3 zQ G0 G1 G2 G3 zG I0 I1 I2 I3 zI
    have A := A'
    clear A'
    have B := B'
    clear B'
    have X := X'
    clear X'
    have Y := Y'
    clear Y'
    have P := P'
    clear P'
    have Q := Q'
    clear Q'
    have G := G'
    clear G'
    have I := I'
    clear I'
    have hD : Ext w19 w19.drew := extA
    replace E := E.trans hD
    replace A := A.ext hD
    replace B := B.ext hD
    replace X := X.ext hD
    replace Y := Y.ext hD
    replace P := P.ext hD
    replace Q := Q.ext hD
    replace G := G.ext hD
    replace I := I.ext hD
    have hS : w19.drew.cell? ⟨bP, 0, none⟩ = some (.int .i64 s0) ∧ w19.drew.cell? ⟨bP, 1, none⟩ = some (.int .i64 s1) ∧ w19.drew.cell? ⟨bQ, 0, none⟩ = some (txt x0) ∧ w19.drew.cell? ⟨bQ, 1, none⟩ = some (txt x1) ∧ w19.drew.cell? ⟨bG, 0, none⟩ = some (.int .i64 g0) ∧ w19.drew.cell? ⟨bG, 1, none⟩ = some (.int .i64 g1) ∧ w19.drew.cell? ⟨bI, 0, none⟩ = some (txt y0) ∧ w19.drew.cell? ⟨bI, 1, none⟩ = some (txt y1) := ⟨P.c0, P.c1, Q.c0, Q.c1, G.c0, G.c1, I.c0, I.c1⟩
    refine wp_region_heldE 99 (fun w' => w'.cell? ⟨bP, 0, none⟩ = some (.int .i64 s0) ∧ w'.cell? ⟨bP, 1, none⟩ = some (.int .i64 s1) ∧ w'.cell? ⟨bQ, 0, none⟩ = some (txt x0) ∧ w'.cell? ⟨bQ, 1, none⟩ = some (txt x1) ∧ w'.cell? ⟨bG, 0, none⟩ = some (.int .i64 g0) ∧ w'.cell? ⟨bG, 1, none⟩ = some (.int .i64 g1) ∧ w'.cell? ⟨bI, 0, none⟩ = some (txt y0) ∧ w'.cell? ⟨bI, 1, none⟩ = some (txt y1)) (by kernel_rfl) ?_
    clear hD
    generalize w19.drew = w20 at A B X Y P Q G I E hS ⊢
    ((refine eTk 0 ?_); (refine eTk 1 ?_); (refine eTk 2 ?_); (refine eTk 3 ?_); (refine eTk 4 ?_); (refine eTk 5 ?_); (refine eTk 6 ?_); (refine eTk 7 ?_); (refine eTk 8 ?_); (refine eTk 9 ?_); (refine eTk 10 ?_); (refine eTk 11 ?_); (refine eTk 12 ?_); (refine eTk 13 ?_); (refine eTk 15 ?_))
    (refine wpAnyE_one (i := 14) (o := ?_) ?_ (by kernel_rfl) (fun K hK => ?_); rotate_left; (focus ((simp only [List.getElem?_toArray, List.getElem?_cons_succ, List.getElem?_cons_zero]; exact rfl))); go_simp; go_at_call 63; refine (Dp3.out _).mono ?_; rintro e w21 ⟨rfl, hE⟩; go_wp2_with fail; refine hK.out _ _ ?_ (fun hHeld => ?_); rotate_left; clear hK K; (try simp only [Act.put, List.setIfInBounds_toArray, List.set_cons_zero, List.set_cons_succ]))
    rotate_left
    · exact ⟨hE.cell hS.1, hE.cell hS.2.1, hE.cell hS.2.2.1, hE.cell hS.2.2.2.1, hE.cell hS.2.2.2.2.1, hE.cell hS.2.2.2.2.2.1, hE.cell hS.2.2.2.2.2.2.1, hE.cell hS.2.2.2.2.2.2.2⟩
    clear hHeld Dp3
    replace E := E.trans hE
    replace A := A.ext hE
    replace B := B.ext hE
    replace X := X.ext hE
    replace Y := Y.ext hE
    replace P := P.ext hE
    replace Q := Q.ext hE
    replace G := G.ext hE
    replace I := I.ext hE
    replace hS : w21.cell? ⟨bP, 0, none⟩ = some (.int .i64 s0) ∧ w21.cell? ⟨bP, 1, none⟩ = some (.int .i64 s1) ∧ w21.cell? ⟨bQ, 0, none⟩ = some (txt x0) ∧ w21.cell? ⟨bQ, 1, none⟩ = some (txt x1) ∧ w21.cell? ⟨bG, 0, none⟩ = some (.int .i64 g0) ∧ w21.cell? ⟨bG, 1, none⟩ = some (.int .i64 g1) ∧ w21.cell? ⟨bI, 0, none⟩ = some (txt y0) ∧ w21.cell? ⟨bI, 1, none⟩ = some (txt y1) := ⟨hE.cell hS.1, hE.cell hS.2.1, hE.cell hS.2.2.1, hE.cell hS.2.2.2.1, hE.cell hS.2.2.2.2.1, hE.cell hS.2.2.2.2.2.1, hE.cell hS.2.2.2.2.2.2.1, hE.cell hS.2.2.2.2.2.2.2⟩
    clear hE
    ((refine eTk 16 ?_); (refine eTk 17 ?_); (refine eTk 18 ?_); (refine eTk 19 ?_); (refine eTk 21 ?_))
    (refine wpAnyE_one (i := 20) (o := ?_) ?_ (by kernel_rfl) (fun K hK => ?_); rotate_left; (focus ((simp only [List.getElem?_toArray, List.getElem?_cons_succ, List.getElem?_cons_zero]; exact rfl))); go_simp; go_at_call 63; refine (Dp4.out _).mono ?_; rintro e w22 ⟨rfl, hE⟩; go_wp2_with fail; refine hK.out _ _ ?_ (fun hHeld => ?_); rotate_left; clear hK K; (try simp only [Act.put, List.setIfInBounds_toArray, List.set_cons_zero, List.set_cons_succ]))
    rotate_left
    · exact ⟨hE.cell hS.1, hE.cell hS.2.1, hE.cell hS.2.2.1, hE.cell hS.2.2.2.1, hE.cell hS.2.2.2.2.1, hE.cell hS.2.2.2.2.2.1, hE.cell hS.2.2.2.2.2.2.1, hE.cell hS.2.2.2.2.2.2.2⟩
    clear hHeld Dp4
    replace E := E.trans hE
    replace A := A.ext hE
    replace B := B.ext hE
    replace X := X.ext hE
    replace Y := Y.ext hE
    replace P := P.ext hE
    replace Q := Q.ext hE
    replace G := G.ext hE
    replace I := I.ext hE
    replace hS : w22.cell? ⟨bP, 0, none⟩ = some (.int .i64 s0) ∧ w22.cell? ⟨bP, 1, none⟩ = some (.int .i64 s1) ∧ w22.cell? ⟨bQ, 0, none⟩ = some (txt x0) ∧ w22.cell? ⟨bQ, 1, none⟩ = some (txt x1) ∧ w22.cell? ⟨bG, 0, none⟩ = some (.int .i64 g0) ∧ w22.cell? ⟨bG, 1, none⟩ = some (.int .i64 g1) ∧ w22.cell? ⟨bI, 0, none⟩ = some (txt y0) ∧ w22.cell? ⟨bI, 1, none⟩ = some (txt y1) := ⟨hE.cell hS.1, hE.cell hS.2.1, hE.cell hS.2.2.1, hE.cell hS.2.2.2.1, hE.cell hS.2.2.2.2.1, hE.cell hS.2.2.2.2.2.1, hE.cell hS.2.2.2.2.2.2.1, hE.cell hS.2.2.2.2.2.2.2⟩
    clear hE
    ((refine eTk 22 ?_); (refine eTk 23 ?_); (refine eTk 24 ?_); (refine eTk 25 ?_); (refine eTk 26 ?_); (refine eTk 27 ?_); (refine eTk 28 ?_))
    refine wpAnyE_done (by kernel_rfl) ?_ _
    clear hS
    clear P Q G I
    have A' := A
    have B' := B
    have X' := X
    have Y' := Y
    obtain ⟨A0, A1, A2, A3⟩ := A
    have zA := cell_lt A0
    dsimp only at zA
    obtain ⟨B0, B1, B2, B3⟩ := B
    have zB := cell_lt B0
    dsimp only at zB
    obtain ⟨X0, X1, X2, X3⟩ := X
    have zX := cell_lt X0
    dsimp only at zX
    obtain ⟨Y0, Y1, Y2, Y3⟩ := Y
    have zY := cell_lt Y0
    dsimp only at zY
    go_wp2_with fail
    clear A0 A1 A2 A3 zA B0 B1 B2 B3 zB X0 X1 X2 X3 zX Y0 Y1 Y2 Y3 zY
    have A := A'
    clear A'
    have B := B'
    clear B'
    have X := X'
    clear X'
    have Y := Y'
    clear Y'
    refine (Dm.out _).mono ?_
    clear Dm
    rintro e w23 ⟨rfl, hE⟩
    replace E := E.trans hE
    replace A := A.ext hE
    replace B := B.ext hE
    replace X := X.ext hE
    replace Y := Y.ext hE
    clear hE
    have A' := A
    have B' := B
    have X' := X
    have Y' := Y
    obtain ⟨A0, A1, A2, A3⟩ := A
    have zA := cell_lt A0
    dsimp only at zA
    obtain ⟨B0, B1, B2, B3⟩ := B
    have zB := cell_lt B0
    dsimp only at zB
    obtain ⟨X0, X1, X2, X3⟩ := X
    have zX := cell_lt X0
    dsimp only at zX
    obtain ⟨Y0, Y1, Y2, Y3⟩ := Y
    have zY := cell_lt Y0
    dsimp only at zY
    have K : IntsAt (w23.heap.size) (w23.alloc (.cells #[.int .i64 q0, .int .i64 q1] 82)) q0 q1 := ⟨by go_simp, by go_simp, by go_simp, by go_simp⟩
    have EA : Ext w23 (w23.alloc (.cells #[.int .i64 q0, .int .i64 q1] 82)) := extA
    replace A' := A'.ext EA
    replace B' := B'.ext EA
    replace X' := X'.ext EA
    replace Y' := Y'.ext EA
    replace E := E.trans EA
    clear EA
    go_wp2_with fail
    clear A0 A1 A2 A3 zA B0 B1 B2 B3 zB X0 X1 X2 X3 zX Y0 Y1 Y2 Y3 zY
    have A := A'
    clear A'
    have B := B'
    clear B'
    have X := X'
    clear X'
    have Y := Y'
    clear Y'
    obtain ⟨bK, hbK⟩ : ∃ b, b = w23.heap.size := ⟨_, rfl⟩
    rw [← hbK] at K  ⊢
    generalize (w23.alloc (.cells #[.int .i64 q0, .int .i64 q1] 82)) = w24 at A B X Y K E ⊢
    clear hbK
    refine (Dz.out _ E).mono ?_
    clear Dz
    rintro e w25 ⟨rfl, hE⟩
    replace E := E.trans hE
    replace A := A.ext hE
    replace B := B.ext hE
    replace X := X.ext hE
    replace Y := Y.ext hE
    replace K := K.ext hE
    clear hE
    have A' := A
    have B' := B
    have X' := X
    have Y' := Y
    have K' := K
    obtain ⟨A0, A1, A2, A3⟩ := A
    have zA := cell_lt A0
    dsimp only at zA
    obtain ⟨B0, B1, B2, B3⟩ := B
    have zB := cell_lt B0
    dsimp only at zB
    obtain ⟨X0, X1, X2, X3⟩ := X
    have zX := cell_lt X0
    dsimp only at zX
    obtain ⟨Y0, Y1, Y2, Y3⟩ := Y
    have zY := cell_lt Y0
    dsimp only at zY
    obtain ⟨K0, K1, K2, K3⟩ := K
    have zK := cell_lt K0
    dsimp only at zK
    have L : EncAt (w25.heap.size) (w25.alloc (.cells #[txt z0, txt z1] 24)) z0 z1 := ⟨by go_simp, by go_simp, by go_simp, by go_simp⟩
    have EA : Ext w25 (w25.alloc (.cells #[txt z0, txt z1] 24)) := extA
    replace A' := A'.ext EA
    replace B' := B'.ext EA
    replace X' := X'.ext EA
    replace Y' := Y'.ext EA
    replace K' := K'.ext EA
    replace E := E.trans EA
    clear EA
    go_wp2_with fail
    clear A0 A1 A2 A3 zA B0 B1 B2 B3 zB X0 X1 X2 X3 zX Y0 Y1 Y2 Y3 zY K0 K1 K2 K3 zK
    have A := A'
    clear A'
    have B := B'
    clear B'
    have X := X'
    clear X'
    have Y := Y'
    clear Y'
    have K := K'
    clear K'
    obtain ⟨bL, hbL⟩ : ∃ b, b = w25.heap.size := ⟨_, rfl⟩
    rw [← hbL] at L  ⊢
    generalize (w25.alloc (.cells #[txt z0, txt z1] 24)) = w26 at A B X Y K L E ⊢
    clear hbL
    refine (Di.out _).mono ?_
    clear Di
    rintro e w27 ⟨rfl, hE⟩
    replace E := E.trans hE
    replace A := A.ext hE
    replace B := B.ext hE
    replace X := X.ext hE
    replace Y := Y.ext hE
    replace K := K.ext hE
    replace L := L.ext hE
    clear hE
    have A' := A
    have B' := B
    have X' := X
    have Y' := Y
    have K' := K
    have L' := L
    obtain ⟨A0, A1, A2, A3⟩ := A
    have zA := cell_lt A0
    dsimp only at zA
    obtain ⟨B0, B1, B2, B3⟩ := B
    have zB := cell_lt B0
    dsimp only at zB
    obtain ⟨X0, X1, X2, X3⟩ := X
    have zX := cell_lt X0
    dsimp only at zX
    obtain ⟨Y0, Y1, Y2, Y3⟩ := Y
    have zY := cell_lt Y0
    dsimp only at zY
    obtain ⟨K0, K1, K2, K3⟩ := K
    have zK := cell_lt K0
    dsimp only at zK
    obtain ⟨L0, L1, L2, L3⟩ := L
    have zL := cell_lt L0
    dsimp only at zL
    go_wp2_with fail
    clear A0 A1 A2 A3 zA B0 B1 B2 B3 zB X0 X1 X2 X3 zX Y0 Y1 Y2 Y3 zY K0 K1 K2 K3 zK L0 L1 L2 L3 zL
    have A := A'
    clear A'
    have B := B'
    clear B'
    have X := X'
    clear X'
    have Y := Y'
    clear Y'
    have K := K'
    clear K'
    have L := L'
    clear L'
    refine (Dj.out _ E).mono ?_
    clear Dj
    rintro e w28 ⟨rfl, hE⟩
    replace E := E.trans hE
    replace A := A.ext hE
    replace B := B.ext hE
    replace X := X.ext hE
    replace Y := Y.ext hE
    replace K := K.ext hE
    replace L := L.ext hE
    clear hE
    have A' := A
    have B' := B
    have X' := X
    have Y' := Y
    have K' := K
    have L' := L
    obtain ⟨A0, A1, A2, A3⟩ := A
    have zA := cell_lt A0
    dsimp only at zA
    obtain ⟨B0, B1, B2, B3⟩ := B
    have zB := cell_lt B0
    dsimp only at zB
    obtain ⟨X0, X1, X2, X3⟩ := X
    have zX := cell_lt X0
    dsimp only at zX
    obtain ⟨Y0, Y1, Y2, Y3⟩ := Y
    have zY := cell_lt Y0
    dsimp only at zY
    obtain ⟨K0, K1, K2, K3⟩ := K
    have zK := cell_lt K0
    dsimp only at zK
    obtain ⟨L0, L1, L2, L3⟩ := L
    have zL := cell_lt L0
    dsimp only at zL
    go_wp2
    clear A0 A1 A2 A3 zA B0 B1 B2 B3 zB X0 X1 X2 X3 zX Y0 Y1 Y2 Y3 zY K0 K1 K2 K3 zK L0 L1 L2 L3 zL
    have A := A'
    clear A'
    have B := B'
    clear B'
    have X := X'
    clear X'
    have Y := Y'
    clear Y'
    have K := K'
    clear K'
    have L := L'
    clear L'
    clear A B X Y
    cases ok
    · have hD : Ext w28 w28.drew := extA
      replace E := E.trans hD
      replace K := K.ext hD
      replace L := L.ext hD
      have hS : w28.drew.cell? ⟨bK, 0, none⟩ = some (.int .i64 q0) ∧ w28.drew.cell? ⟨bK, 1, none⟩ = some (.int .i64 q1) ∧ w28.drew.cell? ⟨bL, 0, none⟩ = some (txt z0) ∧ w28.drew.cell? ⟨bL, 1, none⟩ = some (txt z1) := ⟨K.c0, K.c1, L.c0, L.c1⟩
      refine wp_region_heldE 99 (fun w' => w'.cell? ⟨bK, 0, none⟩ = some (.int .i64 q0) ∧ w'.cell? ⟨bK, 1, none⟩ = some (.int .i64 q1) ∧ w'.cell? ⟨bL, 0, none⟩ = some (txt z0) ∧ w'.cell? ⟨bL, 1, none⟩ = some (txt z1)) (by kernel_rfl) ?_
      clear hD
      generalize w28.drew = w29 at K L E hS ⊢
      ((refine eTk 0 ?_); (refine eTk 1 ?_); (refine eTk 2 ?_); (refine eTk 3 ?_); (refine eTk 4 ?_); (refine eTk 5 ?_); (refine eTk 6 ?_); (refine eTk 7 ?_); (refine eTk 8 ?_); (refine eTk 9 ?_); (refine eTk 10 ?_); (refine eTk 11 ?_); (refine eTk 12 ?_); (refine eTk 13 ?_); (refine eTk 14 ?_); (refine eTk 15 ?_); (refine eTk 16 ?_))
      refine wpAnyE_take (i := 17) (oi := ?_) (v := undef) ?_ (by kernel_rfl) ?_ ?_ (by assumption) ?_
      rotate_left
      focus (simp only [List.getElem?_toArray, List.getElem?_cons_succ, List.getElem?_cons_zero]; exact rfl)
      focus (exact fun _ _ _ h => h)
      focus (exact Or.inr ⟨by rfl, rfl⟩)
      (try simp only [Act.put, List.setIfInBounds_toArray, List.set_cons_zero, List.set_cons_succ])
      refine wpAnyE_take (i := 18) (oi := ?_) (v := undef) ?_ (by kernel_rfl) ?_ ?_ (by assumption) ?_
      rotate_left
      focus (simp only [List.getElem?_toArray, List.getElem?_cons_succ, List.getElem?_cons_zero]; exact rfl)
      focus (exact fun _ _ _ h => h)
      focus (exact Or.inr ⟨by rfl, rfl⟩)
      (try simp only [Act.put, List.setIfInBounds_toArray, List.set_cons_zero, List.set_cons_succ])
      refine wpAnyE_take (i := 19) (oi := ?_) (v := undef) ?_ (by kernel_rfl) ?_ ?_ (by assumption) ?_
      rotate_left
      focus (simp only [List.getElem?_toArray, List.getElem?_cons_succ, List.getElem?_cons_zero]; exact rfl)
      focus (exact fun _ _ _ h => h)
      focus (exact Or.inr ⟨by rfl, rfl⟩)
      (try simp only [Act.put, List.setIfInBounds_toArray, List.set_cons_zero, List.set_cons_succ])
      refine wpAnyE_take (i := 20) (oi := ?_) (v := undef) ?_ (by kernel_rfl) ?_ ?_ (by assumption) ?_
      rotate_left
      focus (simp only [List.getElem?_toArray, List.getElem?_cons_succ, List.getElem?_cons_zero]; exact rfl)
      focus (exact fun _ _ _ h => h)
      focus (exact Or.inr ⟨by rfl, rfl⟩)
      (try simp only [Act.put, List.setIfInBounds_toArray, List.set_cons_zero, List.set_cons_succ])
      ((refine eTk 21 ?_); (refine eTk 22 ?_); (refine eTk 23 ?_); (refine eTk 24 ?_); (refine eTk 25 ?_); (refine eTk 26 ?_); (refine eTk 27 ?_); (refine eTk 28 ?_))
      (refine wpAnyE_one (i := 29) (o := ?_) ?_ (by kernel_rfl) (fun K hK => ?_); rotate_left; (focus ((simp only [List.getElem?_toArray, List.getElem?_cons_succ, List.getElem?_cons_zero]; exact rfl))); go_simp; go_at_call 56; refine (Df.out _ E).mono ?_; rintro e w30 ⟨rfl, hE⟩; go_wp2_with fail; refine hK.out _ _ ?_ (fun hHeld => ?_); rotate_left; clear hK K; (try simp only [Act.put, List.setIfInBounds_toArray, List.set_cons_zero, List.set_cons_succ]))
      rotate_left
      · exact ⟨hE.cell hS.1, hE.cell hS.2.1, hE.cell hS.2.2.1, hE.cell hS.2.2.2⟩
      clear hHeld Df
      replace E := E.trans hE
      replace K := K.ext hE
      replace L := L.ext hE
      replace hS : w30.cell? ⟨bK, 0, none⟩ = some (.int .i64 q0) ∧ w30.cell? ⟨bK, 1, none⟩ = some (.int .i64 q1) ∧ w30.cell? ⟨bL, 0, none⟩ = some (txt z0) ∧ w30.cell? ⟨bL, 1, none⟩ = some (txt z1) := ⟨hE.cell hS.1, hE.cell hS.2.1, hE.cell hS.2.2.1, hE.cell hS.2.2.2⟩
      clear hE
      ((refine eTk 30 ?_); (refine eTk 31 ?_))
      refine wpAnyE_done (by kernel_rfl) ?_ _
      go_wp2_with fail
      go_ret
      exact ⟨rfl, E⟩
    · have Dp6 : Hid (∀ W, Calls Tryz.prog 63 #[.agg #[.int .i64 q0, .int .i64 q1]] W fun e w' => e = .returned (.agg #[txt z0, txt z1]) ∧ Ext W w') := Dp5.out rfl
      clear Dp5
      have hD : Ext w28 w28.drew := extA
      replace E := E.trans hD
      replace K := K.ext hD
      replace L := L.ext hD
      have hS : w28.drew.cell? ⟨bK, 0, none⟩ = some (.int .i64 q0) ∧ w28.drew.cell? ⟨bK, 1, none⟩ = some (.int .i64 q1) ∧ w28.drew.cell? ⟨bL, 0, none⟩ = some (txt z0) ∧ w28.drew.cell? ⟨bL, 1, none⟩ = some (txt z1) := ⟨K.c0, K.c1, L.c0, L.c1⟩
      refine wp_region_heldE 99 (fun w' => w'.cell? ⟨bK, 0, none⟩ = some (.int .i64 q0) ∧ w'.cell? ⟨bK, 1, none⟩ = some (.int .i64 q1) ∧ w'.cell? ⟨bL, 0, none⟩ = some (txt z0) ∧ w'.cell? ⟨bL, 1, none⟩ = some (txt z1)) (by kernel_rfl) ?_
      clear hD
      generalize w28.drew = w29 at K L E hS ⊢
      ((refine eTk 0 ?_); (refine eTk 1 ?_); (refine eTk 2 ?_); (refine eTk 3 ?_); (refine eTk 4 ?_); (refine eTk 5 ?_); (refine eTk 6 ?_); (refine eTk 7 ?_); (refine eTk 8 ?_); (refine eTk 9 ?_); (refine eTk 10 ?_); (refine eTk 11 ?_); (refine eTk 12 ?_); (refine eTk 13 ?_); (refine eTk 14 ?_); (refine eTk 15 ?_); (refine eTk 16 ?_); (refine eTk 17 ?_); (refine eTk 19 ?_))
      (refine wpAnyE_one (i := 18) (o := ?_) ?_ (by kernel_rfl) (fun K hK => ?_); rotate_left; (focus ((simp only [List.getElem?_toArray, List.getElem?_cons_succ, List.getElem?_cons_zero]; exact rfl))); go_simp; go_at_call 63; refine (Dp6.out _).mono ?_; rintro e w30 ⟨rfl, hE⟩; go_wp2_with fail; refine hK.out _ _ ?_ (fun hHeld => ?_); rotate_left; clear hK K; (try simp only [Act.put, List.setIfInBounds_toArray, List.set_cons_zero, List.set_cons_succ]))
      rotate_left
      · exact ⟨hE.cell hS.1, hE.cell hS.2.1, hE.cell hS.2.2.1, hE.cell hS.2.2.2⟩
      clear hHeld Dp6
      replace E := E.trans hE
      replace K := K.ext hE
      replace L := L.ext hE
      replace hS : w30.cell? ⟨bK, 0, none⟩ = some (.int .i64 q0) ∧ w30.cell? ⟨bK, 1, none⟩ = some (.int .i64 q1) ∧ w30.cell? ⟨bL, 0, none⟩ = some (txt z0) ∧ w30.cell? ⟨bL, 1, none⟩ = some (txt z1) := ⟨hE.cell hS.1, hE.cell hS.2.1, hE.cell hS.2.2.1, hE.cell hS.2.2.2⟩
      clear hE
      ((refine eTk 20 ?_); (refine eTk 21 ?_); (refine eTk 22 ?_); (refine eTk 23 ?_); (refine eTk 24 ?_); (refine eTk 25 ?_); (refine eTk 26 ?_); (refine eTk 27 ?_); (refine eTk 28 ?_))
      (refine wpAnyE_one (i := 29) (o := ?_) ?_ (by kernel_rfl) (fun K hK => ?_); rotate_left; (focus ((simp only [List.getElem?_toArray, List.getElem?_cons_succ, List.getElem?_cons_zero]; exact rfl))); go_simp; go_at_call 56; refine (Df.out _ E).mono ?_; rintro e w31 ⟨rfl, hE⟩; go_wp2_with fail; refine hK.out _ _ ?_ (fun hHeld => ?_); rotate_left; clear hK K; (try simp only [Act.put, List.setIfInBounds_toArray, List.set_cons_zero, List.set_cons_succ]))
      rotate_left
      · exact ⟨hE.cell hS.1, hE.cell hS.2.1, hE.cell hS.2.2.1, hE.cell hS.2.2.2⟩
      clear hHeld Df
      replace E := E.trans hE
      replace K := K.ext hE
      replace L := L.ext hE
      replace hS : w31.cell? ⟨bK, 0, none⟩ = some (.int .i64 q0) ∧ w31.cell? ⟨bK, 1, none⟩ = some (.int .i64 q1) ∧ w31.cell? ⟨bL, 0, none⟩ = some (txt z0) ∧ w31.cell? ⟨bL, 1, none⟩ = some (txt z1) := ⟨hE.cell hS.1, hE.cell hS.2.1, hE.cell hS.2.2.1, hE.cell hS.2.2.2⟩
      clear hE
      ((refine eTk 30 ?_); (refine eTk 31 ?_))
      refine wpAnyE_done (by kernel_rfl) ?_ _
      go_wp2_with fail
      go_ret
      exact ⟨rfl, E⟩
end Go.Proofs.YtdejgaiocjfhjaaGreatDoor
