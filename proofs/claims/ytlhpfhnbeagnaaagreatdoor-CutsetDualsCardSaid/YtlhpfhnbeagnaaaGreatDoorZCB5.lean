/- Steps of the proof: FDiv, FQuoP, FQuoR, FShaR, FFrac, FNum, FFit, FOrd, FSpec, FGlob, FInt, FRead, FFmt, FBld, FText, FDigR, FRedR, FTxtR, FSplR, FSig. No conditions. -/
import Derived.Lib.SlTrimSet
import Derived.Shelf.Strings.SlTrimAscii
import Derived.Test.YtlhpfhnbeagnaaaGreatDoorZCB1
import Derived.Test.YtlhpfhnbeagnaaaGreatDoorZCB2
import Derived.Test.YtlhpfhnbeagnaaaGreatDoorZCB3
import Derived.Test.YtlhpfhnbeagnaaaGreatDoorZCB4
namespace Go.Proofs.YtlhpfhnbeagnaaaGreatDoor
open Go.RowKit
def readN (w : World) (a : Option Addr) (n : Nat) : List Nat := (List.range n).map fun i => match a with
  | some p => (match w.cell? ⟨p.block, p.off + i, none⟩ with | some (.int _ z) => z.toNat | _ => 0)
  | none => 0
theorem readN_eq {k : IntKind} {w : World} {a : Option Addr} {l : List Nat} (h : CellsN k w a l) : readN w a l.length = l := by
  apply List.ext_getElem (by simp [readN])
  intro i h1 h2
  obtain ⟨b, off, rfl, hc⟩ := h i h2
  simp [readN, hc, List.getD_eq_getElem?_getD, h2]
def natOf (w : World) : Value → Nat
  | .slice a n _ => valB 1000000000 (readN w a n)
  | _ => 0
theorem ordN_ge {a b : Nat} : 0 ≤ ordN a b ↔ b ≤ a := by
  unfold ordN
  by_cases h : a < b
  · rw [if_pos h]; omega
  · rw [if_neg h]
    by_cases k : b < a
    · rw [if_pos k]; omega
    · rw [if_neg k]; omega
def NewC (x : Nat) (w : World) (e : Ending) (w' : World) : Prop := ∃ a c, e = .returned (.slice a (toB 1000000000 x).length c) ∧ CellsN .u64 w' a (toB 1000000000 x) ∧ Ext w w'
theorem OwnNPost.newC {x : Nat} {w : World} {e : Ending} {w' : World} (h : OwnNPost .u64 153 (toB 1000000000 x) w e w') : NewC x w e w' := by
  obtain ⟨v, h1, h2, _, h4⟩ := h
  obtain ⟨a, c, rfl, h5, _⟩ := h2.reads
  exact ⟨a, c, h1, h5, h4⟩
theorem natOf_eq {w : World} {a : Option Addr} {x c : Nat} (h : CellsN .u64 w a (toB 1000000000 x)) : natOf w (.slice a (toB 1000000000 x).length c) = x := by
  unfold natOf
  simp only
  rw [readN_eq h, valB_toB (by omega)]
theorem len_pos {x : Nat} (h : x ≠ 0) : 0 < (toB 1000000000 x).length := by rw [toB_pos (by omega) h]; simp
theorem len_zero {x : Nat} (h : x = 0) : (toB 1000000000 x).length = 0 := by rw [h, toB_zero]; rfl
theorem len_le {x : Nat} (h : x < 1000000000 ^ 101) : (toB 1000000000 x).length ≤ 101 := toB_len (by omega) 101 h
theorem lt_of_len {l : List Nat} {x : Nat} (h : l = toB 1000000000 x) (hl : l.length ≤ 100) : x < 1000000000 ^ 100 := by
  have h1 := valB_lt (okB_toB (B := 1000000000) (by omega) x)
  rw [valB_toB (by omega), ← h] at h1
  exact Nat.lt_of_lt_of_le h1 (Nat.pow_le_pow_right (by omega) hl)
theorem pow_le_two {a b c : Nat} (h : 1000000000 ≤ 2 ^ b) (k : b * a ≤ c) : 1000000000 ^ a ≤ 2 ^ c := by
  have h1 := Nat.pow_le_pow_left h a
  rw [← Nat.pow_mul] at h1
  exact Nat.le_trans h1 (Nat.pow_le_pow_right (by omega) k)
theorem GcdI.t_lt_of {x y a b t N k : Nat} (h : GcdI x y a b t) (hxy : x + y < 1000000000 ^ k) (hN : 30 * k ≤ N) : t < N := by
  have h1 : 2 ^ t ≤ (a + b) * 2 ^ t := Nat.le_mul_of_pos_left _ h.pos
  have h2 : 2 ^ t < 1000000000 ^ k := Nat.lt_of_le_of_lt (Nat.le_trans h1 h.le) hxy
  have h3 : 1000000000 ^ k ≤ 2 ^ N := pow_le_two (b := 30) (by omega) hN
  exact (Nat.pow_lt_pow_iff_right (by omega)).1 (Nat.lt_of_lt_of_le h2 h3)
theorem GcdI.t_lt {x y a b t : Nat} (h : GcdI x y a b t) (hxy : x + y < 1000000000 ^ 101) : t < 5000 := h.t_lt_of hxy (by omega)
theorem GcdI.ab_le {x y a b t : Nat} (h : GcdI x y a b t) : a + b ≤ x + y := Nat.le_trans (Nat.le_mul_of_pos_right _ (Nat.pow_pos (by omega))) h.le
structure DivW (x y : Nat) (w0 : World) (va vb : Value) (a b t : Nat) (w : World) : Prop where
  g : GcdI x y a b t
  a : ∃ pa pc, va = .slice pa (toB 1000000000 a).length pc ∧ CellsN .u64 w pa (toB 1000000000 a)
  b : ∃ qa qc, vb = .slice qa (toB 1000000000 b).length qc ∧ CellsN .u64 w qa (toB 1000000000 b)
  e : Ext w0 w
set_option maxHeartbeats 8000000 in
set_option maxRecDepth 100000 in
theorem divisor_any (x y : Nat) (la lb : List Nat) (a b : Option Addr) (ca cb : Nat) (w : World) (hx : la = toB 1000000000 x) (hy : lb = toB 1000000000 y) (hxy : 0 < x + y)
    (hla : la.length ≤ 100) (hlb : lb.length ≤ 100) (ha : CellsN .u64 w a la) (hb : CellsN .u64 w b lb) :
    Calls Tryz.prog 139 #[.slice a la.length ca, .slice b lb.length cb] w (OwnNPost .u64 153 (toB 1000000000 (Nat.gcd x y)) w) := by
  have hxl := lt_of_len hx hla
  have hyl := lt_of_len hy hlb
  have hxyB : x + y < 1000000000 ^ 101 := by
    have : (1000000000 : Nat) ^ 101 = 1000000000 * 1000000000 ^ 100 := by rw [Nat.pow_succ, Nat.mul_comm]
    omega
  subst hx hy
  have HXY := Lib.hid hxyB
  have W0 : Hid (DivW x y w (.slice a (toB 1000000000 x).length ca) (.slice b (toB 1000000000 y).length cb) x y 0 w) := ⟨GcdI.start hxy, ⟨_, _, rfl, ha⟩, ⟨_, _, rfl, hb⟩, Ext.refl _⟩
  clear hxl hyl hxyB ha hb hxy
  generalize Value.slice a (toB 1000000000 x).length ca = va0 at W0 ⊢
  generalize Value.slice b (toB 1000000000 y).length cb = vb0 at W0 ⊢
  clear hla hlb
  go_enter Tryz.func139, Tryz.ntmps139
  go_wp2
  go_loopw [0, 1, 5] (fun va vb tw wr => ∃ (p q t : Nat), tw = .int .i64 (t : Int) ∧ Hid (DivW x y w va vb p q t wr)) (fun va vb _ wr => natOf wr va + natOf wr vb)
  case atStart => exact ⟨x, y, 0, rfl, W0.out⟩
  case round =>
    obtain ⟨p, q, t, rfl, HW⟩ := hrel
    obtain ⟨hg, ⟨pa, pc, rfl, hpc⟩, ⟨qa, qc, rfl, hqc⟩, he⟩ := HW.out
    have hpq := hg.ab_le
    have hxb := HXY.out
    have hpl := len_le (x := p) (by omega)
    have hql := len_le (x := q) (by omega)
    have ht := hg.t_lt hxb
    have HM : Hid (natOf wr (.slice pa (toB 1000000000 p).length pc) + natOf wr (.slice qa (toB 1000000000 q).length qc) = p + q) := by
      show _ = _
      rw [natOf_eq hpc, natOf_eq hqc]
    have HG := Lib.hid hg
    have HP := Lib.hid hpc
    have HQ := Lib.hid hqc
    have HE := Lib.hid he
    clear hpc hqc hxb hpq W0 HW
    by_cases h0 : p = 0 ∨ q = 0
    · have HD : Hid (2 ^ t * (p + q) = Nat.gcd x y) := hg.done h0
      have HLE : Hid (∀ k, k ≤ t → (toB 1000000000 (2 ^ k * (p + q))).length ≤ 101) := fun k hk => len_le (by
        have h1 : 2 ^ k * (p + q) ≤ 2 ^ t * (p + q) := Nat.mul_le_mul_right _ (Nat.pow_le_pow_right (by omega) hk)
        have h2 := hg.le
        rw [Nat.mul_comm] at h2
        have := HXY.out
        omega)
      have H0 : Hid (2 ^ 0 * (p + q) = p + q) := by show _ = _; simp
      have hlen : (toB 1000000000 p).length = 0 ∨ (0 < (toB 1000000000 p).length ∧ (toB 1000000000 q).length = 0) := by
        rcases h0 with h | h
        · exact .inl (len_zero h)
        · by_cases hp : p = 0
          · exact .inl (len_zero hp)
          · exact .inr ⟨len_pos hp, len_zero h⟩
      have HPL := Lib.hid (show ∀ W, Ext wr W → _ from fun W hW => plus_any p q _ _ pa qa pc qc W rfl rfl (by omega) (by omega) (HP.out.ext hW) (HQ.out.ext hW))
      generalize (toB 1000000000 p).length = lp at *
      generalize (toB 1000000000 q).length = lq at *
      have HZ : Hid (∀ v W, OwnsN .u64 153 W v (toB 1000000000 (p + q)) → OwnsN .u64 153 W v (toB 1000000000 (2 ^ 0 * (p + q)))) := fun v W h => by rw [H0.out]; exact h
      have HS : Hid (∀ k, 2 ^ k * (p + q) + 2 ^ k * (p + q) = 2 ^ (k + 1) * (p + q)) := fun k => two_pow_step k _
      generalize p + q = g at *
      clear h0 hg HM HG HP HQ H0
      rcases hlen with h | ⟨h1, h2⟩
      · subst h
        go_wp2_with fail
        refine (HPL.out _ extA).mono ?_
        rintro e w1 ⟨ov, rfl, O1, N1, E1⟩
        have HO1 := Lib.hid (HZ.out _ _ O1)
        have HN1 : Hid (∀ b, ov.ownBlock = some b → w.heap.size ≤ b) := fun b hb => Nat.le_trans he.size (N1 b hb)
        have F1 := he.trans E1
        clear O1 N1 E1 HPL HZ he
        go_wp2
        go_loopw [6, 53] (fun v i wl => ∃ (k : Nat) (vv : Value), v = vv ∧ i = .int .i64 (k : Int) ∧ k ≤ t ∧ Hid (OwnsN .u64 153 wl vv (toB 1000000000 (2 ^ k * g))) ∧ Hid (∀ b, vv.ownBlock = some b → w.heap.size ≤ b) ∧ Ext w wl) (fun _ i _ => t - (intOf i).toNat)
        case atStart => exact ⟨0, _, rfl, rfl, Nat.zero_le _, HO1.out, HN1.out, F1⟩
        case round =>
          obtain ⟨k, vv, hvv, rfl, hk, HO, HN, he⟩ := hrel
          obtain rfl := hvv.symm
          obtain ⟨oa, oc, rfl, hoc, _, _⟩ := HO.out.reads
          have HOC := Lib.hid hoc
          have hl := HLE.out k hk
          clear hoc HO1 HN1 F1
          by_cases hkt : k < t
          · have hki : (k : Int) < (t : Int) := by omega
            have HPP := Lib.hid (plus_any (2 ^ k * g) (2 ^ k * g) _ _ oa oa oc oc wr rfl rfl (by omega) (by omega) HOC.out HOC.out)
            rw [HS.out] at HPP
            generalize (toB 1000000000 (2 ^ k * g)).length = lk at *
            clear HO HOC hl
            go_wp2_with fail
            refine HPP.out.mono ?_
            rintro e w5 ⟨v5, rfl, O5, N5, E5⟩
            have HO5 := Lib.hid O5
            have HN5 : Hid (∀ b, v5.ownBlock = some b → w.heap.size ≤ b) := fun b hb => Nat.le_trans he.size (N5 b hb)
            have F5 := he.trans E5
            clear O5 N5 E5 HPP HN he
            go_wp2
            refine ⟨⟨k + 1, v5, rfl, by go_num, by omega, HO5, HN5, F5⟩, by simp [intOf]; omega⟩
          · have hke : k = t := by omega
            have hki : ¬ (k : Int) < (t : Int) := by omega
            have HF : Hid (OwnsN .u64 153 wr (.slice oa (toB 1000000000 (2 ^ k * g)).length oc) (toB 1000000000 (Nat.gcd x y))) := by
              show OwnsN _ _ _ _ _
              have h1 := HO.out
              have h2 := HD.out
              rw [← hke] at h2
              rw [← h2]
              exact h1
            generalize (toB 1000000000 (2 ^ k * g)).length = lk at *
            clear HO HOC hl hke
            go_wp2
            go_ret
            exact ⟨_, rfl, HF.out, HN.out, he⟩
      · subst h2
        have h3 : (0 : Int) < (lp : Int) := by omega
        go_wp2_with fail
        refine (HPL.out _ extA).mono ?_
        rintro e w1 ⟨ov, rfl, O1, N1, E1⟩
        have HO1 := Lib.hid (HZ.out _ _ O1)
        have HN1 : Hid (∀ b, ov.ownBlock = some b → w.heap.size ≤ b) := fun b hb => Nat.le_trans he.size (N1 b hb)
        have F1 := he.trans E1
        clear O1 N1 E1 HPL HZ he
        go_wp2
        go_loopw [6, 53] (fun v i wl => ∃ (k : Nat) (vv : Value), v = vv ∧ i = .int .i64 (k : Int) ∧ k ≤ t ∧ Hid (OwnsN .u64 153 wl vv (toB 1000000000 (2 ^ k * g))) ∧ Hid (∀ b, vv.ownBlock = some b → w.heap.size ≤ b) ∧ Ext w wl) (fun _ i _ => t - (intOf i).toNat)
        case atStart => exact ⟨0, _, rfl, rfl, Nat.zero_le _, HO1.out, HN1.out, F1⟩
        case round =>
          obtain ⟨k, vv, hvv, rfl, hk, HO, HN, he⟩ := hrel
          obtain rfl := hvv.symm
          obtain ⟨oa, oc, rfl, hoc, _, _⟩ := HO.out.reads
          have HOC := Lib.hid hoc
          have hl := HLE.out k hk
          clear hoc HO1 HN1 F1
          by_cases hkt : k < t
          · have hki : (k : Int) < (t : Int) := by omega
            have HPP := Lib.hid (plus_any (2 ^ k * g) (2 ^ k * g) _ _ oa oa oc oc wr rfl rfl (by omega) (by omega) HOC.out HOC.out)
            rw [HS.out] at HPP
            generalize (toB 1000000000 (2 ^ k * g)).length = lk at *
            clear HO HOC hl
            go_wp2_with fail
            refine HPP.out.mono ?_
            rintro e w5 ⟨v5, rfl, O5, N5, E5⟩
            have HO5 := Lib.hid O5
            have HN5 : Hid (∀ b, v5.ownBlock = some b → w.heap.size ≤ b) := fun b hb => Nat.le_trans he.size (N5 b hb)
            have F5 := he.trans E5
            clear O5 N5 E5 HPP HN he
            go_wp2
            refine ⟨⟨k + 1, v5, rfl, by go_num, by omega, HO5, HN5, F5⟩, by simp [intOf]; omega⟩
          · have hke : k = t := by omega
            have hki : ¬ (k : Int) < (t : Int) := by omega
            have HF : Hid (OwnsN .u64 153 wr (.slice oa (toB 1000000000 (2 ^ k * g)).length oc) (toB 1000000000 (Nat.gcd x y))) := by
              show OwnsN _ _ _ _ _
              have h1 := HO.out
              have h2 := HD.out
              rw [← hke] at h2
              rw [← h2]
              exact h1
            generalize (toB 1000000000 (2 ^ k * g)).length = lk at *
            clear HO HOC hl hke
            go_wp2
            go_ret
            exact ⟨_, rfl, HF.out, HN.out, he⟩
    · have hp0 : p ≠ 0 := fun e => h0 (.inl e)
      have hq0 : q ≠ 0 := fun e => h0 (.inr e)
      have lp := len_pos hp0
      have lq := len_pos hq0
      have lpi : (0 : Int) < ((toB 1000000000 p).length : Int) := by omega
      have lqi : (0 : Int) < ((toB 1000000000 q).length : Int) := by omega
      obtain ⟨fp, hfp⟩ : ∃ f, f = decide (p % 2 = 0) := ⟨_, rfl⟩
      obtain ⟨fq, hfq⟩ : ∃ f, f = decide (q % 2 = 0) := ⟨_, rfl⟩
      have HEp : Hid (∀ W, Ext wr W → Calls Tryz.prog 158 #[.slice pa (toB 1000000000 p).length pc] W fun e w' => e = .returned (.bool fp) ∧ Ext W w') := fun W hW => by
        rw [hfp]; exact even_any p _ pa pc W rfl (HP.out.ext hW) (by omega)
      have HEq : Hid (∀ W, Ext wr W → Calls Tryz.prog 158 #[.slice qa (toB 1000000000 q).length qc] W fun e w' => e = .returned (.bool fq) ∧ Ext W w') := fun W hW => by
        rw [hfq]; exact even_any q _ qa qc W rfl (HQ.out.ext hW) (by omega)
      have HHp : Hid (∀ W, Ext wr W → Calls Tryz.prog 159 #[.slice pa (toB 1000000000 p).length pc] W (NewC (p / 2) W)) := fun W hW =>
        (half_any p _ pa pc W rfl (by omega) lp (HP.out.ext hW)).mono fun _ _ h => h.newC
      have HHq : Hid (∀ W, Ext wr W → Calls Tryz.prog 159 #[.slice qa (toB 1000000000 q).length qc] W (NewC (q / 2) W)) := fun W hW =>
        (half_any q _ qa qc W rfl (by omega) lq (HQ.out.ext hW)).mono fun _ _ h => h.newC
      clear h0
      cases fp
      · have hpo : p % 2 ≠ 0 := fun e => by rw [e] at hfp; simp at hfp
        cases fq
        · have hqo : q % 2 ≠ 0 := fun e => by rw [e] at hfq; simp at hfq
          clear hfp hfq
          by_cases hle : q ≤ p
          · obtain ⟨z, hz, hz0⟩ : ∃ z, ordN p q = z ∧ 0 ≤ z := ⟨_, rfl, ordN_ge.2 hle⟩
            have HCC : Hid (∀ W, Ext wr W → Calls Tryz.prog 138 #[.slice pa (toB 1000000000 p).length pc, .slice qa (toB 1000000000 q).length qc] W fun e w' => e = .returned (.int .i64 z) ∧ Ext W w') := fun W hW => by
              rw [← hz]; exact compare_any p q _ _ pa qa pc qc W rfl rfl (by omega) (by omega) (HP.out.ext hW) (HQ.out.ext hW)
            have HMM : Hid (∀ W, Ext wr W → Calls Tryz.prog 142 #[.slice pa (toB 1000000000 p).length pc, .slice qa (toB 1000000000 q).length qc] W (NewC (p - q) W)) := fun W hW =>
              (minus_any p q _ _ pa qa pc qc W rfl rfl hle (by omega) (HP.out.ext hW) (HQ.out.ext hW)).mono fun _ _ h => h.newC
            have HG2 := Lib.hid (hg.less (by omega) hle)
            have hms : p - q + q < p + q := by omega
            clear hz hg hle hpo hqo he
            go_wp2_with (first
          | (go_at_call 158; (with_reducible refine (HEp.out _ extA).mono ?_); rintro e w' ⟨rfl, hE⟩)
          | (go_at_call 158; (with_reducible refine (HEq.out _ extA).mono ?_); rintro e w' ⟨rfl, hE⟩)
          | (go_at_call 159; (with_reducible refine (HHp.out _ extA).mono ?_); rintro e w' ⟨na, nc, rfl, hCp, hE⟩)
          | (go_at_call 159; (with_reducible refine (HHq.out _ extA).mono ?_); rintro e w' ⟨ma, mc, rfl, hCq, hE⟩)
          | (go_at_call 138; (with_reducible refine (HCC.out _ extA).mono ?_); rintro e w' ⟨rfl, hE⟩)
          | (go_at_call 142; (with_reducible refine (HMM.out _ extA).mono ?_); rintro e w' ⟨na, nc, rfl, hCp, hE⟩))
            have hEE : Ext wr w' := extA
            have hQ2 := HQ.out.ext hEE
            refine ⟨⟨_, _, _, rfl, HG2.out, ⟨_, _, rfl, hCp⟩, ⟨_, _, rfl, hQ2⟩, HE.out.trans hEE⟩, ?_⟩
            show natOf w' _ + natOf w' _ < natOf wr _ + natOf wr _
            rw [HM.out, natOf_eq hCp, natOf_eq hQ2]
            exact hms
          · have hlt : p ≤ q := by omega
            obtain ⟨z, hz, hz0⟩ : ∃ z, ordN p q = z ∧ ¬ 0 ≤ z := ⟨_, rfl, fun h => hle (ordN_ge.1 h)⟩
            have HCC : Hid (∀ W, Ext wr W → Calls Tryz.prog 138 #[.slice pa (toB 1000000000 p).length pc, .slice qa (toB 1000000000 q).length qc] W fun e w' => e = .returned (.int .i64 z) ∧ Ext W w') := fun W hW => by
              rw [← hz]; exact compare_any p q _ _ pa qa pc qc W rfl rfl (by omega) (by omega) (HP.out.ext hW) (HQ.out.ext hW)
            have HMM : Hid (∀ W, Ext wr W → Calls Tryz.prog 142 #[.slice qa (toB 1000000000 q).length qc, .slice pa (toB 1000000000 p).length pc] W (NewC (q - p) W)) := fun W hW =>
              (minus_any q p _ _ qa pa qc pc W rfl rfl hlt (by omega) (HQ.out.ext hW) (HP.out.ext hW)).mono fun _ _ h => h.newC
            have HG2 := Lib.hid (hg.less' (by omega) hlt)
            have hms : p + (q - p) < p + q := by omega
            clear hz hg hle hpo hqo he hlt
            go_wp2_with (first
          | (go_at_call 158; (with_reducible refine (HEp.out _ extA).mono ?_); rintro e w' ⟨rfl, hE⟩)
          | (go_at_call 158; (with_reducible refine (HEq.out _ extA).mono ?_); rintro e w' ⟨rfl, hE⟩)
          | (go_at_call 159; (with_reducible refine (HHp.out _ extA).mono ?_); rintro e w' ⟨na, nc, rfl, hCp, hE⟩)
          | (go_at_call 159; (with_reducible refine (HHq.out _ extA).mono ?_); rintro e w' ⟨ma, mc, rfl, hCq, hE⟩)
          | (go_at_call 138; (with_reducible refine (HCC.out _ extA).mono ?_); rintro e w' ⟨rfl, hE⟩)
          | (go_at_call 142; (with_reducible refine (HMM.out _ extA).mono ?_); rintro e w' ⟨na, nc, rfl, hCp, hE⟩))
            have hEE : Ext wr w' := extA
            have hP2 := HP.out.ext hEE
            have hQ2 := hCp
            refine ⟨⟨_, _, _, by go_num, HG2.out, ⟨_, _, rfl, hP2⟩, ⟨_, _, rfl, hQ2⟩, HE.out.trans hEE⟩, ?_⟩
            show natOf w' _ + natOf w' _ < natOf wr _ + natOf wr _
            rw [HM.out, natOf_eq hP2, natOf_eq hQ2]
            exact hms
        · have hqe : q % 2 = 0 := of_decide_eq_true hfq.symm
          have HG2 := Lib.hid (hg.right (by omega) hpo hqe)
          have hms : p + q / 2 < p + q := by omega
          have HCC : Hid True := trivial
          have HMM : Hid True := trivial
          clear hg he hfp hfq hpo hqe
          go_wp2_with (first
          | (go_at_call 158; (with_reducible refine (HEp.out _ extA).mono ?_); rintro e w' ⟨rfl, hE⟩)
          | (go_at_call 158; (with_reducible refine (HEq.out _ extA).mono ?_); rintro e w' ⟨rfl, hE⟩)
          | (go_at_call 159; (with_reducible refine (HHp.out _ extA).mono ?_); rintro e w' ⟨na, nc, rfl, hCp, hE⟩)
          | (go_at_call 159; (with_reducible refine (HHq.out _ extA).mono ?_); rintro e w' ⟨ma, mc, rfl, hCq, hE⟩)
          | (go_at_call 138; (with_reducible refine (HCC.out _ extA).mono ?_); rintro e w' ⟨rfl, hE⟩)
          | (go_at_call 142; (with_reducible refine (HMM.out _ extA).mono ?_); rintro e w' ⟨na, nc, rfl, hCp, hE⟩))
          have hEE : Ext wr w' := extA
          have hP2 := HP.out.ext hEE
          have hQ2 := hCq
          refine ⟨⟨_, _, _, by go_num, HG2.out, ⟨_, _, rfl, hP2⟩, ⟨_, _, rfl, hQ2⟩, HE.out.trans hEE⟩, ?_⟩
          show natOf w' _ + natOf w' _ < natOf wr _ + natOf wr _
          rw [HM.out, natOf_eq hP2, natOf_eq hQ2]
          exact hms
      · have hpe : p % 2 = 0 := of_decide_eq_true hfp.symm
        cases fq
        · have hqo : q % 2 ≠ 0 := fun e => by rw [e] at hfq; simp at hfq
          have HG2 := Lib.hid (hg.left (by omega) hpe hqo)
          have hms : p / 2 + q < p + q := by omega
          have HCC : Hid True := trivial
          have HMM : Hid True := trivial
          clear hg he hfp hfq hpe hqo
          go_wp2_with (first
          | (go_at_call 158; (with_reducible refine (HEp.out _ extA).mono ?_); rintro e w' ⟨rfl, hE⟩)
          | (go_at_call 158; (with_reducible refine (HEq.out _ extA).mono ?_); rintro e w' ⟨rfl, hE⟩)
          | (go_at_call 159; (with_reducible refine (HHp.out _ extA).mono ?_); rintro e w' ⟨na, nc, rfl, hCp, hE⟩)
          | (go_at_call 159; (with_reducible refine (HHq.out _ extA).mono ?_); rintro e w' ⟨ma, mc, rfl, hCq, hE⟩)
          | (go_at_call 138; (with_reducible refine (HCC.out _ extA).mono ?_); rintro e w' ⟨rfl, hE⟩)
          | (go_at_call 142; (with_reducible refine (HMM.out _ extA).mono ?_); rintro e w' ⟨na, nc, rfl, hCp, hE⟩))
          have hEE : Ext wr w' := extA
          have hP2 := hCp
          have hQ2 := HQ.out.ext hEE
          refine ⟨⟨_, _, _, by go_num, HG2.out, ⟨_, _, rfl, hP2⟩, ⟨_, _, rfl, hQ2⟩, HE.out.trans hEE⟩, ?_⟩
          show natOf w' _ + natOf w' _ < natOf wr _ + natOf wr _
          rw [HM.out, natOf_eq hP2, natOf_eq hQ2]
          exact hms
        · have hqe : q % 2 = 0 := of_decide_eq_true hfq.symm
          have HG2 := Lib.hid (hg.both (by omega) hpe hqe)
          have hms : p / 2 + q / 2 < p + q := by omega
          have HCC : Hid True := trivial
          have HMM : Hid True := trivial
          clear hg he hfp hfq hpe hqe
          go_wp2_with (first
          | (go_at_call 158; (with_reducible refine (HEp.out _ extA).mono ?_); rintro e w' ⟨rfl, hE⟩)
          | (go_at_call 158; (with_reducible refine (HEq.out _ extA).mono ?_); rintro e w' ⟨rfl, hE⟩)
          | (go_at_call 159; (with_reducible refine (HHp.out _ extA).mono ?_); rintro e w' ⟨na, nc, rfl, hCp, hE⟩)
          | (go_at_call 159; (with_reducible refine (HHq.out _ extA).mono ?_); rintro e w' ⟨ma, mc, rfl, hCq, hE⟩)
          | (go_at_call 138; (with_reducible refine (HCC.out _ extA).mono ?_); rintro e w' ⟨rfl, hE⟩)
          | (go_at_call 142; (with_reducible refine (HMM.out _ extA).mono ?_); rintro e w' ⟨na, nc, rfl, hCp, hE⟩))
          have hEE : Ext wr w' := extA
          have hP2 := hCp.ext hE
          have hQ2 := hCq
          refine ⟨⟨_, _, _, by go_num, HG2.out, ⟨_, _, rfl, hP2⟩, ⟨_, _, rfl, hQ2⟩, HE.out.trans hEE⟩, ?_⟩
          show natOf w' _ + natOf w' _ < natOf wr _ + natOf wr _
          rw [HM.out, natOf_eq hP2, natOf_eq hQ2]
          exact hms
end Go.Proofs.YtlhpfhnbeagnaaaGreatDoor
namespace Go.Proofs.YtlhpfhnbeagnaaaGreatDoor
open Go.RowKit
theorem OwnsN.cells {k : IntKind} {t : TypeId} {w : World} {a : Option Addr} {n c : Nat} {l : List Nat} (h : OwnsN k t w (.slice a n c) l) : CellsN k w a l := by
  obtain ⟨a', c', e, h1, _⟩ := h.reads
  cases e
  exact h1
structure QuoI (B : Nat) (a : List Nat) (m i r : Nat) (q : List Nat) : Prop where
  ov : OverI B a m i r q
  zr : ∀ j, j < i → q.getD j 0 = 0
theorem QuoI.start {B : Nat} (hB : 2 ≤ B) (a : List Nat) {m : Nat} (hm : 0 < m) : QuoI B a m a.length 0 (List.replicate a.length 0) :=
  ⟨OverI.start hB a hm, fun j hj => by rw [List.getD_eq_getElem?_getD, List.getElem?_replicate]; split <;> rfl⟩
theorem QuoI.skip {B : Nat} (hB : 2 ≤ B) {a : List Nat} (ha : OkB B a) {m i r : Nat} {q : List Nat} (h : QuoI B a m (i + 1) r q) (hi : i < a.length) (hs : a.getD i 0 + B * r < m) : QuoI B a m i (a.getD i 0 + B * r) q := by
  obtain ⟨_, h2⟩ := h.ov.next hB ha hi
  rw [Nat.mod_eq_of_lt hs, Nat.div_eq_of_lt hs] at h2
  have e : q.set i 0 = q := by
    apply List.ext_getElem?
    intro j
    rw [List.getElem?_set]
    by_cases hj : i = j
    · subst hj
      have hl : i < q.length := by rw [h.ov.len]; exact hi
      have hz := h.zr i (by omega)
      rw [List.getD_eq_getElem?_getD, List.getElem?_eq_getElem hl] at hz
      rw [if_pos rfl, if_pos hl, List.getElem?_eq_getElem hl]
      exact congrArg some hz.symm
    · rw [if_neg hj]
  rw [e] at h2
  exact ⟨h2, fun j hj => h.zr j (by omega)⟩
theorem QuoI.step {B : Nat} (hB : 2 ≤ B) {a : List Nat} (ha : OkB B a) {m i r x : Nat} {q : List Nat} (h : QuoI B a m (i + 1) r q) (hi : i < a.length)
    (h1 : m * x ≤ a.getD i 0 + B * r) (h2 : a.getD i 0 + B * r < m * (x + 1)) : QuoI B a m i (a.getD i 0 + B * r - m * x) (q.set i x) := by
  obtain ⟨_, h3⟩ := h.ov.next hB ha hi
  have e1 : (a.getD i 0 + B * r) / m = x := by
    refine Nat.div_eq_of_lt_le ?_ ?_
    · rw [Nat.mul_comm x m]; exact h1
    · rw [Nat.mul_comm (x + 1) m]; exact h2
  have e2 : (a.getD i 0 + B * r) % m = a.getD i 0 + B * r - m * x := by
    have e := Nat.div_add_mod (a.getD i 0 + B * r) m
    rw [e1] at e
    omega
  rw [e1, e2] at h3
  refine ⟨h3, fun j hj => ?_⟩
  rw [List.getD_eq_getElem?_getD, List.getElem?_set, if_neg (by omega), ← List.getD_eq_getElem?_getD]
  exact h.zr j (by omega)
end Go.Proofs.YtlhpfhnbeagnaaaGreatDoor
namespace Go.Proofs.YtlhpfhnbeagnaaaGreatDoor
open Go.RowKit
end Go.Proofs.YtlhpfhnbeagnaaaGreatDoor
namespace Go.Proofs.YtlhpfhnbeagnaaaGreatDoor
open Go.RowKit
structure ShaW (x y : Nat) (w0 : World) (va vb : Value) (a b : Nat) (w : World) : Prop where
  g : Nat.gcd a b = Nat.gcd x y
  la : (toB 1000000 a).length ≤ 100
  lb : (toB 1000000 b).length ≤ 100
  a : ∃ pa pc, va = .slice pa (toB 1000000 a).length pc ∧ CellsN .i64 w pa (toB 1000000 a)
  b : ∃ qa qc, vb = .slice qa (toB 1000000 b).length qc ∧ CellsN .i64 w qa (toB 1000000 b)
  e : Ext w0 w
end Go.Proofs.YtlhpfhnbeagnaaaGreatDoor
namespace Go.Proofs.YtlhpfhnbeagnaaaGreatDoor
open Go.Lib (decDigits itoa)
def negS (s : List UInt8) : Bool := s.head? == some 45
def bareS (s : List UInt8) : List UInt8 := if negS s then s.tail else s
def IntS (s : List UInt8) : Prop := CanonL (bareS s) ∧ s ≠ [45, 48]
instance (s : List UInt8) : Decidable (IntS s) := by unfold IntS; infer_instance
def intV (s : List UInt8) : Int := if negS s then -(decV (bareS s) : Int) else decV (bareS s)
def intE (s : List UInt8) : Nat := if ¬ IntS s then 3 else if 60 < (bareS s).length then 11 else 0
theorem intV_abs (s : List UInt8) : (intV s).natAbs = decV (bareS s) := by unfold intV; split <;> omega
theorem canon_pos {s : List UInt8} (h : CanonL s) : negS s = false := by
  unfold negS
  cases s with
  | nil => rfl
  | cons c s =>
    have h1 := h.1 c (List.mem_cons_self ..)
    have h2 : c ≠ 45 := fun e => by rw [e] at h1; simp at h1
    simpa using h2
theorem canon_zero {s : List UInt8} (h : CanonL s) (h0 : decV s = 0) : s = [48] := by
  rw [← canon_back h, h0, digits_small (by omega)]; rfl
theorem bare_pos {s : List UInt8} (h : negS s = false) : bareS s = s := by unfold bareS; rw [h]; rfl
theorem neg_cons {s : List UInt8} (h : negS s = true) : s = 45 :: bareS s := by
  unfold bareS
  rw [if_pos h]
  unfold negS at h
  cases s with
  | nil => cases h
  | cons c s => simp at h; subst h; rfl
theorem int_back {s : List UInt8} (h : IntS s) : itoa (intV s) = s := by
  obtain ⟨h1, h2⟩ := h
  unfold intV
  cases hn : negS s
  · rw [if_neg (by simp), Go.Lib.itoa_nonneg, canon_back h1, bare_pos hn]
  · have h3 := neg_cons hn
    have h4 : decV (bareS s) ≠ 0 := fun e => h2 (by rw [h3, canon_zero h1 e])
    rw [if_pos rfl, Go.Lib.itoa_neg _ (by omega), canon_back h1, ← h3]
theorem itoa_eq (n : Int) : itoa n = if n < 0 then 45 :: decDigits n.natAbs else decDigits n.natAbs := by
  unfold itoa
  split
  · rfl
  · congr 1; omega
theorem itoa_bare (n : Int) : negS (itoa n) = decide (n < 0) ∧ bareS (itoa n) = decDigits n.natAbs := by
  rw [itoa_eq]
  by_cases h : n < 0
  · rw [if_pos h, decide_eq_true h]
    exact ⟨rfl, rfl⟩
  · rw [if_neg h, decide_eq_false h]
    have h1 := canon_pos (canon_digits n.natAbs)
    exact ⟨h1, bare_pos h1⟩
theorem int_of (n : Int) : IntS (itoa n) ∧ intV (itoa n) = n := by
  obtain ⟨h1, h2⟩ := itoa_bare n
  refine ⟨⟨h2 ▸ canon_digits _, ?_⟩, ?_⟩
  · intro e
    rw [e] at h1 h2
    have h3 : n < 0 := by
      have : negS [45, 48] = true := rfl
      rw [this] at h1
      exact of_decide_eq_true h1.symm
    have h4 : decV (bareS [45, 48]) = 0 := by rfl
    rw [h2, (digits_ok _).2.1] at h4
    omega
  · unfold intV
    rw [h1, h2, (digits_ok _).2.1]
    by_cases h : n < 0
    · rw [decide_eq_true h, if_pos rfl]; omega
    · rw [decide_eq_false h, if_neg (by simp)]; omega
def topS (a : List UInt8) : List UInt8 := a.takeWhile (· != 47)
def lowS (a : List UInt8) : List UInt8 := if 47 ∈ a then (a.dropWhile (· != 47)).tail else [49]
def fracE (a : List UInt8) : Nat :=
  if intE (topS a) = 3 ∨ intE (lowS a) = 3 then 3
  else if intE (topS a) ≠ 0 ∨ intE (lowS a) ≠ 0 then 11
  else if 47 ∉ a then 0
  else if negS (lowS a) = true ∨ decV (lowS a) ≤ 1 ∨ Nat.gcd (decV (bareS (topS a))) (decV (lowS a)) ≠ 1 then 3
  else 0
def fracQ (a : List UInt8) : Rat := mkRat (intV (topS a)) (decV (lowS a))
def fracT (q : Rat) : List UInt8 := itoa q.num ++ (if q.den = 1 then [] else 47 :: decDigits q.den)
theorem split_none {a : List UInt8} (h : 47 ∉ a) : topS a = a ∧ lowS a = [49] := by
  refine ⟨?_, by unfold lowS; rw [if_neg h]⟩
  unfold topS
  induction a with
  | nil => rfl
  | cons c a ih =>
    have h1 : c ≠ 47 := fun e => h (by rw [e]; exact List.mem_cons_self ..)
    have h2 : 47 ∉ a := fun e => h (List.mem_cons_of_mem _ e)
    rw [List.takeWhile_cons, if_pos (by simpa using h1), ih h2]
theorem split_app (s t : List UInt8) (h : 47 ∉ s) : topS (s ++ 47 :: t) = s ∧ lowS (s ++ 47 :: t) = t := by
  unfold topS lowS
  rw [if_pos (by simp)]
  induction s with
  | nil => exact ⟨by simp, by simp⟩
  | cons c s ih =>
    have h1 : c ≠ 47 := fun e => h (by rw [e]; exact List.mem_cons_self ..)
    have h2 : 47 ∉ s := fun e => h (List.mem_cons_of_mem _ e)
    obtain ⟨i1, i2⟩ := ih h2
    rw [List.cons_append, List.takeWhile_cons, if_pos (by simpa using h1), List.dropWhile_cons, if_pos (by simpa using h1), i1, i2]
    exact ⟨rfl, rfl⟩
theorem split_some {a : List UInt8} (h : 47 ∈ a) : a = topS a ++ 47 :: lowS a := by
  unfold topS lowS
  rw [if_pos h]
  induction a with
  | nil => cases h
  | cons c a ih =>
    by_cases h1 : c = 47
    · subst h1; simp
    · have h2 : 47 ∈ a := (List.mem_cons.1 h).resolve_left (fun e => h1 e.symm)
      rw [List.takeWhile_cons, if_pos (by simpa using h1), List.dropWhile_cons, if_pos (by simpa using h1), List.cons_append, ← ih h2]
theorem intE_zero {s : List UInt8} (h : intE s = 0) : IntS s ∧ (intV s).natAbs < 10 ^ 60 := by
  unfold intE at h
  split at h
  · cases h
  · rename_i h1
    split at h
    · cases h
    · rename_i h2
      have h1 : IntS s := Decidable.not_not.1 h1
      refine ⟨h1, ?_⟩
      rw [intV_abs]
      exact Nat.lt_of_lt_of_le (decV_lt h1.1.1) (Nat.pow_le_pow_right (by omega) (by omega))
theorem intE_of {n : Int} (h : n.natAbs < 10 ^ 60) : intE (itoa n) = 0 := by
  unfold intE
  rw [if_neg (not_not_intro (int_of n).1), (itoa_bare n).2, if_neg]
  have := (digits_len_le n.natAbs 60 (by omega)).2 h
  omega
theorem intE_ofNat {n : Nat} (h : n < 10 ^ 60) : intE (decDigits n) = 0 := by
  have := intE_of (n := (n : Int)) (by simpa using h)
  rwa [Go.Lib.itoa_nonneg] at this
theorem decV_one : decV [49] = 1 := rfl
theorem frac_parts {a : List UInt8} (h : fracE a = 0) : IntS (topS a) ∧ (intV (topS a)).natAbs < 10 ^ 60 ∧ CanonL (lowS a) ∧
    0 < decV (lowS a) ∧ decV (lowS a) < 10 ^ 60 ∧ Nat.gcd (intV (topS a)).natAbs (decV (lowS a)) = 1 ∧ (47 ∈ a ↔ decV (lowS a) ≠ 1) := by
  unfold fracE at h
  split at h
  · cases h
  · rename_i h1
    split at h
    · cases h
    · rename_i h2
      obtain ⟨h3, h4⟩ := intE_zero (Decidable.not_not.1 fun e => h2 (Or.inl e))
      obtain ⟨h5, h6⟩ := intE_zero (Decidable.not_not.1 fun e => h2 (Or.inr e))
      split at h
      · rename_i h7
        have h8 := (split_none h7).2
        rw [h8]
        refine ⟨h3, h4, by decide, by decide, by decide, by rw [decV_one, Nat.gcd_one_right], ?_⟩
        exact ⟨fun e => absurd e h7, fun e => absurd decV_one e⟩
      · rename_i h7
        split at h
        · cases h
        · rename_i h8
          simp only [not_or, Nat.not_le, Decidable.not_not] at h8 h7
          obtain ⟨k1, k2, k3⟩ := h8
          have k1 : negS (lowS a) = false := by simpa using k1
          have k4 := bare_pos k1
          rw [intV_abs, k4] at h6
          have k5 := h5.1
          rw [k4] at k5
          refine ⟨h3, h4, k5, by omega, h6, by rw [intV_abs]; exact k3, ⟨fun _ => by omega, fun _ => h7⟩⟩
theorem frac_num {a : List UInt8} (h : fracE a = 0) : (fracQ a).num = intV (topS a) ∧ (fracQ a).den = decV (lowS a) := by
  obtain ⟨_, _, _, h4, _, h6, _⟩ := frac_parts h
  unfold fracQ
  rw [Rat.num_mkRat, Rat.den_mkRat, if_neg (by omega), if_neg (by omega), Nat.gcd_comm, h6]
  exact ⟨by simp, by simp⟩
theorem frac_back {a : List UInt8} (h : fracE a = 0) : fracT (fracQ a) = a := by
  obtain ⟨h1, _, h3, _, _, _, h7⟩ := frac_parts h
  obtain ⟨k1, k2⟩ := frac_num h
  unfold fracT
  rw [k1, k2, int_back h1, canon_back h3]
  by_cases hs : 47 ∈ a
  · rw [if_neg (h7.1 hs)]
    exact (split_some hs).symm
  · rw [if_pos (Decidable.not_not.1 fun e => hs (h7.2 e)), List.append_nil]
    exact (split_none hs).1
theorem no_slash (n : Int) : 47 ∉ itoa n := by
  rw [itoa_eq]
  have h1 : (47 : UInt8) ∉ decDigits n.natAbs := fun h => by
    have := (digits_ok n.natAbs).1 47 h
    simp at this
  split
  · intro h
    rcases List.mem_cons.1 h with h | h
    · cases h
    · exact h1 h
  · exact h1
def FitQ (q : Rat) : Prop := q.num.natAbs < 10 ^ 60 ∧ q.den < 10 ^ 60
instance (q : Rat) : Decidable (FitQ q) := by unfold FitQ; infer_instance
theorem frac_fit {a : List UInt8} (h : fracE a = 0) : FitQ (fracQ a) := by
  obtain ⟨_, h2, _, _, h5, _, _⟩ := frac_parts h
  obtain ⟨k1, k2⟩ := frac_num h
  unfold FitQ
  rw [k1, k2]; exact ⟨h2, h5⟩
theorem frac_of {q : Rat} (h : FitQ q) : fracE (fracT q) = 0 ∧ fracQ (fracT q) = q := by
  obtain ⟨h1, h2⟩ := h
  have hr := q.reduced
  have hd := q.den_nz
  have e : topS (fracT q) = itoa q.num ∧ lowS (fracT q) = decDigits q.den ∧ (47 ∈ fracT q ↔ q.den ≠ 1) := by
    unfold fracT
    by_cases h3 : q.den = 1
    · rw [if_pos h3, List.append_nil, h3]
      obtain ⟨a, b⟩ := split_none (no_slash q.num)
      exact ⟨a, b.trans (digits_small (n := 1) (by omega)).symm, ⟨fun e => absurd e (no_slash _), fun e => absurd rfl e⟩⟩
    · rw [if_neg h3]
      obtain ⟨a, b⟩ := split_app (itoa q.num) (decDigits q.den) (no_slash q.num)
      exact ⟨a, b, ⟨fun _ => h3, fun _ => by simp⟩⟩
  obtain ⟨e1, e2, e3⟩ := e
  constructor
  · unfold fracE
    rw [e1, e2, intE_of h1, intE_ofNat h2, if_neg (by simp), if_neg (by simp), (itoa_bare q.num).2, (digits_ok _).2.1, (digits_ok _).2.1]
    split
    · rfl
    · rename_i h4
      rw [if_neg]
      have h5 := e3.1 (Decidable.not_not.1 h4)
      have h6 := canon_pos (canon_digits q.den)
      rintro (h | h | h)
      · rw [h6] at h; cases h
      · omega
      · exact h hr
  · unfold fracQ
    rw [e1, e2, (int_of _).2, (digits_ok _).2.1, Rat.mkRat_self]
theorem frac_inj {a b : List UInt8} (ha : fracE a = 0) (hb : fracE b = 0) (h : fracQ a = fracQ b) : a = b := by
  rw [← frac_back ha, ← frac_back hb, h]
def madeT (q : Rat) : List UInt8 := if FitQ q then fracT q else []
def madeE (q : Rat) : Nat := if FitQ q then 0 else 11
end Go.Proofs.YtlhpfhnbeagnaaaGreatDoor
namespace Go.Proofs.YtlhpfhnbeagnaaaGreatDoor
open Go.Lib (decDigits itoa)
def sgnI (s : Bool) (t : Nat) : Int := if s then -(t : Int) else t
def numQ (s : Bool) (t d : Nat) : Rat := mkRat (sgnI s t) d
theorem sgnI_abs (s : Bool) (t : Nat) : (sgnI s t).natAbs = t := by unfold sgnI; split <;> omega
theorem num_of {s : Bool} {t d : Nat} (hd : d ≠ 0) : (numQ s t d).num = sgnI s (t / Nat.gcd t d) ∧ (numQ s t d).den = d / Nat.gcd t d := by
  unfold numQ
  rw [Rat.num_mkRat, Rat.den_mkRat, if_neg hd, if_neg hd, sgnI_abs, Nat.gcd_comm d t]
  refine ⟨?_, rfl⟩
  unfold sgnI
  cases s
  · simp
  · have h : ((Nat.gcd t d : Nat) : Int) ∣ (t : Int) := Int.natCast_dvd_natCast.2 (Nat.gcd_dvd_left t d)
    simp only [if_true]
    rw [Int.neg_ediv_of_dvd h, ← Int.natCast_ediv]
theorem num_neg (s : Bool) (t d : Nat) : numQ (!s) t d = -numQ s t d := by
  unfold numQ
  rw [Rat.neg_mkRat]
  congr 1
  unfold sgnI
  cases s <;> simp
theorem num_same (s : Bool) (a b c d : Nat) (hb : b ≠ 0) (hd : d ≠ 0) : numQ s (a * d + c * b) (b * d) = numQ s a b + numQ s c d := by
  unfold numQ
  rw [Rat.mkRat_add_mkRat _ _ hb hd]
  congr 1
  unfold sgnI
  cases s
  · simp
  · simp only [if_true]
    rw [Int.natCast_add, Int.natCast_mul, Int.natCast_mul, Int.neg_mul, Int.neg_mul]
    omega
theorem num_less (s u : Bool) (hsu : s ≠ u) (a b c d : Nat) (hb : b ≠ 0) (hd : d ≠ 0) (h : c * b ≤ a * d) :
    numQ s (a * d - c * b) (b * d) = numQ s a b + numQ u c d := by
  unfold numQ
  rw [Rat.mkRat_add_mkRat _ _ hb hd]
  congr 1
  have hu : u = !s := by cases s <;> cases u <;> simp_all
  subst hu
  unfold sgnI
  cases s
  · simp only [Bool.not_false, if_true, Bool.false_eq_true, if_false]
    rw [Int.ofNat_sub h, Int.natCast_mul, Int.natCast_mul, Int.neg_mul]
    omega
  · simp only [Bool.not_true, if_true, Bool.false_eq_true, if_false]
    rw [Int.ofNat_sub h, Int.natCast_mul, Int.natCast_mul, Int.neg_mul]
    omega
theorem num_more (s u : Bool) (hsu : s ≠ u) (a b c d : Nat) (hb : b ≠ 0) (hd : d ≠ 0) (h : a * d ≤ c * b) :
    numQ u (c * b - a * d) (b * d) = numQ s a b + numQ u c d := by
  rw [Nat.mul_comm b d, num_less u s (fun e => hsu e.symm) c d a b hd hb h, Rat.add_comm]
theorem num_mul (s u : Bool) (a b c d : Nat) : numQ (s != u) (a * c) (b * d) = numQ s a b * numQ u c d := by
  unfold numQ
  rw [Rat.mkRat_mul_mkRat]
  congr 1
  unfold sgnI
  cases s <;> cases u <;> simp [Int.neg_mul, Int.mul_neg]
theorem num_text {s : Bool} {t d : Nat} (hd : d ≠ 0) : fracT (numQ s t d) =
    (if s && decide (t / Nat.gcd t d ≠ 0) then 45 :: decDigits (t / Nat.gcd t d) else decDigits (t / Nat.gcd t d)) ++
      (if d / Nat.gcd t d = 1 then [] else 47 :: decDigits (d / Nat.gcd t d)) := by
  obtain ⟨h1, h2⟩ := num_of (s := s) (t := t) hd
  unfold fracT
  rw [h1, h2, itoa_eq, sgnI_abs]
  generalize t / Nat.gcd t d = x
  congr 1
  unfold sgnI
  cases s
  · simp
  · by_cases h : x = 0
    · subst h; simp
    · rw [if_pos (by simp; omega), if_pos (by simpa using h)]
theorem num_fit {s : Bool} {t d : Nat} (hd : d ≠ 0) : FitQ (numQ s t d) ↔
    (decDigits (t / Nat.gcd t d)).length ≤ 60 ∧ (decDigits (d / Nat.gcd t d)).length ≤ 60 := by
  obtain ⟨h1, h2⟩ := num_of (s := s) (t := t) hd
  unfold FitQ
  rw [h1, h2, sgnI_abs, digits_len_le _ _ (by omega), digits_len_le _ _ (by omega)]
theorem num_sign {s : Bool} {t d : Nat} (hd : d ≠ 0) : (numQ s t d).num.sign = if t = 0 then 0 else if s then -1 else 1 := by
  obtain ⟨h1, _⟩ := num_of (s := s) (t := t) hd
  rw [h1]
  have hg : 0 < Nat.gcd t d := Nat.gcd_pos_of_pos_right t (Nat.pos_of_ne_zero hd)
  by_cases h : t = 0
  · subst h
    rw [if_pos rfl, Nat.zero_div]
    unfold sgnI
    cases s <;> rfl
  · rw [if_neg h]
    have h2 : 0 < t / Nat.gcd t d := Nat.div_pos (Nat.le_of_dvd (by omega) (Nat.gcd_dvd_left t d)) hg
    generalize t / Nat.gcd t d = x at h2
    unfold sgnI
    cases s
    · simp only [Bool.false_eq_true, if_false]
      exact Int.sign_eq_one_of_pos (by omega)
    · simp only [if_true]
      exact Int.sign_eq_neg_one_of_neg (by omega)
abbrev Num := Bool × Nat × Nat
def valQ (x : Num) : Rat := numQ x.1 x.2.1 x.2.2
def sumN (x y : Num) : Num :=
  if x.1 = y.1 then (x.1, x.2.1 * y.2.2 + y.2.1 * x.2.2, x.2.2 * y.2.2)
  else if y.2.1 * x.2.2 ≤ x.2.1 * y.2.2 then (x.1, x.2.1 * y.2.2 - y.2.1 * x.2.2, x.2.2 * y.2.2)
  else (y.1, y.2.1 * x.2.2 - x.2.1 * y.2.2, x.2.2 * y.2.2)
def negN (x : Num) : Num := (!x.1, x.2.1, x.2.2)
def mulN (x y : Num) : Num := (x.1 != y.1, x.2.1 * y.2.1, x.2.2 * y.2.2)
theorem sumN_val {x y : Num} (hx : x.2.2 ≠ 0) (hy : y.2.2 ≠ 0) : valQ (sumN x y) = valQ x + valQ y ∧ (sumN x y).2.2 ≠ 0 := by
  obtain ⟨s, a, b⟩ := x
  obtain ⟨u, c, d⟩ := y
  unfold sumN valQ
  dsimp only at *
  have hbd : b * d ≠ 0 := Nat.mul_ne_zero hx hy
  by_cases h : s = u
  · subst h
    rw [if_pos rfl]
    exact ⟨num_same s a b c d hx hy, hbd⟩
  · rw [if_neg h]
    by_cases k : c * b ≤ a * d
    · rw [if_pos k]
      exact ⟨num_less s u h a b c d hx hy k, hbd⟩
    · rw [if_neg k]
      exact ⟨num_more s u h a b c d hx hy (by omega), hbd⟩
theorem negN_val (x : Num) : valQ (negN x) = -valQ x := num_neg _ _ _
theorem mulN_val (x y : Num) : valQ (mulN x y) = valQ x * valQ y := num_mul _ _ _ _ _ _
def numOf (a : List UInt8) : Num := (negS (topS a), decV (bareS (topS a)), decV (lowS a))
theorem numOf_val (a : List UInt8) : valQ (numOf a) = fracQ a := rfl
end Go.Proofs.YtlhpfhnbeagnaaaGreatDoor
namespace Go.Proofs.YtlhpfhnbeagnaaaGreatDoor
open Go.Lib (decDigits itoa)
def FitB (K : Nat) (q : Rat) : Prop := q.num.natAbs < 10 ^ K ∧ q.den < 10 ^ K
theorem FitB.mono {K L : Nat} {q : Rat} (h : FitB K q) (hk : K ≤ L) : FitB L q :=
  ⟨Nat.lt_of_lt_of_le h.1 (Nat.pow_le_pow_right (by omega) hk), Nat.lt_of_lt_of_le h.2 (Nat.pow_le_pow_right (by omega) hk)⟩
theorem FitB.fit {K : Nat} {q : Rat} (h : FitB K q) (hk : K ≤ 60) : FitQ q := h.mono hk
theorem pow_mul_lt {a b K L : Nat} (h : a < 10 ^ K) (k : b < 10 ^ L) : a * b < 10 ^ (K + L) := by
  rw [Nat.pow_add]
  exact Nat.mul_lt_mul'' h k
theorem fit_mk {n : Int} {d K : Nat} (hd : d ≠ 0) (hn : n.natAbs < 10 ^ K) (h : d < 10 ^ K) : FitB K (mkRat n d) := by
  unfold FitB
  rw [Rat.num_mkRat, Rat.den_mkRat, if_neg hd, if_neg hd]
  exact ⟨Nat.lt_of_le_of_lt (Int.natAbs_ediv_le_natAbs _ _) hn, Nat.lt_of_le_of_lt (Nat.div_le_self _ _) h⟩
theorem FitB.mul {K L : Nat} {q r : Rat} (h : FitB K q) (k : FitB L r) : FitB (K + L) (q * r) := by
  rw [Rat.mul_def']
  refine fit_mk (Nat.mul_ne_zero q.den_nz r.den_nz) ?_ (pow_mul_lt h.2 k.2)
  rw [Int.natAbs_mul]
  exact pow_mul_lt h.1 k.1
theorem FitB.add {K L : Nat} {q r : Rat} (h : FitB K q) (k : FitB L r) : FitB (K + L + 1) (q + r) := by
  rw [Rat.add_def']
  have h1 := pow_mul_lt h.1 k.2
  have h2 := pow_mul_lt h.2 k.1
  have h3 := pow_mul_lt h.2 k.2
  have e : 10 ^ (K + L + 1) = 10 * 10 ^ (K + L) := by rw [Nat.pow_succ, Nat.mul_comm]
  refine fit_mk (Nat.mul_ne_zero q.den_nz r.den_nz) ?_ (by omega)
  have h4 := Int.natAbs_add_le (q.num * r.den) (r.num * q.den)
  rw [Int.natAbs_mul, Int.natAbs_mul] at h4
  simp only [Int.natAbs_natCast] at h4
  rw [Nat.mul_comm r.num.natAbs] at h4
  omega
theorem FitB.neg {K : Nat} {q : Rat} (h : FitB K q) : FitB K (-q) := by
  unfold FitB
  rw [Rat.neg_num, Rat.neg_den, Int.natAbs_neg]
  exact h
theorem FitB.sub {K L : Nat} {q r : Rat} (h : FitB K q) (k : FitB L r) : FitB (K + L + 1) (q - r) := by
  rw [Rat.sub_eq_add_neg]; exact h.add k.neg
theorem FitB.inv {K : Nat} {q : Rat} (h : FitB K q) : FitB (K + 1) q⁻¹ := by
  have e : 10 ^ (K + 1) = 10 * 10 ^ K := by rw [Nat.pow_succ, Nat.mul_comm]
  unfold FitB
  rw [Rat.num_inv, Rat.den_inv]
  have h1 : (q.num.sign * (q.den : Int)).natAbs ≤ q.den := by
    rw [Int.natAbs_mul, Int.natAbs_natCast, Int.natAbs_sign]
    split <;> omega
  refine ⟨by have := h.2; omega, ?_⟩
  have := h.1
  have h0 : 0 < 10 ^ K := Nat.pow_pos (by omega)
  split <;> omega
theorem FitB.div {K L : Nat} {q r : Rat} (h : FitB K q) (k : FitB L r) : FitB (K + (L + 1)) (q / r) := by
  rw [Rat.div_def]; exact h.mul k.inv
theorem short_fit {a : List UInt8} (h : fracE a = 0) (hl : a.length ≤ 10) : FitB 10 (fracQ a) := by
  obtain ⟨h1, _, h3, _, _, _, h7⟩ := frac_parts h
  obtain ⟨k1, k2⟩ := frac_num h
  have hlt : (topS a).length ≤ 10 ∧ (lowS a).length ≤ 10 := by
    by_cases hs : 47 ∈ a
    · have e := congrArg List.length (split_some hs)
      rw [List.length_append, List.length_cons] at e
      omega
    · obtain ⟨a1, a2⟩ := split_none hs
      rw [a1, a2]
      exact ⟨hl, by simp⟩
  have hb : (bareS (topS a)).length ≤ (topS a).length := by
    unfold bareS
    split
    · rw [List.length_tail]; omega
    · exact Nat.le_refl _
  unfold FitB
  rw [k1, k2, intV_abs]
  exact ⟨Nat.lt_of_lt_of_le (decV_lt h1.1.1) (Nat.pow_le_pow_right (by omega) (by omega)),
    Nat.lt_of_lt_of_le (decV_lt h3.1) (Nat.pow_le_pow_right (by omega) (by omega))⟩
theorem made_fit {q : Rat} (h : FitQ q) : madeE q = 0 ∧ madeT q = fracT q := by
  unfold madeE madeT
  rw [if_pos h, if_pos h]
  exact ⟨rfl, rfl⟩
theorem fracT_int (n : Int) : fracT (n : Rat) = itoa n := by
  unfold fracT
  rw [Rat.num_intCast, Rat.den_intCast, if_pos rfl, List.append_nil]
theorem fit_int {n : Int} {K : Nat} (hK : 0 < K) (h : n.natAbs < 10 ^ K) : FitB K (n : Rat) := by
  unfold FitB
  rw [Rat.num_intCast, Rat.den_intCast]
  refine ⟨h, ?_⟩
  have := Nat.pow_le_pow_right (n := 10) (by omega) (show 1 ≤ K by omega)
  omega
end Go.Proofs.YtlhpfhnbeagnaaaGreatDoor
namespace Go.Proofs.YtlhpfhnbeagnaaaGreatDoor
open Go.Lib (decDigits itoa)
end Go.Proofs.YtlhpfhnbeagnaaaGreatDoor
namespace Go.Proofs.YtlhpfhnbeagnaaaGreatDoor
open Go.Lib (decDigits itoa)
abbrev Txt := List UInt8
abbrev Res := Txt × Nat
def resQ (q : Rat) : Res := (madeT q, madeE q)
def ifOk {α : Type} (e : Nat) (bad : Nat → α) (good : α) : α := if e = 0 then good else bad e
def bothE (a b : Txt) : Nat := if fracE a = 0 then fracE b else fracE a
def badR (e : Nat) : Res := ([], e)
def addS (a b : Txt) : Res := ifOk (bothE a b) badR (resQ (fracQ a + fracQ b))
def subS (a b : Txt) : Res := ifOk (bothE a b) badR (resQ (fracQ a - fracQ b))
def mulS (a b : Txt) : Res := ifOk (bothE a b) badR (resQ (fracQ a * fracQ b))
def divS (a b : Txt) : Res := ifOk (bothE a b) badR (if b = [48] then ([], 10) else resQ (fracQ a / fracQ b))
def cmpS (a b : Txt) : Int × Nat := ifOk (bothE a b) (fun e => (0, e)) ((fracQ a - fracQ b).num.sign, 0)
def signS (a : Txt) : Int × Nat := ifOk (fracE a) (fun e => (0, e)) ((fracQ a).num.sign, 0)
def negR (a : Txt) : Res := ifOk (fracE a) badR (fracT (-fracQ a), 0)
end Go.Proofs.YtlhpfhnbeagnaaaGreatDoor
namespace Go.Proofs.YtlhpfhnbeagnaaaGreatDoor
open Go.RowKit
structure Glob (w : World) : Prop where
  len : ∃ m : Int, w.cell? ⟨2, 0, none⟩ = some (.int .i64 m)
  tab : Lib.TabIs Tryz.prog w "internal/strconv.uint64pow10" .u64 Lib.pow10Tab
  syn : ∃ tp p, w.var? Tryz.prog "strconv.ErrSyntax" = some #[.iface tp p]
  rng : ∃ tp p, w.var? Tryz.prog "strconv.ErrRange" = some #[.iface tp p]
theorem var_ext {A B : World} (h : Ext A B) {n : String} {x : Array Value} (hv : A.var? Tryz.prog n = some x) : B.var? Tryz.prog n = some x := by
  unfold World.var? at hv ⊢
  cases hg : Tryz.prog.globalNamed n with
  | none => rw [hg] at hv; cases hv
  | some g =>
    rw [hg] at hv
    simp only [Option.bind_some] at hv ⊢
    cases ho : A.heap[g]? with
    | none => rw [ho] at hv; cases hv
    | some o => rw [Below.block h g (Array.getElem?_eq_some_iff.1 ho).1]; exact hv
theorem Glob.ext {A B : World} (g : Glob A) (h : Ext A B) : Glob B := by
  obtain ⟨⟨m, h1⟩, h2, ⟨a, b, h3⟩, ⟨c, d, h4⟩⟩ := g
  exact ⟨⟨m, h.cell h1⟩, var_ext h h2, ⟨a, b, var_ext h h3⟩, ⟨c, d, var_ext h h4⟩⟩
abbrev txt (s : Txt) : Value := .string ⟨s.toArray⟩
theorem trimP_bare (s : Txt) : Lib.trimPrefix s [45] = bareS s ∧ Lib.hasPrefix s [45] = negS s := by
  unfold Lib.trimPrefix Lib.hasPrefix bareS negS
  cases s with
  | nil => exact ⟨rfl, rfl⟩
  | cons c s =>
    by_cases h : c = 45
    · subst h; exact ⟨rfl, rfl⟩
    · have h1 : ((45 : UInt8) == c) = false := by rw [beq_eq_false_iff_ne]; exact fun e => h e.symm
      have h2 : (c == (45 : UInt8)) = false := by rw [beq_eq_false_iff_ne]; exact h
      simp [h1, h2, List.isPrefixOf]
def digitsC : Txt := [48, 49, 50, 51, 52, 53, 54, 55, 56, 57]
set_option maxRecDepth 100000 in
theorem digitsC_iff (c : UInt8) : digitsC.contains c = decide (48 ≤ c.toNat ∧ c.toNat ≤ 57) := by
  have key : ∀ n : Fin 256, digitsC.contains (UInt8.ofNat n.val) = decide (48 ≤ (UInt8.ofNat n.val).toNat ∧ (UInt8.ofNat n.val).toNat ≤ 57) := by decide
  have := key ⟨c.toNat, c.toNat_lt⟩
  rwa [UInt8.ofNat_toNat] at this
theorem dropWhile_nil {α : Type} (p : α → Bool) (l : List α) : l.dropWhile p = [] ↔ ∀ c ∈ l, p c = true := by
  induction l with
  | nil => simp
  | cons a l ih =>
    rw [List.dropWhile_cons]
    by_cases h : p a = true
    · rw [if_pos h, ih]; simp [h]
    · rw [if_neg h]; simp [h]
theorem trimS_digits (d : Txt) : Lib.trimS d digitsC = [] ↔ DigitL d := by
  have e : ∀ l : Txt, (∀ c ∈ l, digitsC.contains c = true) ↔ DigitL l := fun l => by
    unfold DigitL
    constructor
    · intro h c hc
      have := h c hc
      rw [digitsC_iff] at this
      exact of_decide_eq_true this
    · intro h c hc
      rw [digitsC_iff]
      exact decide_eq_true (h c hc)
  unfold Lib.trimS Lib.trimLeftS
  rw [dropWhile_nil, e]
  constructor
  · intro h
    have h1 : Lib.trimRightS d digitsC = [] := by
      have h2 := (e _).2 h
      unfold Lib.trimRightS at h2 ⊢
      cases hr : d.reverse.dropWhile (digitsC.contains ·) with
      | nil => rfl
      | cons c l =>
        rw [hr] at h2
        have h3 := h2 c (by simp)
        have h4 : (d.reverse.dropWhile (digitsC.contains ·)).head? = some c := by rw [hr]; rfl
        have h5 := List.head?_dropWhile_not (digitsC.contains ·) d.reverse
        rw [h4] at h5
        simp only at h5
        rw [h3] at h5
        cases h5
    unfold Lib.trimRightS at h1
    rw [List.reverse_eq_nil_iff, dropWhile_nil] at h1
    exact (e d).1 (fun c hc => h1 c (by simpa using hc))
  · intro h
    have h1 : Lib.trimRightS d digitsC = [] := by
      unfold Lib.trimRightS
      rw [List.reverse_eq_nil_iff, dropWhile_nil]
      exact fun c hc => (e d).2 h c (by simpa using hc)
    rw [h1]
    intro c hc
    cases hc
end Go.Proofs.YtlhpfhnbeagnaaaGreatDoor
namespace Go.Proofs.YtlhpfhnbeagnaaaGreatDoor
open Go.RowKit
theorem Trim_digits (d : Txt) (w : World) (hl : d.length ≤ 1000) :
    Calls Tryz.prog 153 #[txt d, txt digitsC] w fun e w' => e = .returned (txt (Lib.trimS d digitsC)) ∧ Ext w w' :=
  (Any.strings_Trim_laid Tryz.lays160 (by kernel_rfl) ⟨d.toArray⟩ ⟨digitsC.toArray⟩ w (by show d.toArray.size ≤ _; simp; omega) (by decide) (ascii_of_all (by decide))).mono fun e w' h => h
theorem CutPrefix_any (s : Txt) (w : World) :
    Calls Tryz.prog 152 #[txt s, txt [45]] w fun e w' => e = .returned (.tuple #[txt (bareS s), .bool (negS s)]) ∧ w' = w :=
  (Tryz.strings_CutPrefix ⟨s.toArray⟩ ⟨#[45]⟩ w).mono fun e w' h => by
    have := trimP_bare s
    rw [← this.1, ← this.2]; exact h
theorem TrimPrefix_any (s : Txt) (w : World) :
    Calls Tryz.prog 154 #[txt s, txt [45]] w fun e w' => e = .returned (txt (bareS s)) ∧ w' = w :=
  (Tryz.strings_TrimPrefix ⟨s.toArray⟩ ⟨#[45]⟩ w).mono fun e w' h => by
    have := trimP_bare s
    rw [← this.1]; exact h
set_option maxHeartbeats 2000000 in
theorem long_any (s : Txt) (w : World) :
    Calls Tryz.prog 136 #[txt s] w fun e w' => e = .returned (.bool (decide (60 < (bareS s).length))) ∧ Ext w w' := by
  have HT := Lib.hid (fun W => TrimPrefix_any s W)
  go_enter Tryz.func136, Tryz.ntmps136
  go_wp2_with (go_at_call 154; refine (HT.out _).mono ?_; rintro e w' ⟨rfl, rfl⟩)
  go_ret
  exact ⟨ret_bool (decide_eq_decide.2 (by omega)), Ext.refl _⟩
set_option maxHeartbeats 2000000 in
theorem integer_any (s : Txt) (w : World) (hl : s.length ≤ 1000) :
    Calls Tryz.prog 135 #[txt s] w fun e w' => e = .returned (.bool (decide (IntS s))) ∧ Ext w w' := by
  have HT := Lib.hid (fun W => CutPrefix_any s W)
  have HI : Hid (∀ b : Bool, (b = true ↔ IntS s) → decide (IntS s) = b) := fun b h => by
    by_cases k : IntS s
    · rw [decide_eq_true k, (h.2 k)]
    · rw [decide_eq_false k]
      cases b
      · rfl
      · exact absurd (h.1 rfl) k
  have HIN := Lib.hid (show IntS s ↔ CanonL (bareS s) ∧ s ≠ [45, 48] from Iff.rfl)
  have HD : Hid (∀ W, Calls Tryz.prog 153 #[txt (bareS s), txt digitsC] W fun e w' => e = .returned (txt (Lib.trimS (bareS s) digitsC)) ∧ Ext W w') := fun W => Trim_digits _ W (by
    have : (bareS s).length ≤ s.length := by unfold bareS; split; rw [List.length_tail]; omega; exact Nat.le_refl _
    omega)
  obtain ⟨f, hf⟩ : ∃ f, f = decide (IntS s) := ⟨_, rfl⟩
  rw [← hf]
  have HF := Lib.hid hf
  clear hf
  have HN : Hid (negS s = false → bareS s = s) := fun h => bare_pos h
  have HN2 : Hid (negS s = true → s = 45 :: bareS s) := fun h => neg_cons h
  generalize bareS s = d at *
  generalize negS s = ng at *
  by_cases hd : d = []
  · subst hd
    have hF : Hid (f = false) := HF.out.trans (HI.out false ⟨(fun h => by cases h), fun h => absurd rfl (HIN.out.1 h).1.2.1⟩)
    clear HI HF HIN HN HN2
    go_enter Tryz.func135, Tryz.ntmps135
    go_wp2_with (go_at_call 152; refine (HT.out _).mono ?_; rintro e w' ⟨rfl, rfl⟩)
    go_ret
    exact ⟨ret_bool hF.out.symm, Ext.refl _⟩
  · obtain ⟨c, m, rfl⟩ := List.exists_cons_of_ne_nil hd
    clear hd
    by_cases hdig : DigitL (c :: m)
    · have e0 : Lib.trimS (c :: m) digitsC = [] := (trimS_digits _).2 hdig
      rw [e0] at HD
      have hc : (48 ≤ c.toNat ∧ c.toNat ≤ 57) := hdig c (List.mem_cons_self ..)
      have hget : ∀ h, (⟨(c :: m).toArray⟩ : ByteArray)[0]'h = c := fun _ => rfl
      by_cases h48 : c = 48
      · subst h48
        cases m with
        | nil =>
          have hF : Hid (f = !ng) := HF.out.trans (HI.out (!ng) (by
            rw [HIN.out]
            cases ng
            · refine ⟨fun _ => ⟨⟨hdig, by simp, .inr rfl⟩, ?_⟩, fun _ => rfl⟩
              rw [← HN.out rfl]; decide
            · refine ⟨(fun h => by cases h), fun h => absurd (HN2.out rfl) h.2⟩))
          clear HI HF HIN HN HN2
          go_enter Tryz.func135, Tryz.ntmps135
          go_wp2_with (first
            | (go_at_call 152; refine (HT.out _).mono ?_; rintro e w' ⟨rfl, rfl⟩)
            | (go_at_call 153; refine (HD.out _).mono ?_; rintro e w' ⟨rfl, hE⟩))
          trace_state
          go_ret
          exact ⟨ret_bool hF.out.symm, hE⟩
        | cons k m =>
          have hF : Hid (f = false) := HF.out.trans (HI.out false (by
            rw [HIN.out]
            refine ⟨(fun h => by cases h), fun h => ?_⟩
            rcases h.1.2.2 with h | h
            · exact absurd rfl h
            · simp at h))
          clear HI HF HIN HN HN2
          go_enter Tryz.func135, Tryz.ntmps135
          go_wp2_with (first
            | (go_at_call 152; refine (HT.out _).mono ?_; rintro e w' ⟨rfl, rfl⟩)
            | (go_at_call 153; refine (HD.out _).mono ?_; rintro e w' ⟨rfl, hE⟩))
          trace_state
          go_ret
          exact ⟨ret_bool hF.out.symm, hE⟩
      · have hF : Hid (f = true) := HF.out.trans (HI.out true (by
          rw [HIN.out]
          refine ⟨fun _ => ⟨⟨hdig, by simp, .inl (by simpa using h48)⟩, ?_⟩, fun _ => rfl⟩
          intro e
          cases ng
          · rw [← HN.out rfl] at e
            simp only [List.cons.injEq] at e
            rw [e.1] at hc; simp at hc
          · have := HN2.out rfl
            rw [this] at e
            simp only [List.cons.injEq] at e
            exact h48 e.2.1))
        have hne : ((c.toNat : Int) != 48) = true := by
          rw [bne_iff_ne]
          intro e
          have e2 : c.toNat = 48 := by omega
          exact h48 (UInt8.toNat_inj.1 e2)
        clear HI HF HIN HN HN2
        go_enter Tryz.func135, Tryz.ntmps135
        go_wp2_with (first
          | (go_at_call 152; refine (HT.out _).mono ?_; rintro e w' ⟨rfl, rfl⟩)
          | (go_at_call 153; refine (HD.out _).mono ?_; rintro e w' ⟨rfl, hE⟩))
        go_ret
        exact ⟨ret_bool hF.out.symm, hE⟩
    · have hF : Hid (f = false) := HF.out.trans (HI.out false ⟨(fun h => by cases h), fun h => absurd (HIN.out.1 h).1.1 hdig⟩)
      have e0 : Lib.trimS (c :: m) digitsC ≠ [] := fun e => hdig ((trimS_digits _).1 e)
      generalize Lib.trimS (c :: m) digitsC = t at e0 HD
      obtain ⟨t0, t1, rfl⟩ := List.exists_cons_of_ne_nil e0
      clear HI HF HIN HN HN2
      go_enter Tryz.func135, Tryz.ntmps135
      go_wp2_with (first
        | (go_at_call 152; refine (HT.out _).mono ?_; rintro e w' ⟨rfl, rfl⟩)
        | (go_at_call 153; refine (HD.out _).mono ?_; rintro e w' ⟨rfl, hE⟩))
      go_ret
      exact ⟨ret_bool hF.out.symm, hE⟩
end Go.Proofs.YtlhpfhnbeagnaaaGreatDoor
namespace Go.Proofs.YtlhpfhnbeagnaaaGreatDoor
open Go.RowKit
theorem ext_bytes (w : World) (e : TypeId) (s : ByteArray) : Ext w (Lib.bytesWorld w e s) := Lib.bytesWorld_below w e s
theorem Parse_any (d : Txt) (w : World) (hd : DigitL d) (hne : d ≠ []) (hl : d.length ≤ 18) :
    Calls Tryz.prog 187 #[txt d, .int .i64 10, .int .i64 64] w fun e w' => e = .returned (.tuple #[.int .u64 (decV d : Nat), .nilIface]) ∧ Ext w w' :=
  (Tryz.strconv_ParseUint_10_at64_ok ⟨d.toArray⟩ (by show d.toArray.size ≤ _; simp; omega) (decV d) (parse_eq hd hne hl) w).mono fun e w' h => by
    rcases h with ⟨h1, rfl | rfl⟩
    · exact ⟨h1, Ext.refl _⟩
    · exact ⟨h1, ext_bytes _ _ _⟩
theorem extract_txt (s : Txt) (i j : Nat) : (⟨s.toArray⟩ : ByteArray).extract i j = ⟨((s.take j).drop i).toArray⟩ := by
  apply ByteArray.ext
  rw [ByteArray.data_extract]
  simp [List.drop_take]
set_option maxHeartbeats 4000000 in
set_option maxRecDepth 100000 in
theorem read_any (s : Txt) (w : World) (hs : DigitL s) (hl : s.length ≤ 500) :
    Calls Tryz.prog 155 #[txt s] w (OwnNPost .u64 153 (toB 1000000000 (decV s)) w) := by
  obtain ⟨i0, hi, hi0, hi1, hi2⟩ := info_parts infoU64
  have HS := Lib.hid hs
  clear hs
  go_enter Tryz.func155, Tryz.ntmps155
  go_wp2
  go_loopw [3, 4] (fun v en wr => ∃ (vv : Value) (o : List Nat), v = vv ∧ en = .int .i64 ((s.length : Int) - 9 * (o.length : Int)) ∧ 9 * o.length ≤ s.length + 9 ∧ Hid (ReadI 9 s o) ∧ Hid (OwnsN .u64 153 wr vv o) ∧ Hid (∀ b, vv.ownBlock = some b → w.heap.size ≤ b) ∧ Ext w wr) (fun _ en _ => (intOf en + 9).toNat)
  case atStart => exact ⟨_, [], rfl, by simp, by simp, ReadI.start 9 s, OwnsN.nil _ _ _, (fun b hb => by cases hb), Ext.refl _⟩
  case round =>
    obtain ⟨vv, o, hvv, rfl, hol, HR, HO, HN, he⟩ := hrel
    obtain rfl := hvv.symm
    by_cases hgt : 9 * o.length < s.length
    · obtain ⟨en, hen⟩ : ∃ en, en = s.length - 9 * o.length := ⟨_, rfl⟩
      have hee : (s.length : Int) - 9 * (o.length : Int) = (en : Int) := by omega
      have he0 : (0 : Int) < (en : Int) := by omega
      have hes : (en : Int) ≤ (s.length : Int) := by omega
      obtain ⟨st, hst⟩ : ∃ st, st = en - 9 := ⟨_, rfl⟩
      have hw1 : IntKind.i64.wrap ((en : Int) - 9) = (en : Int) - 9 := by rw [IntKind.wrap_i64]; omega
      have hmx : max (0 : Int) ((en : Int) - 9) = (st : Int) := by omega
      have hst0 : (0 : Int) ≤ (st : Int) := by omega
      have hst1 : (st : Int) ≤ (en : Int) := by omega
      have hex := extract_txt s st en
      have hnx := HR.out.next (by omega) HS.out
      rw [← hen, ← hst] at hnx
      obtain ⟨d, hd⟩ : ∃ d, d = (s.take en).drop st := ⟨_, rfl⟩
      rw [← hd] at hnx hex
      have hdl : d.length ≤ 9 := by rw [hd, List.length_drop, List.length_take]; omega
      have hdn : d ≠ [] := by
        intro e
        have : d.length = 0 := by rw [e]; rfl
        rw [hd, List.length_drop, List.length_take] at this
        omega
      have HP := Lib.hid (fun W => Parse_any d W (by rw [hd]; exact (HS.out.of_take en).of_drop st) hdn (by omega))
      have HNX := Lib.hid hnx
      have HEN := Lib.hid hen
      rw [hee]
      clear hd hst hen hnx hdl hdn
      generalize decV d = x at HNX HP
      have hol2 : o.length ≤ 100 := by omega
      have hEnd : Hid ((en : Int) - 9 = (s.length : Int) - 9 * ((o ++ [x]).length : Int)) := by
        show _ = _
        rw [List.length_append, List.length_singleton]; omega
      have hlo : Hid (9 * (o ++ [x]).length ≤ s.length + 9) := by
        show _ ≤ _
        rw [List.length_append, List.length_singleton]; omega
      clear hee HEN HR
      go_wp2_with (first
        | (go_at_call 187; refine (HP.out _).mono ?_; rintro e w' ⟨rfl, hE⟩)
        | (at_builtin; refine wpList_append1 _ rfl _ _ 155 rfl 153 i0 (.int .u64 0) 1 8 Tryz.underlying155 hi hi0 hi1 hi2 rfl (by decide) vv o.length (natsV .u64 o) rfl (HO.out.ext extA) ⟨w'.heap.size, 0, none⟩ 1 1 (by decide) [.int .u64 (x : Int)] rfl rfl (cells_one _ _ _) (by intro u hu; simp at hu; subst hu; rfl) (by unfold maxLen; omega) (by omega) ?_))
      all_goals
        intro v' w5 hown5 hend5
        have E5 : Ext wr (w'.alloc (.cells #[.int .u64 (x : Int)] 153)) := extA
        have hz5 := he.size
        have hz6 := E5.size
        have OB5 : Hid (∀ b, v'.ownBlock = some b → w.heap.size ≤ b) := hend5.ge (n := w.heap.size) (by omega) HN.out
        have O5 : Hid (OwnsN .u64 153 w5 v' (o ++ [x])) := ownsN_succ hown5
        have B5 : Ext w w5 := (he.trans E5).trans' (hend5.below (n := w.heap.size) (by omega) HN.out) (Nat.le_refl _)
        clear hown5 hend5 HO hz5 hz6 E5
        go_wp2
        refine ⟨⟨v', o ++ [x], rfl, by rw [← hEnd.out], hlo.out, HNX, O5, OB5, B5⟩, by simp [intOf]; omega⟩
    · have he0 : ¬ (0 : Int) < (s.length : Int) - 9 * (o.length : Int) := by omega
      have hdone : trimL o = toB 1000000000 (decV s) := HR.out.done (by omega) (by omega)
      obtain ⟨oa, oc, rfl, hoc, hor, _⟩ := HO.out.reads
      have HNB : Hid (∀ b, (Value.slice oa (trimL o).length oc).ownBlock = some b → w.heap.size ≤ b) := fun b hb => HN.out b (by cases oa <;> exact hb)
      have HT := Lib.hid (trimmed_any o oa oc wr hor hoc)
      have HDN := Lib.hid hdone
      clear hoc hor hdone
      generalize (s.length : Int) - 9 * (o.length : Int) = z at *
      go_wp2_with (go_at_call 160; refine HT.out.mono ?_; rintro e w5 ⟨rfl, hn5, hE5⟩)
      go_ret
      refine ⟨_, rfl, ?_, HNB.out, he.trans hE5⟩
      rw [← HDN.out]
      exact (HO.out.ext hE5).trim hn5
end Go.Proofs.YtlhpfhnbeagnaaaGreatDoor
namespace Go.Proofs.YtlhpfhnbeagnaaaGreatDoor
open Go.RowKit Go.Lib Go.Sort
theorem holds_zero0 (w : World) (T : TypeId) (nd : Nat) (hs : nd ≤ 24) : Holds (fun (b : UInt8) => Value.int .u8 (b.toNat : Int)) (w.alloc (.cells zeros24 T)) w.heap.size 0 (Array.replicate nd (0 : UInt8)) := fun j hj => by
  have hj' : j < nd := by simpa using hj
  refine ⟨?_, World.frozen?_alloc_new _ _ _ _⟩
  rw [World.cell?_alloc_new, zeros24_at _ (by omega), getElem!_pos _ j hj]
  simp
theorem ext_putRow {w A : World} (h : Ext w A) {b : Nat} (hb : w.heap.size ≤ b) (o : Nat) (d : Array UInt8) : Ext w (putRow (fun (b : UInt8) => Value.int .u8 (b.toNat : Int)) A b o d) := by
  refine ⟨h.os, h.tape, h.output, by rw [size_putRow]; exact h.size, fun k hk => ?_⟩
  rw [← h.block k hk]
  simp only [putRow, mapBlock, Array.getElem?_modify]
  rw [if_neg (by omega)]
set_option maxHeartbeats 4000000 in
set_option maxRecDepth 100000 in
theorem FormatU_any (u : Nat) (w : World) (hu : u < 18446744073709551616) (htab : TabIs Tryz.prog w "internal/strconv.uint64pow10" .u64 pow10Tab) :
    Calls Tryz.prog 193 #[.int .u64 (u : Int), .int .i64 10] w fun e w' => e = .returned (.string ⟨(decDigits u).toArray⟩) ∧ Ext w w' := by
  have mixed : Tryz.prog.follows Departure.mixedOrders = true := by kernel_rfl
  by_cases hs : u < 100
  · have hi : (u : Int) < 100 := by omega
    have hw : IntKind.i64.wrap (u : Int) = (u : Int) := by rw [IntKind.wrap_i64]; omega
    go_enter Tryz.func193, Tryz.ntmps193
    go_wp2_with (go_at_call 216; refine (Tryz.internal_strconv_small u hs _).mono ?_; rintro e w' ⟨rfl, rfl⟩)
    go_ret
    exact ⟨rfl, Ext.refl _⟩
  · have hi : ¬ (u : Int) < 100 := by omega
    have hu1 : 1 ≤ u := by omega
    have hnd20 : nDigits u ≤ 20 := by have := numDigits_eq u hu1 hu; split at this <;> omega
    have hal : Tryz.prog.arrayLen 248 = 24 := by simp [Program.arrayLen, Tryz.underlying248]
    have hsl1 : ∀ W, (Instr.sliceAt 248 (.pointer (some ⟨w.heap.size, 0, none⟩)) none (some (.int .i64 (nDigits u : Int))) none).run Tryz.prog W = .ok (.slice (some ⟨w.heap.size, 0, none⟩) (nDigits u) 24) W := fun W => by
      rw [run_sliceAt_array_h W 248 ⟨w.heap.size, 0, none⟩ (by simp [Program.arrayLen, Program.elem, Tryz.underlying248]) .i64 (nDigits u : Int) (by omega) (by rw [hal]; omega)]
      go_simp
    have hH0 := holds_zero0 w 248 (nDigits u) (by omega)
    have hfmt := Tryz.internal_strconv_formatBase10 w.heap.size 0 24 u (Array.replicate (nDigits u) 0) (w.alloc (.cells zeros24 248)) hH0 (by rw [Array.size_replicate]; exact lt_pow_nDigits u) hu (by rw [Array.size_replicate]; omega)
    rw [Array.size_replicate] at hfmt
    have HH0 := Lib.hid hH0
    clear hH0 hal
    go_enter Tryz.func193, Tryz.ntmps193
    go_wp2_with (go_at_call 217; refine (Tryz.internal_strconv_numDigits u hu1 hu _ (tabIs_alloc htab _)).mono ?_; rintro e w' ⟨rfl, rfl⟩)
    refine hfmt.mono ?_
    rintro e w' ⟨rfl, k, v', dk, rfl, hF⟩
    have hcv : (convert 196 9 (.slice (some ⟨w.heap.size, 0, none⟩) (nDigits u) 24)).run Tryz.prog ((putRow (fun (b : UInt8) => Value.int .u8 (b.toNat : Int)) (w.alloc (.cells zeros24 248)) w.heap.size 0 dk).drewN k) = .ok (.string ⟨(decDigits u).toArray⟩) ((putRow (fun (b : UInt8) => Value.int .u8 (b.toNat : Int)) (w.alloc (.cells zeros24 248)) w.heap.size 0 dk).drewN k) := by
      have h := run_convert_bytes_back (P := Tryz.prog) ((putRow (fun (b : UInt8) => Value.int .u8 (b.toNat : Int)) (w.alloc (.cells zeros24 248)) w.heap.size 0 dk).drewN k) 196 9 5 ⟨w.heap.size, 0, none⟩ 24 (decDigits u) Tryz.underlying196 Tryz.underlying5 Tryz.underlying9 (fun j hj => by
        rw [row_is_numeral hF j hj, add_plain, World.cell?_drewN]
        exact cell?_putRow (fun (b : UInt8) => Value.int .u8 (b.toNat : Int)) _ w.heap.size 0 _ dk HH0.out (by rw [hF.size, Array.size_replicate]) j (by rw [hF.size]; rw [decDigits_length] at hj; exact hj))
      rw [decDigits_length] at h
      exact h
    have E : Ext w ((putRow (fun (b : UInt8) => Value.int .u8 (b.toNat : Int)) (w.alloc (.cells zeros24 248)) w.heap.size 0 dk).drewN k) := Ext.drewN (ext_putRow ((Ext.refl w).alloc _) (Nat.le_refl _) _ _) _
    go_wp2
    go_ret
    exact ⟨rfl, E⟩
theorem FormatUint_any (u : Nat) (w : World) (hu : u < 18446744073709551616) (htab : TabIs Tryz.prog w "internal/strconv.uint64pow10" .u64 pow10Tab) :
    Calls Tryz.prog 163 #[.int .u64 (u : Int), .int .i64 10] w fun e w' => e = .returned (.string ⟨(decDigits u).toArray⟩) ∧ Ext w w' := by
  have HF := Lib.hid (FormatU_any u w hu htab)
  go_enter Tryz.func163, Tryz.ntmps163
  go_wp2_with (go_at_call 193; refine HF.out.mono ?_; rintro e w' ⟨rfl, hE⟩)
  go_ret
  exact ⟨rfl, hE⟩
theorem Repeat_any (n : Nat) (w : World) (hn : n ≤ 100) :
    Calls Tryz.prog 164 #[.string ⟨#[48]⟩, .int .i64 (n : Int)] w fun e w' => e = .returned (.string ⟨(List.replicate n (48 : UInt8)).toArray⟩) ∧ Ext w w' :=
  (Tryz.strings_Repeat ⟨#[48]⟩ n w (by omega) (by show 1 * n ≤ _; omega)).mono fun e w' h => by
    refine ⟨?_, h.2⟩
    rw [h.1]
    congr 3
    have : ∀ k, repeatL ((⟨#[48]⟩ : ByteArray).data.toList) k = List.replicate k (48 : UInt8) := fun k => by
      induction k with
      | zero => rfl
      | succ k ih => rw [repeatL, ih, List.replicate_succ]; rfl
    rw [this]
end Go.Proofs.YtlhpfhnbeagnaaaGreatDoor
namespace Go.Proofs.YtlhpfhnbeagnaaaGreatDoor
open Go.RowKit
def BldW (b n3 : Nat) (l : Txt) (W : World) : Prop :=
  ∃ p v, W.heap[b]? = some (.cells #[p, v] 198 (0, 0)) ∧ (p = .pointer none ∨ p = .pointer (some ⟨b, 0, none⟩)) ∧
    W.ownsRow n3 5 1 v l.length (Lib.byteCells l)
theorem BldW.fresh {b n3 : Nat} {W : World} (h : W.heap[b]? = some (.cells #[.pointer none, .slice none 0 0] 198 (0, 0))) : BldW b n3 [] W :=
  ⟨_, _, h, .inl rfl, World.ownsRow_nil W n3 _ _⟩
theorem row_ge {A : World} {n3 : Nat} {e : TypeId} {s : Nat} {v : Value} {n : Nat} {xs : List Value} (h : A.ownsRow n3 e s v n xs) {g : Nat} (hg : v.ownBlock = some g) : n3 ≤ g ∧ ∃ cur, A.heap[g]? = some (.cells cur e (0, 0)) := by
  rcases h.2 with ⟨hv, _⟩ | ⟨g', cap, cur, hv, hb, hh, _⟩
  · rw [hv] at hg; cases hg
  · rw [hv] at hg; cases hg; exact ⟨hb, cur, hh⟩
theorem row_base {A : World} {n3 m : Nat} {e : TypeId} {s : Nat} {v : Value} {n : Nat} {xs : List Value} (h : A.ownsRow n3 e s v n xs) (hm : m ≤ n3) : A.ownsRow m e s v n xs := by
  refine ⟨h.1, ?_⟩
  rcases h.2 with h | ⟨g, cap, cur, hv, hb, r⟩
  · exact .inl h
  · exact .inr ⟨g, cap, cur, hv, Nat.le_trans hm hb, r⟩
theorem row_same {A B : World} {n3 : Nat} {e : TypeId} {s : Nat} {v : Value} {n : Nat} {xs : List Value} (h : A.ownsRow n3 e s v n xs) (k : ∀ b, v.ownBlock = some b → B.heap[b]? = A.heap[b]?) : B.ownsRow n3 e s v n xs := by
  obtain ⟨h1, h2⟩ := h
  refine ⟨h1, ?_⟩
  rcases h2 with h2 | ⟨g, cap, cur, hv, hg, hh, r⟩
  · exact .inl h2
  · exact .inr ⟨g, cap, cur, hv, hg, (k g (by rw [hv]; rfl)).trans hh, r⟩
theorem BldW.is {b n3 : Nat} {l : Txt} {W : World} (h : BldW b n3 l W) (hb : b < n3) : Lib.IsBuilder 198 5 b b (Lib.byteCells l) W := by
  obtain ⟨p, v, h1, h2, h3⟩ := h
  rw [← Lib.byteCells_length] at h3
  have h6 : v.ownBlock ≠ some b := fun e => by have := (row_ge h3 e).1; omega
  rcases h2 with rfl | rfl
  · exact .inl ⟨Nat.le_refl _, v, h1, row_base h3 (Nat.le_of_lt hb), h6⟩
  · exact .inr ⟨Nat.le_refl _, v, h1, row_base h3 (Nat.le_of_lt hb), h6⟩
theorem BldW.keep {b n3 m : Nat} {l : Txt} {A B : World} (h : BldW b n3 l A) (q : Keep m A B) : BldW b n3 l B := by
  obtain ⟨p, v, h1, h2, h3⟩ := h
  refine ⟨p, v, q.2 b _ h1 rfl, h2, row_same h3 (fun g hg => ?_)⟩
  obtain ⟨_, cur, hh⟩ := row_ge h3 hg
  exact (q.2 g _ hh rfl).trans hh.symm
theorem BldW.ext {b n3 : Nat} {l : Txt} {A B : World} (h : BldW b n3 l A) (q : Ext A B) : BldW b n3 l B := h.keep (Keep.ext q (Nat.le_refl _))
set_option maxHeartbeats 2000000 in
set_option maxRecDepth 100000 in
theorem copyCheck_used (b : Nat) (w : World) (h0 : w.cell? ⟨b, 0, none⟩ = some (.pointer (some ⟨b, 0, none⟩))) :
    Calls Tryz.prog 198 #[.pointer (some ⟨b, 0, none⟩)] w fun e w' => e = .returned (.tuple #[]) ∧ w' = w := by
  obtain ⟨j, hj, _⟩ := Option.map_eq_some_iff.1 Tryz.Builder_Extra_169.sizeBuilder
  go_enter Tryz.func198, Tryz.ntmps198
  go_wp2
  rw [Lib.run_neq_ptr_same w _ Tryz.underlying195 hj]
  go_wp2
  go_end0
  exact ⟨rfl, rfl⟩
set_option maxHeartbeats 2000000 in
set_option maxRecDepth 100000 in
theorem copyCheck_fresh (b : Nat) (w : World) (h0 : w.cell? ⟨b, 0, none⟩ = some (.pointer none)) (hsh : w.shape? b = some (198, 2)) (hfz : w.frozen? ⟨b, 0, none⟩ = false) :
    Calls Tryz.prog 198 #[.pointer (some ⟨b, 0, none⟩)] w fun e w' => e = .returned (.tuple #[]) ∧ w' = w.setCell ⟨b, 0, none⟩ (.pointer (some ⟨b, 0, none⟩)) := by
  obtain ⟨j, hj, hjs⟩ := Option.map_eq_some_iff.1 Tryz.Builder_Extra_169.sizeBuilder
  go_enter Tryz.func198, Tryz.ntmps198
  go_wp2
  rw [Lib.run_to_unsafe w ⟨b, 0, none⟩ Tryz.underlying195 Tryz.underlying256 hj (by rw [hjs]; decide) hsh (Nat.zero_lt_succ 1)]
  simp only [Result.andThen]
  rw [Oper.upon_value]
  go_wp2
  rw [run_callFunc_extern Tryz.func223 (by kernel_rfl) (by kernel_rfl) (by kernel_rfl) (e := Extern.AbiNoEscape.same) (by kernel_rfl)]
  rw [Lib.run_noEscape]
  simp only [Result.andThen]
  rw [Oper.upon_value]
  go_wp2
  rw [Lib.run_from_unsafe w ⟨b, 0, none⟩ Tryz.underlying256 Tryz.underlying195 hj hsh Tryz.Builder_Extra_169.liesBuilder]
  simp only [Result.andThen]
  rw [Oper.upon_value]
  go_wp2
  go_end0
  exact ⟨rfl, rfl⟩
theorem strCells_txt (m : Txt) : Lib.strCells ⟨m.toArray⟩ = Lib.byteCells m := by
  unfold Lib.strCells Lib.byteCells
  rfl
theorem byteCells_app (l m : Txt) : Lib.byteCells (l ++ m) = Lib.byteCells l ++ Lib.byteCells m := by
  unfold Lib.byteCells
  rw [List.map_append]
set_option maxHeartbeats 2000000 in
set_option maxRecDepth 100000 in
theorem WriteString_any (b n3 : Nat) (l m : Txt) (w : World) (h : BldW b n3 l w) (hb : b < n3) (hn : n3 ≤ w.heap.size) (hlen : l.length + m.length ≤ 100000) :
    Calls Tryz.prog 165 #[.pointer (some ⟨b, 0, none⟩), txt m] w fun e w' => e = .returned (.tuple #[.int .i64 m.length, .nilIface]) ∧ BldW b n3 (l ++ m) w' ∧ Below b w w' ∧
      ∃ M : Nat → Prop, Chg M w w' ∧ (∀ k, M k → k = b ∨ n3 ≤ k) ∧ ∀ k, M k → ∀ o, w.heap[k]? = some o → o.isCells = true := by
  obtain ⟨i0, hi, hz0, hz1, hz2⟩ := info_parts Tryz.Builder_Extra_169.infoByte
  obtain ⟨p, v, h1, h2, h3⟩ := h
  have hbw : b < w.heap.size := by omega
  have hvb : v.ownBlock ≠ some b := fun e => by have := (row_ge h3 e).1; omega
  have hCC : Hid (Calls Tryz.prog 198 #[.pointer (some ⟨b, 0, none⟩)] w fun e w' => e = .returned (.tuple #[]) ∧ w'.heap[b]? = some (.cells #[.pointer (some ⟨b, 0, none⟩), v] 198 (0, 0)) ∧ Chg (fun k => k = b) w w' ∧ Below b w w') := by
    rcases h2 with rfl | rfl
    · refine (copyCheck_fresh b w (by simp [World.cell?, h1]) (by simp [World.shape?, h1]) (by simp [World.frozen?, h1])).mono ?_
      rintro e w' ⟨rfl, rfl⟩
      refine ⟨rfl, ?_, Chg.setCell (B := fun k => k = b) ⟨b, 0, none⟩ _ rfl, (Below.refl b w).setCell (p := ⟨b, 0, none⟩) (Nat.le_refl _) _⟩
      simp only [World.setCell, Array.getElem?_modify, h1]
      simp
    · refine (copyCheck_used b w (by simp [World.cell?, h1])).mono ?_
      rintro e w' ⟨rfl, rfl⟩
      exact ⟨rfl, h1, Chg.refl _ _, Below.refl _ _⟩
  have HM : Hid ((∀ k, (k = b ∨ v.ownBlock = some k) → k = b ∨ n3 ≤ k) ∧ ∀ k, (k = b ∨ v.ownBlock = some k) → ∀ o, w.heap[k]? = some o → o.isCells = true) := by
    refine ⟨fun k hk => hk.imp id (fun e => (row_ge h3 e).1), ?_⟩
    rintro k (rfl | hk) o ho
    · rw [h1] at ho; cases ho; rfl
    · obtain ⟨_, cur, hh⟩ := row_ge h3 hk
      rw [hh] at ho; cases ho; rfl
  have HR := Lib.hid h3
  have HV := Lib.hid hvb
  clear h1 h2 h3 hvb
  go_enter Tryz.func165, Tryz.ntmps165
  go_wp2_with (go_at_call 198; refine hCC.out.mono ?_)
  rintro e w1 ⟨rfl, k1, k2, k3⟩
  have c0 : w1.cell? ⟨b, 0, none⟩ = some (.pointer (some ⟨b, 0, none⟩)) := by rw [Lib.cell_of_heap k1]; rfl
  have c1 : w1.cell? ⟨b, 1, none⟩ = some v := by rw [Lib.cell_of_heap k1]; rfl
  have hown : w1.ownsRow n3 5 1 v l.length (Lib.byteCells l) := row_same HR.out (fun g hg => k2.2 g (by
    obtain ⟨_, cur, hh⟩ := row_ge HR.out hg
    exact (Array.getElem?_eq_some_iff.1 hh).1) (fun e => HV.out (e ▸ hg)))
  have HK := Lib.hid (And.intro k1 (And.intro k2 k3))
  have hz := k2.1
  clear k1 k2 k3 HR
  go_wp2_with (at_builtin; refine Lib.wpList_append_own_string _ rfl _ _ 196 9 rfl n3 5 i0 Tryz.underlying196 Tryz.underlying9 hi hz0 hz1 hz2 _ _ _ rfl hown ⟨m.toArray⟩ rfl ?c3 ?c4 ?c5 ?_)
  case c3 => show l.length + m.toArray.size ≤ maxLen; unfold maxLen; simp; omega
  case c4 => show l.length + m.toArray.size ≤ _; simp; omega
  case c5 => omega
  intro v' w2 hown' hgrow _
  have hlt : b < w1.heap.size := by omega
  have hb2 : w2.heap[b]? = some (.cells #[.pointer (some ⟨b, 0, none⟩), v] 198 (0, 0)) := by
    rw [hgrow.block b hlt (fun e => HV.out e.symm)]
    exact HK.out.1
  have d0 : w2.cell? ⟨b, 0, none⟩ = some (.pointer (some ⟨b, 0, none⟩)) := by rw [Lib.cell_of_heap hb2]; rfl
  have d1 : w2.cell? ⟨b, 1, none⟩ = some v := by rw [Lib.cell_of_heap hb2]; rfl
  have f1 : w2.frozen? ⟨b, 1, none⟩ = false := Lib.frozen_of_heap hb2 1
  obtain ⟨ao, n', cap, rfl⟩ : ∃ ao n' cap, v' = .slice ao n' cap := by
    rcases hown'.2 with ⟨hv, _⟩ | ⟨g, cap, cur, hv, _⟩
    · exact ⟨_, _, _, hv⟩
    · exact ⟨_, _, _, hv⟩
  have hW : BldW b n3 (l ++ m) (w2.setCell ⟨b, 1, none⟩ (.slice ao n' cap)) := by
    refine ⟨.pointer (some ⟨b, 0, none⟩), .slice ao n' cap, ?_, .inr rfl, ?_⟩
    · show (w2.setCell ⟨b, 1, none⟩ (.slice ao n' cap)).heap[b]? = some (.cells #[.pointer (some ⟨b, 0, none⟩), .slice ao n' cap] _ (0, 0))
      simp only [World.setCell, Array.getElem?_modify, hb2]
      simp
    · have h9 : (w2.setCell ⟨b, 1, none⟩ (.slice ao n' cap)).ownsRow n3 5 1 (.slice ao n' cap) (l.length + (⟨m.toArray⟩ : ByteArray).size) (Lib.byteCells l ++ Lib.strCells ⟨m.toArray⟩) :=
        row_same hown' (fun g hg => Below.heap_setCell _ ⟨b, 1, none⟩ _ g (fun e => by have := (row_ge hown' hg).1; dsimp only at e; omega))
      rw [strCells_txt, ← byteCells_app, show (⟨m.toArray⟩ : ByteArray).size = m.length from by show m.toArray.size = _; simp, ← List.length_append] at h9
      exact h9
  have hC : Chg (fun k => k = b ∨ v.ownBlock = some k) w (w2.setCell ⟨b, 1, none⟩ (.slice ao n' cap)) := by
    refine ((HK.out.2.1.mono (fun k hk => .inl hk)).trans (?_ : Chg _ w1 w2)).trans (Chg.setCell (B := fun k => k = b ∨ v.ownBlock = some k) ⟨b, 1, none⟩ _ (.inl rfl))
    exact ⟨hgrow.size, fun k hk hn => hgrow.block k hk (fun e => hn (.inr e.symm))⟩
  have hB : Below b w (w2.setCell ⟨b, 1, none⟩ (.slice ao n' cap)) :=
    (HK.out.2.2.grown hgrow (by omega) (fun k hk => by have := (row_ge hown hk).1; omega)).setCell (p := ⟨b, 1, none⟩) (Nat.le_refl _) _
  have HF := Lib.hid (And.intro hW (And.intro hB hC))
  clear hW hB hC hown hown' hgrow
  go_wp2
  go_ret2
  exact ⟨by congr 4, HF.out.1, HF.out.2.1, _, HF.out.2.2, HM.out.1, HM.out.2⟩
end Go.Proofs.YtlhpfhnbeagnaaaGreatDoor
namespace Go.Proofs.YtlhpfhnbeagnaaaGreatDoor
open Go.RowKit
open Go.Lib (decDigits)
attribute [local go_sem] Oper.semAt_some
theorem app_txt (r d : Txt) : (⟨r.toArray⟩ : ByteArray) ++ ⟨d.toArray⟩ = ⟨(r ++ d).toArray⟩ := by
  apply ByteArray.ext
  rw [ByteArray.data_append]
  simp
def txtK (x n k : Nat) : Txt := if k = 0 then [] else decDigits (x / 1000000000 ^ (n - k))
theorem txtK_first {x n : Nat} (hn : n = (toB 1000000000 x).length) (h0 : 0 < n) : txtK x n 1 = decDigits ((toB 1000000000 x).getD (n - 1) 0) := by
  unfold txtK
  rw [if_neg (by omega), getD_toB (by omega)]
  have h1 : x / 1000000000 ^ (n - 1 + 1) = 0 := by
    have h := (len_toB (B := 1000000000) (by omega) (n - 1 + 1) x)
    rw [← hn] at h
    exact Decidable.not_not.1 (fun e => by have := h.2 e; omega)
  have h2 := text_first (k := 9) (n := x) (i := n - 1) (by rw [show (10 : Nat) ^ 9 = 1000000000 from by decide]; exact h1)
  rw [show (10 : Nat) ^ 9 = 1000000000 from by decide] at h2
  rw [h2]
theorem txtK_next {x n k : Nat} (hn : n = (toB 1000000000 x).length) (h0 : 0 < k) (hk : k < n) :
    txtK x n (k + 1) = txtK x n k ++ (List.replicate (9 - (decDigits ((toB 1000000000 x).getD (n - 1 - k) 0)).length) 48 ++ decDigits ((toB 1000000000 x).getD (n - 1 - k) 0)) := by
  unfold txtK
  rw [if_neg (by omega), if_neg (by omega), getD_toB (by omega)]
  have h1 : x / 1000000000 ^ (n - 1 - k + 1) ≠ 0 := (len_toB (B := 1000000000) (by omega) _ x).1 (by omega)
  have h2 := text_next (k := 9) (n := x) (i := n - 1 - k) (by omega) (by rw [show (10 : Nat) ^ 9 = 1000000000 from by decide]; exact h1)
  rw [show (10 : Nat) ^ 9 = 1000000000 from by decide] at h2
  rw [show n - (k + 1) = n - 1 - k by omega, show n - k = n - 1 - k + 1 by omega]
  exact h2
theorem txtK_len {x n k : Nat} (hn : n = (toB 1000000000 x).length) : ∀ (_ : k ≤ n), (txtK x n k).length ≤ 9 * k := by
  induction k with
  | zero => intro _; simp [txtK]
  | succ k ih =>
    intro hk
    have hd : (decDigits ((toB 1000000000 x).getD (n - 1 - k) 0)).length ≤ 9 := digits_text _ (by
      have := okB_getD (okB_toB (B := 1000000000) (by omega) x) (by omega) (n - 1 - k)
      rw [show (10 : Nat) ^ 9 = 1000000000 from by decide]; exact this)
    by_cases h : k = 0
    · subst h
      rw [txtK_first hn (by omega)]
      exact hd
    · rw [txtK_next hn (by omega) (by omega), List.length_append, List.length_append, List.length_replicate]
      have := ih (by omega)
      omega
set_option maxHeartbeats 4000000 in
set_option maxRecDepth 100000 in
theorem text_range (cas cbd : Code) (hcode : rngOf (Tryz.f148.body.getD .skip) = [(cas, cbd)]) (x : Nat) (la : List Nat) (a : Option Addr) (ca : Nat) (w0 w3 : World) (sb bb bl : Nat)
    (hla : la.length ≤ 200) (hx : la = toB 1000000000 x) (hG : Glob w0)
    (ha : CellsN .u64 w0 a la) (E0 : Ext w0 w3) (s0 : w3.cell? ⟨sb, 0, none⟩ = some (.slice a la.length ca)) (b0 : w3.cell? ⟨bb, 0, none⟩ = some (.slice a la.length ca)) (hB0 : BldW bl w3.heap.size [] w3)
    (hsl : sb ≠ bl) (hbl : bb ≠ bl) (hwl : w0.heap.size ≤ bl) (hl3 : bl < w3.heap.size)
    (u2 u4 u5 u6 u7 u8 u9 u10 u12 u13 u14 u15 u16 u17 u18 u19 u20 u21 u22 u23 u24 u25 u26 u27 u28 u29 : Value) (ds : List Deferred) (Q : Exit → Act → World → Prop)
    (hdone : ∀ (D : Nat) (W : World), w3.heap.size ≤ D → D < W.heap.size → BldW bl w3.heap.size (txtK x la.length la.length) W → Ext w0 W → W.heap[D]? = some (.deferred (some [])) → Q .normal { tmps := #[.slice a la.length ca, .pointer (some ⟨bb, 0, none⟩), u2, .pointer (some ⟨bl, 0, none⟩), u4, u5, u6, u7, u8, u9, u10, .func (.func 188) #[] #[.pointer (some ⟨sb, 0, none⟩)], u12, u13, u14, u15, u16, u17, u18, u19, u20, u21, u22, u23, u24, u25, u26, u27, u28, u29], defers := mark D :: ds } W) :
    (Code.rangeFunc (.tmp 11) #[12, 13] cas cbd).wp Tryz.prog Q { tmps := #[.slice a la.length ca, .pointer (some ⟨bb, 0, none⟩), u2, .pointer (some ⟨bl, 0, none⟩), u4, u5, u6, u7, u8, u9, u10, .func (.func 188) #[] #[.pointer (some ⟨sb, 0, none⟩)], u12, u13, u14, u15, u16, u17, u18, u19, u20, u21, u22, u23, u24, u25, u26, u27, u28, u29], defers := ds } w3 := by
  have HC := Lib.hid hcode
  have hsz : sb < w3.heap.size := cell_lt s0
  have hbz : bb < w3.heap.size := cell_lt b0
  have hwz := E0.size
  refine wp_bwd la a ca w0 sb (by omega) ha E0 s0 rfl
    (fun k W => BldW bl w3.heap.size (txtK x la.length k) W ∧ Ext w0 W ∧ W.cell? ⟨bb, 0, none⟩ = some (.slice a la.length ca) ∧ w3.heap.size ≤ W.heap.size) (fun _ _ => False)
    (fun k A B h q => ⟨h.1.keep q, h.2.1.trans' q.1 hwz, q.cell h.2.2.1, Nat.le_trans h.2.2.2 q.1.size⟩) (fun k A B h q => h.elim)
    (fun k A B h q => ⟨h.1.ext q, h.2.1.trans q, q.cell h.2.2.1, Nat.le_trans h.2.2.2 q.size⟩) ⟨hB0, E0, b0, Nat.le_refl _⟩
    (fun k a' W => a' = { tmps := #[.slice a la.length ca, .pointer (some ⟨bb, 0, none⟩), u2, .pointer (some ⟨bl, 0, none⟩), .int .i64 ((la.length : Int) - 1 - (k : Int)), .int .u64 (la.getD (la.length - 1 - k) 0 : Nat), u6, u7, u8, u9, u10, .func (.func 188) #[] #[.pointer (some ⟨sb, 0, none⟩)], .int .i64 ((la.length : Int) - 1 - (k : Int)), .int .u64 (la.getD (la.length - 1 - k) 0 : Nat), u14, u15, u16, u17, u18, u19, u20, u21, u22, u23, u24, u25, u26, u27, u28, u29], defers := [] }) (fun k a' A B h _ => h)
    ?assign ?body (fun D W h1 h2 h3 h4 => hdone D W h1 h2 h3.1 h3.2.1 h4) (fun _ _ _ _ _ _ h _ => h.elim)
  case assign =>
    simp only [Tryz.f148, rngOf, Option.getD, List.nil_append, List.append_nil] at hcode
    cases hcode
    intro l' k m W K hm hI hK
    clear HC hx
    unfold bwEnc
    gi_wp2
    exact hK _ _ (Ext.refl _) rfl
  case body =>
    simp only [Tryz.f148, rngOf, Option.getD, List.nil_append, List.append_nil] at hcode
    cases hcode
    rintro l' k a' W hk hm ⟨hI, EW, b1, hz⟩ rfl
    obtain ⟨n, hn⟩ : ∃ n, n = la.length - 1 - k := ⟨_, rfl⟩
    have e3 : (la.length : Int) - 1 - (k : Int) = (n : Int) := by omega
    have hxb : la.getD n 0 < 1000000000 := okB_getD (by rw [hx]; exact okB_toB (by omega) x) (by omega) n
    have hdl : (decDigits (la.getD n 0)).length ≤ 9 := digits_text _ (by rw [show (10 : Nat) ^ 9 = 1000000000 from by decide]; exact hxb)
    have htl := txtK_len (x := x) (n := la.length) (k := k) (by rw [hx]) (by omega)
    have hk0 : k = 0 → txtK x la.length (k + 1) = txtK x la.length k ++ decDigits (la.getD n 0) := fun e => by
      subst e
      have := txtK_first (x := x) (n := la.length) (by rw [hx]) (by omega)
      rw [this, hn, hx]; rfl
    have hk1 : 0 < k → txtK x la.length (k + 1) = txtK x la.length k ++ (List.replicate (9 - (decDigits (la.getD n 0)).length) 48 ++ decDigits (la.getD n 0)) := fun e => by
      have := txtK_next (x := x) (n := la.length) (k := k) (by rw [hx]) e hk
      rw [this, hn, hx]
    rw [← hn, e3]
    have HF := Lib.hid (fun W' (hW : Ext w0 W') => FormatUint_any (la.getD n 0) W' (by omega) (hG.ext hW).tab)
    generalize la.getD n 0 = y at *
    generalize decDigits y = d at *
    have HI := Lib.hid hI
    have HK := Lib.hid (And.intro hk0 hk1)
    clear HC hI hk0 hk1 E0 ha s0 b0 hB0 hdone hx hG hxb
    by_cases h0 : k = 0
    · have HK0 := Lib.hid (HK.out.1 h0)
      have hnk : n = la.length - 1 := by omega
      have hi1 : ¬ (n : Int) < (la.length : Int) - 1 := by omega
      have hw1 : IntKind.i64.wrap ((la.length : Int) - 1) = (la.length : Int) - 1 := by rw [IntKind.wrap_i64]; omega
      clear HK h0 hn e3 hnk
      gi_wp2_with fail
      refine ⟨trivial, rfl, ?_⟩
      gi_at_call 163
      refine (callsIn_wide.2 (HF.out _ EW)).mono ?_
      rintro e w5 ⟨rfl, hE5⟩
      have b5 := hE5.cell b1
      have HWS := Lib.hid (WriteString_any bl w3.heap.size (txtK x la.length k) d w5 (HI.out.ext hE5) hl3 (Nat.le_trans hz hE5.size) (by omega))
      have E5 := EW.trans hE5
      have HE5 := Lib.hid hE5
      clear hE5 b1 HF HI
      gi_wp2_with fail
      refine ⟨trivial, rfl, ?_⟩
      gi_at_call 165
      refine (callsIn_wide.2 HWS.out).mono ?_
      rintro e w6 ⟨rfl, hB6, hL6, M, hM1, hM2, hM3⟩
      rw [← HK0.out] at hB6
      have hCC : Chg M W w6 := (Chg.ext HE5.out).trans hM1
      have hb6 : w6.cell? ⟨bb, 0, none⟩ = some (.slice a la.length ca) := hM1.cellAt b5 (fun h => by rcases hM2 _ h with h | h <;> dsimp only at h <;> omega)
      have HF := Lib.hid (show BldW bl w3.heap.size (txtK x la.length (k + 1)) w6 ∧ Ext w0 w6 ∧ w6.cell? ⟨bb, 0, none⟩ = some (.slice a la.length ca) ∧ w3.heap.size ≤ w6.heap.size from ⟨hB6, E5.trans' hL6 hwl, hb6, by have := hCC.1; omega⟩)
      have HM := Lib.hid (show (∀ b, M b → b ≠ sb ∧ w0.heap.size ≤ b) ∧ ∀ b, M b → ∀ o, W.heap[b]? = some o → o.isCells = true from ⟨fun b hb => by rcases hM2 b hb with h | h <;> exact ⟨by omega, by omega⟩, fun b hb o ho => hM3 b hb o (by rw [Below.block HE5.out b (Array.getElem?_eq_some_iff.1 ho).1]; exact ho)⟩)
      have HCC := Lib.hid hCC
      clear hB6 hL6 hb6 b5 hCC hM1 hM2 hM3 HWS
      gi_wp2
      exact ⟨⟨M, HCC.out, HM.out.1, HM.out.2⟩, HF.out⟩
    · have HK0 := Lib.hid (HK.out.2 (by omega))
      have hi1 : (n : Int) < (la.length : Int) - 1 := by omega
      have hw1 : IntKind.i64.wrap ((la.length : Int) - 1) = (la.length : Int) - 1 := by rw [IntKind.wrap_i64]; omega
      obtain ⟨q, hq⟩ : ∃ q, q = 9 - d.length := ⟨_, rfl⟩
      have hw2 : IntKind.i64.wrap (9 - (d.length : Int)) = (q : Int) := by rw [IntKind.wrap_i64]; omega
      rw [← hq] at HK0
      have HRP := Lib.hid (fun W' => Repeat_any q W' (by omega))
      have hql : q ≤ 9 := by omega
      clear HK h0 hn e3 hq
      gi_wp2_with fail
      refine ⟨trivial, rfl, ?_⟩
      gi_at_call 163
      refine (callsIn_wide.2 (HF.out _ EW)).mono ?_
      rintro e w4 ⟨rfl, hE4⟩
      have b4 := hE4.cell b1
      have E4 := EW.trans hE4
      have HI4 := Lib.hid (HI.out.ext hE4)
      have HE4 := Lib.hid hE4
      clear hE4 b1 HF HI
      gi_wp2_with fail
      refine ⟨trivial, rfl, ?_⟩
      gi_at_call 164
      refine (callsIn_wide.2 (HRP.out _)).mono ?_
      rintro e w5 ⟨rfl, hE5⟩
      have b5 := hE5.cell b4
      have E5 := E4.trans hE5
      have HE5 := Lib.hid (HE4.out.trans hE5)
      have hd2 : ((List.replicate q (48 : UInt8)) ++ d).length ≤ 18 := by rw [List.length_append, List.length_replicate]; omega
      have HWS := Lib.hid (WriteString_any bl w3.heap.size (txtK x la.length k) (List.replicate q 48 ++ d) w5 (HI4.out.ext hE5) hl3 (Nat.le_trans hz HE5.out.size) (by omega))
      clear hE5 b4 HI4
      have hsum : ¬ 9223372036854775807 < (List.replicate q (48 : UInt8)).length + d.length := by rw [List.length_replicate]; omega
      generalize List.replicate q (48 : UInt8) = r at *
      have happ := app_txt r d
      gi_wp2_with fail
      refine ⟨trivial, rfl, ?_⟩
      gi_at_call 165
      refine (callsIn_wide.2 HWS.out).mono ?_
      rintro e w6 ⟨rfl, hB6, hL6, M, hM1, hM2, hM3⟩
      rw [← HK0.out] at hB6
      have hCC : Chg M W w6 := (Chg.ext HE5.out).trans hM1
      have hb6 : w6.cell? ⟨bb, 0, none⟩ = some (.slice a la.length ca) := hM1.cellAt b5 (fun h => by rcases hM2 _ h with h | h <;> dsimp only at h <;> omega)
      have HF := Lib.hid (show BldW bl w3.heap.size (txtK x la.length (k + 1)) w6 ∧ Ext w0 w6 ∧ w6.cell? ⟨bb, 0, none⟩ = some (.slice a la.length ca) ∧ w3.heap.size ≤ w6.heap.size from ⟨hB6, E5.trans' hL6 hwl, hb6, by have := hCC.1; omega⟩)
      have HM := Lib.hid (show (∀ b, M b → b ≠ sb ∧ w0.heap.size ≤ b) ∧ ∀ b, M b → ∀ o, W.heap[b]? = some o → o.isCells = true from ⟨fun b hb => by rcases hM2 b hb with h | h <;> exact ⟨by omega, by omega⟩, fun b hb o ho => hM3 b hb o (by rw [Below.block HE5.out b (Array.getElem?_eq_some_iff.1 ho).1]; exact ho)⟩)
      have HCC := Lib.hid hCC
      clear hB6 hL6 hb6 b5 hCC hM1 hM2 hM3 HWS
      gi_wp2
      exact ⟨⟨M, HCC.out, HM.out.1, HM.out.2⟩, HF.out⟩
set_option maxHeartbeats 4000000 in
set_option maxRecDepth 100000 in
theorem text_any (x : Nat) (la : List Nat) (a : Option Addr) (ca : Nat) (w : World) (hx : la = toB 1000000000 x) (hla : la.length ≤ 200) (hG : Glob w) (ha : CellsN .u64 w a la) :
    Calls Tryz.prog 148 #[.slice a la.length ca] w fun e w' => e = .returned (txt (decDigits x)) ∧ Ext w w' := by
  have HX := Lib.hid hx
  have HA := Lib.hid ha
  have HG := Lib.hid hG
  clear hx ha hG
  refine (callsIn_wide (n := 0)).1 ?_
  refine callsIn_of_wp_marks Tryz.func148 rfl trivial ?_
  simp only [Tryz.ntmps148, List.size_toArray, List.length_cons, List.length_nil, Nat.reduceAdd, Nat.reduceSub, Array.replicate_succ, Array.replicate_zero, List.push_toArray, List.append_toArray, List.nil_append, List.cons_append]
  by_cases h0 : la.length = 0
  · have hx0 : decDigits x = [48] := by
      have hl0 : la = [] := List.length_eq_zero_iff.1 h0
      have : x = 0 := (toB_nil (by omega)).1 (HX.out.symm.trans hl0)
      rw [this, digits_small (by omega)]; rfl
    have hn0 : ((la.length : Int) == 0) = true := by simp [h0]
    have E : Ext w (w.alloc (.cells #[.slice a la.length ca] 155)) := extA
    have HXX := Lib.hid hx0
    clear h0 hx0
    gi_wp2
    refine leaves_cells (v := txt [48]) (n := w.heap.size) [] _ (Marks.nil _ _) (fun W6 hk => ⟨(results_tmp (t := 2) rfl _ _ _).trans rfl, by rw [HXX.out], E.trans' hk.1 (Nat.le_refl _)⟩)
  · have hn0 : ((la.length : Int) == 0) = false := by rw [beq_eq_false_iff_ne]; omega
    have EV : Ext w (((w.alloc (.cells #[.slice a la.length ca] 155)).alloc (.cells #[.pointer none, .slice none 0 0] 198)).alloc (.cells #[.slice a la.length ca] 155)) := extA
    have b3 : ((((w.alloc (.cells #[.slice a la.length ca] 155)).alloc (.cells #[.pointer none, .slice none 0 0] 198)).alloc (.cells #[.slice a la.length ca] 155))).cell? ⟨w.heap.size, 0, none⟩ = some (.slice a la.length ca) := by go_simp
    have s3 : ((((w.alloc (.cells #[.slice a la.length ca] 155)).alloc (.cells #[.pointer none, .slice none 0 0] 198)).alloc (.cells #[.slice a la.length ca] 155))).cell? ⟨w.heap.size + 1 + 1, 0, none⟩ = some (.slice a la.length ca) := by go_simp
    have hs3 : ((w.alloc (.cells #[.slice a la.length ca] 155)).alloc (.cells #[.pointer none, .slice none 0 0] 198)).heap.size = w.heap.size + 1 + 1 := by simp
    have hb3 : (((w.alloc (.cells #[.slice a la.length ca] 155)).alloc (.cells #[.pointer none, .slice none 0 0] 198)).alloc (.cells #[.slice a la.length ca] 155)).heap[w.heap.size + 1]? = some (.cells #[.pointer none, .slice none 0 0] 198 (0, 0)) := by
      have h1 : ((w.alloc (.cells #[.slice a la.length ca] 155)).alloc (.cells #[.pointer none, .slice none 0 0] 198)).heap[w.heap.size + 1]? = some (.cells #[.pointer none, .slice none 0 0] 198 (0, 0)) := by
        have := World.alloc_heap_new (w.alloc (.cells #[.slice a la.length ca] 155)) (.cells #[.pointer none, .slice none 0 0] 198)
        rwa [World.size_alloc] at this
      exact (Below.heap_alloc _ _ _ (by simp)).trans h1
    gi_wp2_with fail
    refine ⟨trivial, rfl, ?_⟩
    gi_at_call 156
    refine (callsIn_wide.2 (Backward_any a la.length ca _)).mono ?_
    rintro e w3 ⟨rfl, rfl⟩
    rw [hs3]
    clear hs3
    generalize (((w.alloc (.cells #[.slice a la.length ca] 155)).alloc (.cells #[.pointer none, .slice none 0 0] 198)).alloc (.cells #[.slice a la.length ca] 155)) = w3 at EV b3 s3 hb3 ⊢
    have hz3 := EV.size
    have hsz : w.heap.size + 1 + 1 < w3.heap.size := cell_lt s3
    gi_wp2_with fail
    refine wpIn_wide.2 (text_range _ _ rfl x la a ca w w3 (w.heap.size + 1 + 1) w.heap.size (w.heap.size + 1) hla HX.out HG.out HA.out EV s3 b3 (BldW.fresh hb3) (by omega) (by omega) (by omega) (by omega) _ _ _ _ _ _ _ _ _ _ _ _ _ _ _ _ _ _ _ _ _ _ _ _ _ _ [] _ ?_)
    intro D W k1 k2 hW E4 hD
    have ht : txtK x la.length la.length = decDigits x := by
      unfold txtK
      rw [if_neg h0, Nat.sub_self, Nat.pow_zero, Nat.div_one]
    rw [ht] at hW
    have hz4 := E4.size
    have HS := Lib.hid (Tryz.Builder_String_any_k (w.heap.size + 1) (w.heap.size + 1) (decDigits x) W (Lib.IsBuilderF.of (hW.is (by omega))) (by omega))
    have HD := Lib.hid hD
    clear b3 s3 hb3 hW hD ht
    gi_wp2_with fail
    refine ⟨trivial, rfl, ?_⟩
    gi_at_call 166
    refine (callsIn_wide.2 HS.out).mono ?_
    rintro e w5 ⟨rfl, _, hE5, hO5⟩
    have E5 := E4.trans' hE5 (Nat.le_succ _)
    have HD5 : Hid (w5.heap[D]? = some (.deferred (some []))) := by
      show _ = _
      exact hO5 D _ HD.out (fun e => by cases e; omega) (fun _ _ h => by cases h)
    clear hE5 hO5 HD HS E4
    gi_wp2
    refine leaves_cells (v := txt (decDigits x)) (n := w3.heap.size) [mark D] _ ⟨[D], rfl, by simp, fun E hE => by simp at hE; subst hE; exact ⟨k1, HD5.out⟩⟩ (fun W6 hk => ⟨(results_tmp (t := 2) rfl _ _ _).trans rfl, rfl, E5.trans' hk.1 hz3⟩)
end Go.Proofs.YtlhpfhnbeagnaaaGreatDoor
namespace Go.Proofs.YtlhpfhnbeagnaaaGreatDoor
open Go.RowKit
open Go.Lib (decDigits)
theorem dig_mod {z k : Nat} (hk : k < 6) : z % 1000000 / 10 ^ k % 10 = z / 10 ^ k % 10 := by
  rcases k with _ | _ | _ | _ | _ | _ | k <;> (try simp only [Nat.zero_add, Nat.reduceAdd, Nat.reducePow]) <;> omega
structure DigK (x i k n : Nat) (s : List UInt8) (last : Prop) : Prop where
  s : s = padD (6 * i + k) x
  n : n = x / 1000000 ^ i % 1000000 / 10 ^ k
  hi : last → x / 1000000 ^ (i + 1) = 0 ∧ x / 1000000 ^ i ≠ 0
  pos : last → 0 < k → x / 1000000 ^ i % 1000000 / 10 ^ (k - 1) ≠ 0
theorem DigK.next {x i k n : Nat} {s : List UInt8} {last : Prop} (h : DigK x i k n s last) (hk : k < 6) (hn : last → n ≠ 0) : DigK x i (k + 1) (n / 10) (UInt8.ofNat (48 + n % 10) :: s) last := by
  refine ⟨?_, ?_, h.hi, fun hl _ => ?_⟩
  · rw [h.s, show 6 * i + (k + 1) = (6 * i + k) + 1 by omega, padD_cons]
    have e : x / 10 ^ (6 * i + k) % 10 = n % 10 := by
      rw [h.n, dig_mod hk, Nat.div_div_eq_div_mul, Nat.pow_add, Nat.pow_mul]
    rw [e]
  · rw [h.n, Nat.div_div_eq_div_mul, Nat.pow_succ]
  · rw [Nat.add_sub_cancel, ← h.n]; exact hn hl
theorem DigK.outer {x i n : Nat} {s : List UInt8} {last : Prop} (h : DigK x i 6 n s last) : s = padD (6 * (i + 1)) x := by
  rw [h.s, show 6 * i + 6 = 6 * (i + 1) by omega]
theorem DigK.done {x i k : Nat} {s : List UInt8} {last : Prop} (h : DigK x i k 0 s last) (hl : last) (hk : k ≤ 6) : s = decDigits x := by
  obtain ⟨h1, h2⟩ := h.hi hl
  have hx : x / 1000000 ^ i % 1000000 = x / 1000000 ^ i := by
    rw [Nat.pow_succ, ← Nat.div_div_eq_div_mul] at h1
    exact Nat.mod_eq_of_lt ((Nat.div_eq_zero_iff_lt (by omega)).1 h1)
  have hn := h.n
  have hp := h.pos hl
  rw [hx] at hn hp
  have hk0 : 0 < k := by
    rcases Nat.eq_zero_or_pos k with e | e
    · subst e; rw [Nat.pow_zero, Nat.div_one] at hn; exact absurd hn.symm h2
    · exact e
  have hp := hp hk0
  have e1 : x / 10 ^ (6 * i + k) = 0 := by
    rw [Nat.pow_add, Nat.pow_mul, ← Nat.div_div_eq_div_mul]; exact hn.symm
  have e2 : x / 10 ^ (6 * i + k - 1) ≠ 0 := by
    rw [show 6 * i + k - 1 = 6 * i + (k - 1) by omega, Nat.pow_add, Nat.pow_mul, ← Nat.div_div_eq_div_mul]; exact hp
  rw [h.s]
  refine padD_all (by omega) ((Nat.div_eq_zero_iff_lt (Nat.pow_pos (by omega))).1 e1) ?_
  rcases Nat.lt_or_ge x (10 ^ (6 * i + k - 1)) with h5 | h5
  · exact absurd (Nat.div_eq_of_lt h5) e2
  · exact h5
end Go.Proofs.YtlhpfhnbeagnaaaGreatDoor
namespace Go.Proofs.YtlhpfhnbeagnaaaGreatDoor
open Go.RowKit
open Go.Lib (decDigits)
end Go.Proofs.YtlhpfhnbeagnaaaGreatDoor
namespace Go.Proofs.YtlhpfhnbeagnaaaGreatDoor
open Go.RowKit
open Go.Lib (decDigits)
end Go.Proofs.YtlhpfhnbeagnaaaGreatDoor
namespace Go.Proofs.YtlhpfhnbeagnaaaGreatDoor
open Go.RowKit
open Go.Lib (decDigits)
end Go.Proofs.YtlhpfhnbeagnaaaGreatDoor
namespace Go.Proofs.YtlhpfhnbeagnaaaGreatDoor
open Go.RowKit
theorem index_slash (s : Txt) : Lib.index s [47] = if 47 ∈ s then ((topS s).length : Int) else -1 := by
  induction s with
  | nil => rfl
  | cons c s ih =>
    unfold Lib.index
    by_cases h : c = 47
    · subst h
      rw [if_pos (by simp [List.isPrefixOf]), if_pos (List.mem_cons_self ..)]
      simp [topS]
    · have h1 : ([47].isPrefixOf (c :: s) : Bool) = false := by
        simp only [List.isPrefixOf, Bool.and_eq_false_imp]
        intro e
        exact absurd (by simpa using e) (fun e => h (Eq.symm e))
      have h2 : topS (c :: s) = c :: topS s := by
        unfold topS
        rw [List.takeWhile_cons, if_pos (by simpa using h)]
      have h3 : (47 ∈ c :: s) ↔ 47 ∈ s := by
        rw [List.mem_cons]
        exact ⟨fun e => e.resolve_left (fun e => h e.symm), .inr⟩
      rw [h1, if_neg (by simp), ih, h2]
      by_cases hm : 47 ∈ s
      · rw [if_pos hm, if_pos (h3.2 hm), if_neg (by rw [beq_iff_eq]; omega)]
        simp
      · rw [if_neg hm, if_neg (fun e => hm (h3.1 e))]
        simp
theorem cut_slash (s : Txt) : Lib.cut s [47] = (topS s, if 47 ∈ s then lowS s else [], decide (47 ∈ s)) := by
  unfold Lib.cut
  rw [index_slash]
  by_cases h : 47 ∈ s
  · rw [if_pos h, if_pos (by omega), if_pos h, decide_eq_true h, Int.toNat_natCast]
    have e := split_some h
    have key : ∀ t u : Txt, (t ++ 47 :: u).take t.length = t ∧ (t ++ 47 :: u).drop (t.length + 1) = u := fun t u =>
      ⟨List.take_left .., by rw [← List.drop_drop, List.drop_left]; rfl⟩
    have k := key (topS s) (lowS s)
    rw [← e] at k
    rw [List.length_singleton, k.1, k.2]
  · rw [if_neg h, if_neg (by omega), if_neg h, decide_eq_false h, (split_none h).1]
theorem Cut_any (s : Txt) (w : World) (hG : Glob w) (hl : s.length ≤ 1000) :
    Calls Tryz.prog 134 #[txt s, txt [47]] w fun e w' => e = .returned (.tuple #[txt (topS s), txt (if 47 ∈ s then lowS s else []), .bool (decide (47 ∈ s))]) ∧ Ext w w' := by
  obtain ⟨m, hm⟩ := hG.len
  refine (Tryz.strings_Cut ⟨s.toArray⟩ ⟨#[47]⟩ m w (by show s.toArray.size < _; simp; omega) hm).mono fun e w' h => ?_
  have := cut_slash s
  obtain ⟨h1, n, rfl⟩ := h
  refine ⟨?_, Ext.drewN (Ext.refl w) n⟩
  have e1 : ((⟨s.toArray⟩ : ByteArray).data.toList) = s := rfl
  have e2 : ((⟨#[47]⟩ : ByteArray).data.toList) = [47] := rfl
  rw [e1, e2, this] at h1
  exact h1
def NewB (x : Nat) (w : World) (e : Ending) (w' : World) : Prop := ∃ a c, e = .returned (.slice a (toB 1000000000 x).length c) ∧ CellsN .u64 w' a (toB 1000000000 x) ∧ (∀ p, a = some p → w.heap.size ≤ p.block) ∧ Ext w w'
theorem OwnNPost.newB {x : Nat} {w : World} {e : Ending} {w' : World} (h : OwnNPost .u64 153 (toB 1000000000 x) w e w') : NewB x w e w' := by
  obtain ⟨v, h1, h2, h3, h4⟩ := h
  obtain ⟨a, c, rfl, h5, _⟩ := h2.reads
  exact ⟨a, c, h1, h5, (fun p hp => h3 p.block (by rw [hp]; rfl)), h4⟩
theorem CellsN.set {k : IntKind} {A : World} {a : Option Addr} {l : List Nat} (h : CellsN k A a l) {c o : Nat} {v : Value} (hn : ∀ p, a = some p → p.block ≠ c) : CellsN k (A.setCell ⟨c, o, none⟩ v) a l := fun i hi => by
  obtain ⟨b, off, h1, h2⟩ := h i hi
  refine ⟨b, off, h1, ?_⟩
  have := hn _ h1
  rw [World.cell?_setCell_other _ _ _ _ (fun h => by simp only [Addr.mk.injEq] at h; exact this h.1.symm)]
  exact h2
theorem bare_len (s : Txt) : (bareS s).length ≤ s.length := by
  unfold bareS
  split
  · rw [List.length_tail]; omega
  · exact Nat.le_refl _
set_option maxHeartbeats 2000000 in
theorem signed_any (s : Txt) (w : World) (hs : DigitL (bareS s)) (hl : s.length ≤ 500) :
    Calls Tryz.prog 137 #[txt s] w fun e w' => ∃ a c, e = .returned (.tuple #[.bool (negS s), .slice a (toB 1000000000 (decV (bareS s))).length c]) ∧ CellsN .u64 w' a (toB 1000000000 (decV (bareS s))) ∧ (∀ p, a = some p → w.heap.size ≤ p.block) ∧ Ext w w' := by
  have HT := Lib.hid (fun W => CutPrefix_any s W)
  have HR := Lib.hid (fun W => read_any (bareS s) W hs (Nat.le_trans (bare_len s) hl))
  generalize decV (bareS s) = x at *
  generalize bareS s = d at *
  generalize negS s = ng at *
  clear hs
  go_enter Tryz.func137, Tryz.ntmps137
  go_wp2_with (first
    | (go_at_call 152; refine (HT.out _).mono ?_; rintro e w' ⟨rfl, rfl⟩)
    | (go_at_call 155; refine (HR.out _).mono ?_; rintro e w' h; obtain ⟨a, c, rfl, hC, hN, hE⟩ := h.newB))
  go_ret2
  exact ⟨a, c, rfl, hC, hN, hE⟩
end Go.Proofs.YtlhpfhnbeagnaaaGreatDoor
