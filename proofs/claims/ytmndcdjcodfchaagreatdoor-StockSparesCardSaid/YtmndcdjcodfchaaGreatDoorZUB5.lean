/- Steps of the proof: FDiv, FQuoP, FQuoR, FShaR, Shelf, FGlob, FInt, FRead, FFmt, FBld, FText, FDigR, FRedR, FTxtR, FSplR, FSig. No conditions. -/
import Derived.Shelf.Strings.Builder1
import Derived.Shelf.Strings.Builder2
import Derived.Shelf.Strings.Trim
import Derived.Shelf.Small.Utf8
import Derived.Shelf.Small.Strs
import Derived.Shelf.Small.Wraps
import Derived.Shelf.Strings.BuilderF
import Derived.Shelf.Strings.BuilderK
import Derived.Shelf.Strings.Builder2Cap
import Derived.Shelf.Strconv.Itoa0
import Derived.Shelf.Strconv.Itoa1
import Derived.Shelf.LaysM
import Derived.Shelf.Strconv.Itoa2
import Derived.Shelf.Strconv.Itoa3
import Derived.Shelf.Strconv.Clone
import Derived.Shelf.Strconv.SyntaxError
import Derived.Shelf.LaysC
import Derived.Shelf.Strconv.ToError
import Derived.Shelf.Strconv.Lower
import Derived.Shelf.Strconv.ParseUint10
import Derived.Shelf.Strconv.ParseUint10Empty
import Derived.Shelf.Strconv.ParseUint10Any
import Derived.Shelf.Strconv.RangeError
import Derived.Shelf.Strconv.ToErrorRange
import Derived.Shelf.Strconv.ParseUintEmpty
import Derived.Shelf.Strconv.ParseUint10b64
import Derived.Shelf.Strconv.ParseUint10b32
import Derived.Shelf.Strconv.ParseUint10b16
import Derived.Shelf.Strconv.ParseUint10b8
import Derived.Shelf.Strconv.ParseUint10At
import Derived.Ground.MpProg
import Derived.Shelf.Pu.ParseUintPublic10
import Derived.Shelf.Pu.ErrVarParseUint
import Derived.Shelf.Strings.Search1
import Derived.Shelf.Strings.Search2
import Derived.Shelf.Strings.Cut
import Derived.Shelf.Strings.Shaped
import Derived.Shelf.Strings.Prefix
import Derived.Shelf.Unicode.Decode
import Derived.Shelf.Strings.Runes
import Derived.Shelf.Strings.AsciiSet
import Derived.Shelf.Bits.Mul64
import Derived.Shelf.Strings.Repeat
import Derived.Shelf.Unicode.DecodeSlow
import Derived.Shelf.Unicode.DecodeAny
import Derived.Shelf.Unicode.DecodeLast
import Derived.Shelf.Strings.BuilderCap
import Derived.Shelf.Slices.Turned
import Derived.Shelf.Slices.Equal
import Derived.Ground.Names2Prog
import Derived.Shelf.Slices.Clone
import Derived.Shelf.Slices.SearchI
import Derived.Shelf.Slices.Empties2
import Derived.Ground.SlgnProg
import Derived.Shelf.SlicesE.Reverse
import Derived.Shelf.SlicesE.Clone
import Derived.Test.YtmndcdjcodfchaaGreatDoorProg
import Derived.Lib.SlTrimSet
import Derived.Shelf.Strings.SlTrimAscii
import Derived.Test.YtmndcdjcodfchaaGreatDoorZUB1
import Derived.Test.YtmndcdjcodfchaaGreatDoorZUB2
import Derived.Test.YtmndcdjcodfchaaGreatDoorZUB3
import Derived.Test.YtmndcdjcodfchaaGreatDoorZUB4
namespace Go.Proofs.YtmndcdjcodfchaaGreatDoor
open Go.RowKit
def readN (w : World) (a : Option Addr) (n : Nat) : List Nat := (List.range n).map fun i => match a with
  | some p => (match w.cell? ⟨p.block, p.off + i, none⟩ with | some (.int _ z) => z.toNat | _ => 0)
  | none => 0
theorem readN_eq {k : IntKind} {w : World} {a : Option Addr} {l : List Nat} (h : CellsN k w a l) : readN w a l.length = l := by
  apply List.ext_getElem (by simp [readN])
  intro i h1 h2
  obtain ⟨b, off, rfl, hc⟩ := h i h2
  simp [readN, hc, List.getD_eq_getElem?_getD, h2]
def natOf (w : World) : Value → Nat
  | .slice a n _ => valB 1000000000 (readN w a n)
  | _ => 0
theorem ordN_ge {a b : Nat} : 0 ≤ ordN a b ↔ b ≤ a := by
  unfold ordN
  by_cases h : a < b
  · rw [if_pos h]; omega
  · rw [if_neg h]
    by_cases k : b < a
    · rw [if_pos k]; omega
    · rw [if_neg k]; omega
def NewC (x : Nat) (w : World) (e : Ending) (w' : World) : Prop := ∃ a c, e = .returned (.slice a (toB 1000000000 x).length c) ∧ CellsN .u64 w' a (toB 1000000000 x) ∧ Ext w w'
theorem OwnNPost.newC {x : Nat} {w : World} {e : Ending} {w' : World} (h : OwnNPost .u64 139 (toB 1000000000 x) w e w') : NewC x w e w' := by
  obtain ⟨v, h1, h2, _, h4⟩ := h
  obtain ⟨a, c, rfl, h5, _⟩ := h2.reads
  exact ⟨a, c, h1, h5, h4⟩
theorem natOf_eq {w : World} {a : Option Addr} {x c : Nat} (h : CellsN .u64 w a (toB 1000000000 x)) : natOf w (.slice a (toB 1000000000 x).length c) = x := by
  unfold natOf
  simp only
  rw [readN_eq h, valB_toB (by omega)]
theorem len_pos {x : Nat} (h : x ≠ 0) : 0 < (toB 1000000000 x).length := by rw [toB_pos (by omega) h]; simp
theorem len_zero {x : Nat} (h : x = 0) : (toB 1000000000 x).length = 0 := by rw [h, toB_zero]; rfl
theorem len_le {x : Nat} (h : x < 1000000000 ^ 101) : (toB 1000000000 x).length ≤ 101 := toB_len (by omega) 101 h
theorem lt_of_len {l : List Nat} {x : Nat} (h : l = toB 1000000000 x) (hl : l.length ≤ 100) : x < 1000000000 ^ 100 := by
  have h1 := valB_lt (okB_toB (B := 1000000000) (by omega) x)
  rw [valB_toB (by omega), ← h] at h1
  exact Nat.lt_of_lt_of_le h1 (Nat.pow_le_pow_right (by omega) hl)
theorem pow_le_two {a b c : Nat} (h : 1000000000 ≤ 2 ^ b) (k : b * a ≤ c) : 1000000000 ^ a ≤ 2 ^ c := by
  have h1 := Nat.pow_le_pow_left h a
  rw [← Nat.pow_mul] at h1
  exact Nat.le_trans h1 (Nat.pow_le_pow_right (by omega) k)
theorem GcdI.t_lt_of {x y a b t N k : Nat} (h : GcdI x y a b t) (hxy : x + y < 1000000000 ^ k) (hN : 30 * k ≤ N) : t < N := by
  have h1 : 2 ^ t ≤ (a + b) * 2 ^ t := Nat.le_mul_of_pos_left _ h.pos
  have h2 : 2 ^ t < 1000000000 ^ k := Nat.lt_of_le_of_lt (Nat.le_trans h1 h.le) hxy
  have h3 : 1000000000 ^ k ≤ 2 ^ N := pow_le_two (b := 30) (by omega) hN
  exact (Nat.pow_lt_pow_iff_right (by omega)).1 (Nat.lt_of_lt_of_le h2 h3)
theorem GcdI.t_lt {x y a b t : Nat} (h : GcdI x y a b t) (hxy : x + y < 1000000000 ^ 101) : t < 5000 := h.t_lt_of hxy (by omega)
theorem GcdI.ab_le {x y a b t : Nat} (h : GcdI x y a b t) : a + b ≤ x + y := Nat.le_trans (Nat.le_mul_of_pos_right _ (Nat.pow_pos (by omega))) h.le
structure DivW (x y : Nat) (w0 : World) (va vb : Value) (a b t : Nat) (w : World) : Prop where
  g : GcdI x y a b t
  a : ∃ pa pc, va = .slice pa (toB 1000000000 a).length pc ∧ CellsN .u64 w pa (toB 1000000000 a)
  b : ∃ qa qc, vb = .slice qa (toB 1000000000 b).length qc ∧ CellsN .u64 w qa (toB 1000000000 b)
  e : Ext w0 w
set_option maxHeartbeats 8000000 in
set_option maxRecDepth 100000 in
theorem divisor_any (x y : Nat) (la lb : List Nat) (a b : Option Addr) (ca cb : Nat) (w : World) (hx : la = toB 1000000000 x) (hy : lb = toB 1000000000 y) (hxy : 0 < x + y)
    (hla : la.length ≤ 100) (hlb : lb.length ≤ 100) (ha : CellsN .u64 w a la) (hb : CellsN .u64 w b lb) :
    Calls Tryz.prog 101 #[.slice a la.length ca, .slice b lb.length cb] w (OwnNPost .u64 139 (toB 1000000000 (Nat.gcd x y)) w) := by
  have hxl := lt_of_len hx hla
  have hyl := lt_of_len hy hlb
  have hxyB : x + y < 1000000000 ^ 101 := by
    have : (1000000000 : Nat) ^ 101 = 1000000000 * 1000000000 ^ 100 := by rw [Nat.pow_succ, Nat.mul_comm]
    omega
  subst hx hy
  have HXY := Lib.hid hxyB
  have W0 : Hid (DivW x y w (.slice a (toB 1000000000 x).length ca) (.slice b (toB 1000000000 y).length cb) x y 0 w) := ⟨GcdI.start hxy, ⟨_, _, rfl, ha⟩, ⟨_, _, rfl, hb⟩, Ext.refl _⟩
  clear hxl hyl hxyB ha hb hxy
  generalize Value.slice a (toB 1000000000 x).length ca = va0 at W0 ⊢
  generalize Value.slice b (toB 1000000000 y).length cb = vb0 at W0 ⊢
  clear hla hlb
  go_enter Tryz.func101, Tryz.ntmps101
  go_wp2
  go_loopw [0, 1, 5] (fun va vb tw wr => ∃ (p q t : Nat), tw = .int .i64 (t : Int) ∧ Hid (DivW x y w va vb p q t wr)) (fun va vb _ wr => natOf wr va + natOf wr vb)
  case atStart => exact ⟨x, y, 0, rfl, W0.out⟩
  case round =>
    obtain ⟨p, q, t, rfl, HW⟩ := hrel
    obtain ⟨hg, ⟨pa, pc, rfl, hpc⟩, ⟨qa, qc, rfl, hqc⟩, he⟩ := HW.out
    have hpq := hg.ab_le
    have hxb := HXY.out
    have hpl := len_le (x := p) (by omega)
    have hql := len_le (x := q) (by omega)
    have ht := hg.t_lt hxb
    have HM : Hid (natOf wr (.slice pa (toB 1000000000 p).length pc) + natOf wr (.slice qa (toB 1000000000 q).length qc) = p + q) := by
      show _ = _
      rw [natOf_eq hpc, natOf_eq hqc]
    have HG := Lib.hid hg
    have HP := Lib.hid hpc
    have HQ := Lib.hid hqc
    have HE := Lib.hid he
    clear hpc hqc hxb hpq W0 HW
    by_cases h0 : p = 0 ∨ q = 0
    · have HD : Hid (2 ^ t * (p + q) = Nat.gcd x y) := hg.done h0
      have HLE : Hid (∀ k, k ≤ t → (toB 1000000000 (2 ^ k * (p + q))).length ≤ 101) := fun k hk => len_le (by
        have h1 : 2 ^ k * (p + q) ≤ 2 ^ t * (p + q) := Nat.mul_le_mul_right _ (Nat.pow_le_pow_right (by omega) hk)
        have h2 := hg.le
        rw [Nat.mul_comm] at h2
        have := HXY.out
        omega)
      have H0 : Hid (2 ^ 0 * (p + q) = p + q) := by show _ = _; simp
      have hlen : (toB 1000000000 p).length = 0 ∨ (0 < (toB 1000000000 p).length ∧ (toB 1000000000 q).length = 0) := by
        rcases h0 with h | h
        · exact .inl (len_zero h)
        · by_cases hp : p = 0
          · exact .inl (len_zero hp)
          · exact .inr ⟨len_pos hp, len_zero h⟩
      have HPL := Lib.hid (show ∀ W, Ext wr W → _ from fun W hW => plus_any p q _ _ pa qa pc qc W rfl rfl (by omega) (by omega) (HP.out.ext hW) (HQ.out.ext hW))
      generalize (toB 1000000000 p).length = lp at *
      generalize (toB 1000000000 q).length = lq at *
      have HZ : Hid (∀ v W, OwnsN .u64 139 W v (toB 1000000000 (p + q)) → OwnsN .u64 139 W v (toB 1000000000 (2 ^ 0 * (p + q)))) := fun v W h => by rw [H0.out]; exact h
      have HS : Hid (∀ k, 2 ^ k * (p + q) + 2 ^ k * (p + q) = 2 ^ (k + 1) * (p + q)) := fun k => two_pow_step k _
      generalize p + q = g at *
      clear h0 hg HM HG HP HQ H0
      rcases hlen with h | ⟨h1, h2⟩
      · subst h
        go_wp2_with fail
        refine (HPL.out _ extA).mono ?_
        rintro e w1 ⟨ov, rfl, O1, N1, E1⟩
        have HO1 := Lib.hid (HZ.out _ _ O1)
        have HN1 : Hid (∀ b, ov.ownBlock = some b → w.heap.size ≤ b) := fun b hb => Nat.le_trans he.size (N1 b hb)
        have F1 := he.trans E1
        clear O1 N1 E1 HPL HZ he
        go_wp2
        go_loopw [6, 53] (fun v i wl => ∃ (k : Nat) (vv : Value), v = vv ∧ i = .int .i64 (k : Int) ∧ k ≤ t ∧ Hid (OwnsN .u64 139 wl vv (toB 1000000000 (2 ^ k * g))) ∧ Hid (∀ b, vv.ownBlock = some b → w.heap.size ≤ b) ∧ Ext w wl) (fun _ i _ => t - (intOf i).toNat)
        case atStart => exact ⟨0, _, rfl, rfl, Nat.zero_le _, HO1.out, HN1.out, F1⟩
        case round =>
          obtain ⟨k, vv, hvv, rfl, hk, HO, HN, he⟩ := hrel
          obtain rfl := hvv.symm
          obtain ⟨oa, oc, rfl, hoc, _, _⟩ := HO.out.reads
          have HOC := Lib.hid hoc
          have hl := HLE.out k hk
          clear hoc HO1 HN1 F1
          by_cases hkt : k < t
          · have hki : (k : Int) < (t : Int) := by omega
            have HPP := Lib.hid (plus_any (2 ^ k * g) (2 ^ k * g) _ _ oa oa oc oc wr rfl rfl (by omega) (by omega) HOC.out HOC.out)
            rw [HS.out] at HPP
            generalize (toB 1000000000 (2 ^ k * g)).length = lk at *
            clear HO HOC hl
            go_wp2_with fail
            refine HPP.out.mono ?_
            rintro e w5 ⟨v5, rfl, O5, N5, E5⟩
            have HO5 := Lib.hid O5
            have HN5 : Hid (∀ b, v5.ownBlock = some b → w.heap.size ≤ b) := fun b hb => Nat.le_trans he.size (N5 b hb)
            have F5 := he.trans E5
            clear O5 N5 E5 HPP HN he
            go_wp2
            refine ⟨⟨k + 1, v5, rfl, by go_num, by omega, HO5, HN5, F5⟩, by simp [intOf]; omega⟩
          · have hke : k = t := by omega
            have hki : ¬ (k : Int) < (t : Int) := by omega
            have HF : Hid (OwnsN .u64 139 wr (.slice oa (toB 1000000000 (2 ^ k * g)).length oc) (toB 1000000000 (Nat.gcd x y))) := by
              show OwnsN _ _ _ _ _
              have h1 := HO.out
              have h2 := HD.out
              rw [← hke] at h2
              rw [← h2]
              exact h1
            generalize (toB 1000000000 (2 ^ k * g)).length = lk at *
            clear HO HOC hl hke
            go_wp2
            go_ret
            exact ⟨_, rfl, HF.out, HN.out, he⟩
      · subst h2
        have h3 : (0 : Int) < (lp : Int) := by omega
        go_wp2_with fail
        refine (HPL.out _ extA).mono ?_
        rintro e w1 ⟨ov, rfl, O1, N1, E1⟩
        have HO1 := Lib.hid (HZ.out _ _ O1)
        have HN1 : Hid (∀ b, ov.ownBlock = some b → w.heap.size ≤ b) := fun b hb => Nat.le_trans he.size (N1 b hb)
        have F1 := he.trans E1
        clear O1 N1 E1 HPL HZ he
        go_wp2
        go_loopw [6, 53] (fun v i wl => ∃ (k : Nat) (vv : Value), v = vv ∧ i = .int .i64 (k : Int) ∧ k ≤ t ∧ Hid (OwnsN .u64 139 wl vv (toB 1000000000 (2 ^ k * g))) ∧ Hid (∀ b, vv.ownBlock = some b → w.heap.size ≤ b) ∧ Ext w wl) (fun _ i _ => t - (intOf i).toNat)
        case atStart => exact ⟨0, _, rfl, rfl, Nat.zero_le _, HO1.out, HN1.out, F1⟩
        case round =>
          obtain ⟨k, vv, hvv, rfl, hk, HO, HN, he⟩ := hrel
          obtain rfl := hvv.symm
          obtain ⟨oa, oc, rfl, hoc, _, _⟩ := HO.out.reads
          have HOC := Lib.hid hoc
          have hl := HLE.out k hk
          clear hoc HO1 HN1 F1
          by_cases hkt : k < t
          · have hki : (k : Int) < (t : Int) := by omega
            have HPP := Lib.hid (plus_any (2 ^ k * g) (2 ^ k * g) _ _ oa oa oc oc wr rfl rfl (by omega) (by omega) HOC.out HOC.out)
            rw [HS.out] at HPP
            generalize (toB 1000000000 (2 ^ k * g)).length = lk at *
            clear HO HOC hl
            go_wp2_with fail
            refine HPP.out.mono ?_
            rintro e w5 ⟨v5, rfl, O5, N5, E5⟩
            have HO5 := Lib.hid O5
            have HN5 : Hid (∀ b, v5.ownBlock = some b → w.heap.size ≤ b) := fun b hb => Nat.le_trans he.size (N5 b hb)
            have F5 := he.trans E5
            clear O5 N5 E5 HPP HN he
            go_wp2
            refine ⟨⟨k + 1, v5, rfl, by go_num, by omega, HO5, HN5, F5⟩, by simp [intOf]; omega⟩
          · have hke : k = t := by omega
            have hki : ¬ (k : Int) < (t : Int) := by omega
            have HF : Hid (OwnsN .u64 139 wr (.slice oa (toB 1000000000 (2 ^ k * g)).length oc) (toB 1000000000 (Nat.gcd x y))) := by
              show OwnsN _ _ _ _ _
              have h1 := HO.out
              have h2 := HD.out
              rw [← hke] at h2
              rw [← h2]
              exact h1
            generalize (toB 1000000000 (2 ^ k * g)).length = lk at *
            clear HO HOC hl hke
            go_wp2
            go_ret
            exact ⟨_, rfl, HF.out, HN.out, he⟩
    · have hp0 : p ≠ 0 := fun e => h0 (.inl e)
      have hq0 : q ≠ 0 := fun e => h0 (.inr e)
      have lp := len_pos hp0
      have lq := len_pos hq0
      have lpi : (0 : Int) < ((toB 1000000000 p).length : Int) := by omega
      have lqi : (0 : Int) < ((toB 1000000000 q).length : Int) := by omega
      obtain ⟨fp, hfp⟩ : ∃ f, f = decide (p % 2 = 0) := ⟨_, rfl⟩
      obtain ⟨fq, hfq⟩ : ∃ f, f = decide (q % 2 = 0) := ⟨_, rfl⟩
      have HEp : Hid (∀ W, Ext wr W → Calls Tryz.prog 125 #[.slice pa (toB 1000000000 p).length pc] W fun e w' => e = .returned (.bool fp) ∧ Ext W w') := fun W hW => by
        rw [hfp]; exact even_any p _ pa pc W rfl (HP.out.ext hW) (by omega)
      have HEq : Hid (∀ W, Ext wr W → Calls Tryz.prog 125 #[.slice qa (toB 1000000000 q).length qc] W fun e w' => e = .returned (.bool fq) ∧ Ext W w') := fun W hW => by
        rw [hfq]; exact even_any q _ qa qc W rfl (HQ.out.ext hW) (by omega)
      have HHp : Hid (∀ W, Ext wr W → Calls Tryz.prog 126 #[.slice pa (toB 1000000000 p).length pc] W (NewC (p / 2) W)) := fun W hW =>
        (half_any p _ pa pc W rfl (by omega) lp (HP.out.ext hW)).mono fun _ _ h => h.newC
      have HHq : Hid (∀ W, Ext wr W → Calls Tryz.prog 126 #[.slice qa (toB 1000000000 q).length qc] W (NewC (q / 2) W)) := fun W hW =>
        (half_any q _ qa qc W rfl (by omega) lq (HQ.out.ext hW)).mono fun _ _ h => h.newC
      clear h0
      cases fp
      · have hpo : p % 2 ≠ 0 := fun e => by rw [e] at hfp; simp at hfp
        cases fq
        · have hqo : q % 2 ≠ 0 := fun e => by rw [e] at hfq; simp at hfq
          clear hfp hfq
          by_cases hle : q ≤ p
          · obtain ⟨z, hz, hz0⟩ : ∃ z, ordN p q = z ∧ 0 ≤ z := ⟨_, rfl, ordN_ge.2 hle⟩
            have HCC : Hid (∀ W, Ext wr W → Calls Tryz.prog 100 #[.slice pa (toB 1000000000 p).length pc, .slice qa (toB 1000000000 q).length qc] W fun e w' => e = .returned (.int .i64 z) ∧ Ext W w') := fun W hW => by
              rw [← hz]; exact compare_any p q _ _ pa qa pc qc W rfl rfl (by omega) (by omega) (HP.out.ext hW) (HQ.out.ext hW)
            have HMM : Hid (∀ W, Ext wr W → Calls Tryz.prog 105 #[.slice pa (toB 1000000000 p).length pc, .slice qa (toB 1000000000 q).length qc] W (NewC (p - q) W)) := fun W hW =>
              (minus_any p q _ _ pa qa pc qc W rfl rfl hle (by omega) (HP.out.ext hW) (HQ.out.ext hW)).mono fun _ _ h => h.newC
            have HG2 := Lib.hid (hg.less (by omega) hle)
            have hms : p - q + q < p + q := by omega
            clear hz hg hle hpo hqo he
            go_wp2_with (first
          | (go_at_call 125; (with_reducible refine (HEp.out _ extA).mono ?_); rintro e w' ⟨rfl, hE⟩)
          | (go_at_call 125; (with_reducible refine (HEq.out _ extA).mono ?_); rintro e w' ⟨rfl, hE⟩)
          | (go_at_call 126; (with_reducible refine (HHp.out _ extA).mono ?_); rintro e w' ⟨na, nc, rfl, hCp, hE⟩)
          | (go_at_call 126; (with_reducible refine (HHq.out _ extA).mono ?_); rintro e w' ⟨ma, mc, rfl, hCq, hE⟩)
          | (go_at_call 100; (with_reducible refine (HCC.out _ extA).mono ?_); rintro e w' ⟨rfl, hE⟩)
          | (go_at_call 105; (with_reducible refine (HMM.out _ extA).mono ?_); rintro e w' ⟨na, nc, rfl, hCp, hE⟩))
            have hEE : Ext wr w' := extA
            have hQ2 := HQ.out.ext hEE
            refine ⟨⟨_, _, _, rfl, HG2.out, ⟨_, _, rfl, hCp⟩, ⟨_, _, rfl, hQ2⟩, HE.out.trans hEE⟩, ?_⟩
            show natOf w' _ + natOf w' _ < natOf wr _ + natOf wr _
            rw [HM.out, natOf_eq hCp, natOf_eq hQ2]
            exact hms
          · have hlt : p ≤ q := by omega
            obtain ⟨z, hz, hz0⟩ : ∃ z, ordN p q = z ∧ ¬ 0 ≤ z := ⟨_, rfl, fun h => hle (ordN_ge.1 h)⟩
            have HCC : Hid (∀ W, Ext wr W → Calls Tryz.prog 100 #[.slice pa (toB 1000000000 p).length pc, .slice qa (toB 1000000000 q).length qc] W fun e w' => e = .returned (.int .i64 z) ∧ Ext W w') := fun W hW => by
              rw [← hz]; exact compare_any p q _ _ pa qa pc qc W rfl rfl (by omega) (by omega) (HP.out.ext hW) (HQ.out.ext hW)
            have HMM : Hid (∀ W, Ext wr W → Calls Tryz.prog 105 #[.slice qa (toB 1000000000 q).length qc, .slice pa (toB 1000000000 p).length pc] W (NewC (q - p) W)) := fun W hW =>
              (minus_any q p _ _ qa pa qc pc W rfl rfl hlt (by omega) (HQ.out.ext hW) (HP.out.ext hW)).mono fun _ _ h => h.newC
            have HG2 := Lib.hid (hg.less' (by omega) hlt)
            have hms : p + (q - p) < p + q := by omega
            clear hz hg hle hpo hqo he hlt
            go_wp2_with (first
          | (go_at_call 125; (with_reducible refine (HEp.out _ extA).mono ?_); rintro e w' ⟨rfl, hE⟩)
          | (go_at_call 125; (with_reducible refine (HEq.out _ extA).mono ?_); rintro e w' ⟨rfl, hE⟩)
          | (go_at_call 126; (with_reducible refine (HHp.out _ extA).mono ?_); rintro e w' ⟨na, nc, rfl, hCp, hE⟩)
          | (go_at_call 126; (with_reducible refine (HHq.out _ extA).mono ?_); rintro e w' ⟨ma, mc, rfl, hCq, hE⟩)
          | (go_at_call 100; (with_reducible refine (HCC.out _ extA).mono ?_); rintro e w' ⟨rfl, hE⟩)
          | (go_at_call 105; (with_reducible refine (HMM.out _ extA).mono ?_); rintro e w' ⟨na, nc, rfl, hCp, hE⟩))
            have hEE : Ext wr w' := extA
            have hP2 := HP.out.ext hEE
            have hQ2 := hCp
            refine ⟨⟨_, _, _, by go_num, HG2.out, ⟨_, _, rfl, hP2⟩, ⟨_, _, rfl, hQ2⟩, HE.out.trans hEE⟩, ?_⟩
            show natOf w' _ + natOf w' _ < natOf wr _ + natOf wr _
            rw [HM.out, natOf_eq hP2, natOf_eq hQ2]
            exact hms
        · have hqe : q % 2 = 0 := of_decide_eq_true hfq.symm
          have HG2 := Lib.hid (hg.right (by omega) hpo hqe)
          have hms : p + q / 2 < p + q := by omega
          have HCC : Hid True := trivial
          have HMM : Hid True := trivial
          clear hg he hfp hfq hpo hqe
          go_wp2_with (first
          | (go_at_call 125; (with_reducible refine (HEp.out _ extA).mono ?_); rintro e w' ⟨rfl, hE⟩)
          | (go_at_call 125; (with_reducible refine (HEq.out _ extA).mono ?_); rintro e w' ⟨rfl, hE⟩)
          | (go_at_call 126; (with_reducible refine (HHp.out _ extA).mono ?_); rintro e w' ⟨na, nc, rfl, hCp, hE⟩)
          | (go_at_call 126; (with_reducible refine (HHq.out _ extA).mono ?_); rintro e w' ⟨ma, mc, rfl, hCq, hE⟩)
          | (go_at_call 100; (with_reducible refine (HCC.out _ extA).mono ?_); rintro e w' ⟨rfl, hE⟩)
          | (go_at_call 105; (with_reducible refine (HMM.out _ extA).mono ?_); rintro e w' ⟨na, nc, rfl, hCp, hE⟩))
          have hEE : Ext wr w' := extA
          have hP2 := HP.out.ext hEE
          have hQ2 := hCq
          refine ⟨⟨_, _, _, by go_num, HG2.out, ⟨_, _, rfl, hP2⟩, ⟨_, _, rfl, hQ2⟩, HE.out.trans hEE⟩, ?_⟩
          show natOf w' _ + natOf w' _ < natOf wr _ + natOf wr _
          rw [HM.out, natOf_eq hP2, natOf_eq hQ2]
          exact hms
      · have hpe : p % 2 = 0 := of_decide_eq_true hfp.symm
        cases fq
        · have hqo : q % 2 ≠ 0 := fun e => by rw [e] at hfq; simp at hfq
          have HG2 := Lib.hid (hg.left (by omega) hpe hqo)
          have hms : p / 2 + q < p + q := by omega
          have HCC : Hid True := trivial
          have HMM : Hid True := trivial
          clear hg he hfp hfq hpe hqo
          go_wp2_with (first
          | (go_at_call 125; (with_reducible refine (HEp.out _ extA).mono ?_); rintro e w' ⟨rfl, hE⟩)
          | (go_at_call 125; (with_reducible refine (HEq.out _ extA).mono ?_); rintro e w' ⟨rfl, hE⟩)
          | (go_at_call 126; (with_reducible refine (HHp.out _ extA).mono ?_); rintro e w' ⟨na, nc, rfl, hCp, hE⟩)
          | (go_at_call 126; (with_reducible refine (HHq.out _ extA).mono ?_); rintro e w' ⟨ma, mc, rfl, hCq, hE⟩)
          | (go_at_call 100; (with_reducible refine (HCC.out _ extA).mono ?_); rintro e w' ⟨rfl, hE⟩)
          | (go_at_call 105; (with_reducible refine (HMM.out _ extA).mono ?_); rintro e w' ⟨na, nc, rfl, hCp, hE⟩))
          have hEE : Ext wr w' := extA
          have hP2 := hCp
          have hQ2 := HQ.out.ext hEE
          refine ⟨⟨_, _, _, by go_num, HG2.out, ⟨_, _, rfl, hP2⟩, ⟨_, _, rfl, hQ2⟩, HE.out.trans hEE⟩, ?_⟩
          show natOf w' _ + natOf w' _ < natOf wr _ + natOf wr _
          rw [HM.out, natOf_eq hP2, natOf_eq hQ2]
          exact hms
        · have hqe : q % 2 = 0 := of_decide_eq_true hfq.symm
          have HG2 := Lib.hid (hg.both (by omega) hpe hqe)
          have hms : p / 2 + q / 2 < p + q := by omega
          have HCC : Hid True := trivial
          have HMM : Hid True := trivial
          clear hg he hfp hfq hpe hqe
          go_wp2_with (first
          | (go_at_call 125; (with_reducible refine (HEp.out _ extA).mono ?_); rintro e w' ⟨rfl, hE⟩)
          | (go_at_call 125; (with_reducible refine (HEq.out _ extA).mono ?_); rintro e w' ⟨rfl, hE⟩)
          | (go_at_call 126; (with_reducible refine (HHp.out _ extA).mono ?_); rintro e w' ⟨na, nc, rfl, hCp, hE⟩)
          | (go_at_call 126; (with_reducible refine (HHq.out _ extA).mono ?_); rintro e w' ⟨ma, mc, rfl, hCq, hE⟩)
          | (go_at_call 100; (with_reducible refine (HCC.out _ extA).mono ?_); rintro e w' ⟨rfl, hE⟩)
          | (go_at_call 105; (with_reducible refine (HMM.out _ extA).mono ?_); rintro e w' ⟨na, nc, rfl, hCp, hE⟩))
          have hEE : Ext wr w' := extA
          have hP2 := hCp.ext hE
          have hQ2 := hCq
          refine ⟨⟨_, _, _, by go_num, HG2.out, ⟨_, _, rfl, hP2⟩, ⟨_, _, rfl, hQ2⟩, HE.out.trans hEE⟩, ?_⟩
          show natOf w' _ + natOf w' _ < natOf wr _ + natOf wr _
          rw [HM.out, natOf_eq hP2, natOf_eq hQ2]
          exact hms
end Go.Proofs.YtmndcdjcodfchaaGreatDoor
namespace Go.Proofs.YtmndcdjcodfchaaGreatDoor
open Go.RowKit
theorem OwnsN.cells {k : IntKind} {t : TypeId} {w : World} {a : Option Addr} {n c : Nat} {l : List Nat} (h : OwnsN k t w (.slice a n c) l) : CellsN k w a l := by
  obtain ⟨a', c', e, h1, _⟩ := h.reads
  cases e
  exact h1
structure QuoI (B : Nat) (a : List Nat) (m i r : Nat) (q : List Nat) : Prop where
  ov : OverI B a m i r q
  zr : ∀ j, j < i → q.getD j 0 = 0
theorem QuoI.start {B : Nat} (hB : 2 ≤ B) (a : List Nat) {m : Nat} (hm : 0 < m) : QuoI B a m a.length 0 (List.replicate a.length 0) :=
  ⟨OverI.start hB a hm, fun j hj => by rw [List.getD_eq_getElem?_getD, List.getElem?_replicate]; split <;> rfl⟩
theorem QuoI.skip {B : Nat} (hB : 2 ≤ B) {a : List Nat} (ha : OkB B a) {m i r : Nat} {q : List Nat} (h : QuoI B a m (i + 1) r q) (hi : i < a.length) (hs : a.getD i 0 + B * r < m) : QuoI B a m i (a.getD i 0 + B * r) q := by
  obtain ⟨_, h2⟩ := h.ov.next hB ha hi
  rw [Nat.mod_eq_of_lt hs, Nat.div_eq_of_lt hs] at h2
  have e : q.set i 0 = q := by
    apply List.ext_getElem?
    intro j
    rw [List.getElem?_set]
    by_cases hj : i = j
    · subst hj
      have hl : i < q.length := by rw [h.ov.len]; exact hi
      have hz := h.zr i (by omega)
      rw [List.getD_eq_getElem?_getD, List.getElem?_eq_getElem hl] at hz
      rw [if_pos rfl, if_pos hl, List.getElem?_eq_getElem hl]
      exact congrArg some hz.symm
    · rw [if_neg hj]
  rw [e] at h2
  exact ⟨h2, fun j hj => h.zr j (by omega)⟩
theorem QuoI.step {B : Nat} (hB : 2 ≤ B) {a : List Nat} (ha : OkB B a) {m i r x : Nat} {q : List Nat} (h : QuoI B a m (i + 1) r q) (hi : i < a.length)
    (h1 : m * x ≤ a.getD i 0 + B * r) (h2 : a.getD i 0 + B * r < m * (x + 1)) : QuoI B a m i (a.getD i 0 + B * r - m * x) (q.set i x) := by
  obtain ⟨_, h3⟩ := h.ov.next hB ha hi
  have e1 : (a.getD i 0 + B * r) / m = x := by
    refine Nat.div_eq_of_lt_le ?_ ?_
    · rw [Nat.mul_comm x m]; exact h1
    · rw [Nat.mul_comm (x + 1) m]; exact h2
  have e2 : (a.getD i 0 + B * r) % m = a.getD i 0 + B * r - m * x := by
    have e := Nat.div_add_mod (a.getD i 0 + B * r) m
    rw [e1] at e
    omega
  rw [e1, e2] at h3
  refine ⟨h3, fun j hj => ?_⟩
  rw [List.getD_eq_getElem?_getD, List.getElem?_set, if_neg (by omega), ← List.getD_eq_getElem?_getD]
  exact h.zr j (by omega)
end Go.Proofs.YtmndcdjcodfchaaGreatDoor
namespace Go.Proofs.YtmndcdjcodfchaaGreatDoor
open Go.RowKit
end Go.Proofs.YtmndcdjcodfchaaGreatDoor
namespace Go.Proofs.YtmndcdjcodfchaaGreatDoor
open Go.RowKit
structure ShaW (x y : Nat) (w0 : World) (va vb : Value) (a b : Nat) (w : World) : Prop where
  g : Nat.gcd a b = Nat.gcd x y
  la : (toB 1000000 a).length ≤ 100
  lb : (toB 1000000 b).length ≤ 100
  a : ∃ pa pc, va = .slice pa (toB 1000000 a).length pc ∧ CellsN .i64 w pa (toB 1000000 a)
  b : ∃ qa qc, vb = .slice qa (toB 1000000 b).length qc ∧ CellsN .i64 w qa (toB 1000000 b)
  e : Ext w0 w
end Go.Proofs.YtmndcdjcodfchaaGreatDoor
namespace Go.Proofs
open Go.Shelf
def Tryz.lays169_ren : Go.Shelf.Ren := ⟨fun | 169 => 174 | n => n, fun | 70 => 199 | 9 => 9 | 0 => 0 | 72 => 201 | 37 => 186 | 127 => 226 | 3 => 3 | 5 => 5 | n => n, fun | n => n⟩
theorem Tryz.lays169 : Go.Proofs.Lays.n169 Tryz.prog Tryz.lays169_ren := {
  mixed := by kernel_rfl
  f169 := Tryz.func174.trans (congrArg some (by kernel_rfl))
  t0 := Tryz.underlying0
  a0 := Tryz.isAgg0
  z0 := Tryz.sizeOf0
  v0 := Tryz.zeroValue0
  t3 := Tryz.underlying3
  a3 := Tryz.isAgg3
  z3 := Tryz.sizeOf3
  v3 := Tryz.zeroValue3
  t9 := Tryz.underlying9
  a9 := Tryz.isAgg9
  z9 := Tryz.sizeOf9
  v9 := Tryz.zeroValue9
  t37 := Tryz.underlying186
  a37 := Tryz.isAgg186
  z37 := Tryz.sizeOf186
  v37 := Tryz.zeroValue186
  t70 := Tryz.underlying199
  a70 := Tryz.isAgg199
  z70 := Tryz.sizeOf199
  v70 := Tryz.zeroValue199
  t72 := Tryz.underlying201
  a72 := Tryz.isAgg201
  z72 := Tryz.sizeOf201
  v72 := Tryz.zeroValue201
  t127 := Tryz.underlying226
  a127 := Tryz.isAgg226
  z127 := Tryz.sizeOf226
  v127 := Tryz.zeroValue226 }
theorem Tryz.Builder_Extra_169 : Builder.Extra Tryz.prog Tryz.lays169_ren := {
  sizeBuilder := by kernel_rfl
  liesBuilder := by kernel_rfl
  t5 := Tryz.underlying5
  a5 := Tryz.isAgg5
  z5 := Tryz.sizeOf5
  v5 := Tryz.zeroValue5
  infoByte := by kernel_rfl
  cellsByte := by kernel_rfl
  sizeByte := by kernel_rfl
  neB5 := by decide }
def Tryz.lays160_ren : Go.Shelf.Ren := ⟨fun | 160 => 119 | 232 => 137 | 231 => 136 | 227 => 138 | 234 => 140 | 233 => 139 | 236 => 142 | 235 => 141 | 228 => 163 | 271 => 166 | 151 => 165 | 197 => 164 | 120 => 184 | 152 => 183 | 260 => 182 | 137 => 200 | 119 => 201 | 224 => 161 | 225 => 160 | 217 => 159 | 266 => 180 | n => n, fun | 9 => 9 | 4 => 4 | 3 => 3 | 5 => 5 | 117 => 170 | 116 => 169 | 0 => 0 | 124 => 173 | 21 => 21 | 105 => 193 | 46 => 191 | 119 => 228 | 139 => 231 | 138 => 230 | n => n, fun | 3 => 2 | 4 => 3 | n => n⟩
theorem Tryz.lays160 : Go.Proofs.Lays.n160 Tryz.prog Tryz.lays160_ren := {
  mixed := by kernel_rfl
  f119 := Tryz.func201.trans (congrArg some (by kernel_rfl))
  f120 := Tryz.func184.trans (congrArg some (by kernel_rfl))
  f137 := Tryz.func200.trans (congrArg some (by kernel_rfl))
  f151 := Tryz.func165.trans (congrArg some (by kernel_rfl))
  f152 := Tryz.func183.trans (congrArg some (by kernel_rfl))
  f160 := Tryz.func119.trans (congrArg some (by kernel_rfl))
  f197 := Tryz.func164.trans (congrArg some (by kernel_rfl))
  f217 := Tryz.func159.trans (congrArg some (by kernel_rfl))
  f224 := Tryz.func161.trans (congrArg some (by kernel_rfl))
  f225 := Tryz.func160.trans (congrArg some (by kernel_rfl))
  f227 := Tryz.func138.trans (congrArg some (by kernel_rfl))
  f228 := Tryz.func163.trans (congrArg some (by kernel_rfl))
  f231 := Tryz.func136.trans (congrArg some (by kernel_rfl))
  f232 := Tryz.func137.trans (congrArg some (by kernel_rfl))
  f233 := Tryz.func139.trans (congrArg some (by kernel_rfl))
  f234 := Tryz.func140.trans (congrArg some (by kernel_rfl))
  f235 := Tryz.func141.trans (congrArg some (by kernel_rfl))
  f236 := Tryz.func142.trans (congrArg some (by kernel_rfl))
  f260 := Tryz.func182.trans (congrArg some (by kernel_rfl))
  f266 := Tryz.func180.trans (congrArg some (by kernel_rfl))
  f271 := Tryz.func166.trans (congrArg some (by kernel_rfl))
  t0 := Tryz.underlying0
  a0 := Tryz.isAgg0
  z0 := Tryz.sizeOf0
  v0 := Tryz.zeroValue0
  t3 := Tryz.underlying3
  a3 := Tryz.isAgg3
  z3 := Tryz.sizeOf3
  v3 := Tryz.zeroValue3
  t4 := Tryz.underlying4
  a4 := Tryz.isAgg4
  z4 := Tryz.sizeOf4
  v4 := Tryz.zeroValue4
  t5 := Tryz.underlying5
  a5 := Tryz.isAgg5
  z5 := Tryz.sizeOf5
  v5 := Tryz.zeroValue5
  t9 := Tryz.underlying9
  a9 := Tryz.isAgg9
  z9 := Tryz.sizeOf9
  v9 := Tryz.zeroValue9
  t21 := Tryz.underlying21
  a21 := Tryz.isAgg21
  z21 := Tryz.sizeOf21
  v21 := Tryz.zeroValue21
  t46 := Tryz.underlying191
  a46 := Tryz.isAgg191
  z46 := Tryz.sizeOf191
  v46 := Tryz.zeroValue191
  t105 := Tryz.underlying193
  a105 := Tryz.isAgg193
  z105 := Tryz.sizeOf193
  v105 := Tryz.zeroValue193
  t116 := Tryz.underlying169
  a116 := Tryz.isAgg169
  z116 := Tryz.sizeOf169
  t117 := Tryz.underlying170
  a117 := Tryz.isAgg170
  z117 := Tryz.sizeOf170
  v117 := Tryz.zeroValue170
  t119 := Tryz.underlying228
  a119 := Tryz.isAgg228
  z119 := Tryz.sizeOf228
  t124 := Tryz.underlying173
  a124 := Tryz.isAgg173
  z124 := Tryz.sizeOf173
  v124 := Tryz.zeroValue173
  t138 := Tryz.underlying230
  a138 := Tryz.isAgg230
  z138 := Tryz.sizeOf230
  v138 := Tryz.zeroValue230
  t139 := Tryz.underlying231
  a139 := Tryz.isAgg231
  z139 := Tryz.sizeOf231
  v139 := Tryz.zeroValue231
  g3 := by kernel_rfl
  g4 := by kernel_rfl }
def Tryz.lays103_ren : Go.Shelf.Ren := ⟨fun | 103 => 118 | 210 => 135 | 206 => 75 | n => n, fun | 9 => 9 | 4 => 4 | 24 => 148 | 3 => 3 | n => n, fun | n => n⟩
theorem Tryz.lays103 : Go.Proofs.Lays.n103 Tryz.prog Tryz.lays103_ren := {
  mixed := by kernel_rfl
  f103 := Tryz.func118.trans (congrArg some (by kernel_rfl))
  f206 := Tryz.func75.trans (congrArg some (by kernel_rfl))
  f210 := Tryz.func135.trans (congrArg some (by kernel_rfl))
  t3 := Tryz.underlying3
  a3 := Tryz.isAgg3
  z3 := Tryz.sizeOf3
  v3 := Tryz.zeroValue3
  t4 := Tryz.underlying4
  a4 := Tryz.isAgg4
  z4 := Tryz.sizeOf4
  v4 := Tryz.zeroValue4
  t9 := Tryz.underlying9
  a9 := Tryz.isAgg9
  z9 := Tryz.sizeOf9
  v9 := Tryz.zeroValue9
  t24 := Tryz.underlying148
  a24 := Tryz.isAgg148
  z24 := Tryz.sizeOf148
  v24 := Tryz.zeroValue148 }
open Go.RowKit in
theorem Tryz.strings_CutPrefix (s p : ByteArray) (w : World) :
    Calls Tryz.prog 118 #[.string s, .string p] w fun e w' => e = .returned (.tuple #[.string ⟨(Lib.trimPrefix s.data.toList p.data.toList).toArray⟩, .bool (Lib.hasPrefix s.data.toList p.data.toList)]) ∧ w' = w := Any.strings_CutPrefix Tryz.lays103 s p w
open Go.RowKit in
theorem Tryz.Builder_String_any_k (B b : Nat) (l : List UInt8) (w : World) (h : Lib.IsBuilderF 201 5 B b (Lib.byteCells l) w) (hBw : B ≤ w.heap.size) :
    Calls Tryz.prog 174 #[.pointer (some ⟨b, 0, none⟩)] w fun e w' => e = .returned (.string ⟨l.toArray⟩) ∧ (Lib.IsBuilderF 201 5 B b (Lib.byteCells l) w' ∧ Below B w w' ∧ Lib.OthersKept 5 (some b) w w') := Any.Builder_String_any_k Tryz.lays169 Tryz.Builder_Extra_169 B b l w h hBw
def Tryz.lays283_ren : Go.Shelf.Ren := ⟨fun | 283 => 155 | n => n, fun | 3 => 3 | 9 => 9 | 4 => 4 | n => n, fun | n => n⟩
theorem Tryz.lays283 : Go.Proofs.Lays.n283 Tryz.prog Tryz.lays283_ren := {
  mixed := by kernel_rfl
  f283 := Tryz.func155.trans (congrArg some (by kernel_rfl))
  t3 := Tryz.underlying3
  a3 := Tryz.isAgg3
  z3 := Tryz.sizeOf3
  v3 := Tryz.zeroValue3
  t4 := Tryz.underlying4
  a4 := Tryz.isAgg4
  z4 := Tryz.sizeOf4
  v4 := Tryz.zeroValue4
  t9 := Tryz.underlying9
  a9 := Tryz.isAgg9
  z9 := Tryz.sizeOf9
  v9 := Tryz.zeroValue9 }
open Go.Lib in
theorem Tryz.internal_strconv_small (i : Nat) (h : i < 100) (w : World) :
    Calls Tryz.prog 155 #[.int .i64 i] w fun e w' => e = .returned (.string ⟨(Lib.decDigits i).toArray⟩) ∧ w' = w := Any.internal_strconv_small Tryz.lays283 i h w
def Tryz.laysM284_ren : Go.Shelf.Ren := ⟨fun | 284 => 156 | 129 => 176 | 317 => 175 | 318 => 177 | n => n, fun | 53 => 139 | 3 => 3 | 212 => 208 | 0 => 0 | 4 => 4 | 46 => 191 | 5 => 5 | 9 => 9 | n => n, fun | 17 => 1 | n => n⟩
theorem Tryz.laysM284 : Go.Proofs.LaysM.n284 Tryz.prog Tryz.laysM284_ren := {
  mixed := by kernel_rfl
  f129 := Tryz.func176.trans (congrArg some (by kernel_rfl))
  f284 := Tryz.func156.trans (congrArg some (by kernel_rfl))
  f317 := Tryz.func175.trans (congrArg some (by kernel_rfl))
  f318 := Tryz.func177.trans (congrArg some (by kernel_rfl))
  t0 := Tryz.underlying0
  a0 := Tryz.isAgg0
  z0 := Tryz.sizeOf0
  v0 := Tryz.zeroValue0
  t3 := Tryz.underlying3
  a3 := Tryz.isAgg3
  z3 := Tryz.sizeOf3
  v3 := Tryz.zeroValue3
  t4 := Tryz.underlying4
  a4 := Tryz.isAgg4
  z4 := Tryz.sizeOf4
  v4 := Tryz.zeroValue4
  t5 := Tryz.underlying5
  a5 := Tryz.isAgg5
  z5 := Tryz.sizeOf5
  v5 := Tryz.zeroValue5
  t9 := Tryz.underlying9
  a9 := Tryz.isAgg9
  z9 := Tryz.sizeOf9
  v9 := Tryz.zeroValue9
  t46 := Tryz.underlying191
  a46 := Tryz.isAgg191
  z46 := Tryz.sizeOf191
  v46 := Tryz.zeroValue191
  t53 := Tryz.underlying139
  a53 := Tryz.isAgg139
  z53 := Tryz.sizeOf139
  v53 := Tryz.zeroValue139
  t212 := Tryz.underlying208
  a212 := Tryz.isAgg208
  z212 := Tryz.sizeOf208
  v212 := Tryz.zeroValue208
  g17 := by kernel_rfl
  i0 := by kernel_rfl
  i3 := by kernel_rfl
  i4 := by kernel_rfl
  i5 := by kernel_rfl
  i9 := by kernel_rfl
  i46 := by kernel_rfl
  i53 := by kernel_rfl
  i212 := by kernel_rfl
  m17 := by kernel_rfl }
open Go.Lib in
theorem Tryz.internal_strconv_numDigits (u : Nat) (h1 : 1 ≤ u) (h2 : u < 18446744073709551616) (w : World) (htab : Lib.TabIs Tryz.prog w "internal/strconv.uint64pow10" .u64 Lib.pow10Tab) :
    Calls Tryz.prog 156 #[.int .u64 u] w fun e w' => e = .returned (.int .i64 (Lib.nDigits u)) ∧ w' = w := Any.internal_strconv_numDigits Tryz.laysM284 u h1 h2 w htab
def Tryz.lays285_ren : Go.Shelf.Ren := ⟨fun | 285 => 157 | n => n, fun | 37 => 186 | 53 => 139 | 3 => 3 | 4 => 4 | 51 => 209 | 9 => 9 | 5 => 5 | 0 => 0 | n => n, fun | n => n⟩
theorem Tryz.lays285 : Go.Proofs.Lays.n285 Tryz.prog Tryz.lays285_ren := {
  mixed := by kernel_rfl
  f285 := Tryz.func157.trans (congrArg some (by kernel_rfl))
  t0 := Tryz.underlying0
  a0 := Tryz.isAgg0
  z0 := Tryz.sizeOf0
  v0 := Tryz.zeroValue0
  t3 := Tryz.underlying3
  a3 := Tryz.isAgg3
  z3 := Tryz.sizeOf3
  v3 := Tryz.zeroValue3
  t4 := Tryz.underlying4
  a4 := Tryz.isAgg4
  z4 := Tryz.sizeOf4
  v4 := Tryz.zeroValue4
  t5 := Tryz.underlying5
  a5 := Tryz.isAgg5
  z5 := Tryz.sizeOf5
  v5 := Tryz.zeroValue5
  t9 := Tryz.underlying9
  a9 := Tryz.isAgg9
  z9 := Tryz.sizeOf9
  v9 := Tryz.zeroValue9
  t37 := Tryz.underlying186
  a37 := Tryz.isAgg186
  z37 := Tryz.sizeOf186
  v37 := Tryz.zeroValue186
  t51 := Tryz.underlying209
  a51 := Tryz.isAgg209
  z51 := Tryz.sizeOf209
  v51 := Tryz.zeroValue209
  t53 := Tryz.underlying139
  a53 := Tryz.isAgg139
  z53 := Tryz.sizeOf139
  v53 := Tryz.zeroValue139 }
open Go.RowKit Go.Sort Go.Lib in
theorem Tryz.internal_strconv_formatBase10 (blk off cap : Nat) (u : Nat) (d : Array UInt8) (w : World) (hH : Holds (fun (b : UInt8) => Value.int .u8 (b.toNat : Int)) w blk off d) (hu : u < 10 ^ d.size) (hu64 : u < 18446744073709551616) (hsz : d.size < 4611686018427387904) :
    Calls Tryz.prog 157 #[.slice (some ⟨blk, off, none⟩) d.size cap, .int .u64 u] w fun e w' =>
      e = .returned (.tuple #[]) ∧ ∃ (n v' : Nat) (dk : Array UInt8), w' = (putRow (fun (b : UInt8) => Value.int .u8 (b.toNat : Int)) w blk off dk).drewN n ∧ FmtInv d.size u 0 v' dk := Any.internal_strconv_formatBase10 Tryz.lays285 blk off cap u d w hH hu hu64 hsz
def Tryz.laysM171_ren : Go.Shelf.Ren := ⟨fun | 171 => 81 | 243 => 106 | 246 => 130 | 283 => 155 | 284 => 156 | 285 => 157 | 286 => 158 | 129 => 176 | 317 => 175 | 318 => 177 | 319 => 178 | 320 => 179 | 337 => 198 | 338 => 199 | n => n, fun | 3 => 3 | 9 => 9 | 2 => 2 | 4 => 4 | 171 => 183 | 0 => 0 | 53 => 139 | 37 => 186 | 5 => 5 | 173 => 187 | 212 => 208 | 51 => 209 | 20 => 20 | 213 => 210 | 46 => 191 | 232 => 241 | 233 => 242 | n => n, fun | 17 => 1 | 18 => 6 | 19 => 7 | n => n⟩
theorem Tryz.laysM171 : Go.Proofs.LaysM.n171 Tryz.prog Tryz.laysM171_ren := {
  mixed := by kernel_rfl
  f129 := Tryz.func176.trans (congrArg some (by kernel_rfl))
  f171 := Tryz.func81.trans (congrArg some (by kernel_rfl))
  f243 := Tryz.func106.trans (congrArg some (by kernel_rfl))
  f246 := Tryz.func130.trans (congrArg some (by kernel_rfl))
  f283 := Tryz.func155.trans (congrArg some (by kernel_rfl))
  f284 := Tryz.func156.trans (congrArg some (by kernel_rfl))
  f285 := Tryz.func157.trans (congrArg some (by kernel_rfl))
  f286 := Tryz.func158.trans (congrArg some (by kernel_rfl))
  f317 := Tryz.func175.trans (congrArg some (by kernel_rfl))
  f318 := Tryz.func177.trans (congrArg some (by kernel_rfl))
  f319 := Tryz.func178.trans (congrArg some (by kernel_rfl))
  f320 := Tryz.func179.trans (congrArg some (by kernel_rfl))
  f337 := Tryz.func198.trans (congrArg some (by kernel_rfl))
  f338 := Tryz.func199.trans (congrArg some (by kernel_rfl))
  t0 := Tryz.underlying0
  a0 := Tryz.isAgg0
  z0 := Tryz.sizeOf0
  v0 := Tryz.zeroValue0
  t2 := Tryz.underlying2
  a2 := Tryz.isAgg2
  z2 := Tryz.sizeOf2
  v2 := Tryz.zeroValue2
  t3 := Tryz.underlying3
  a3 := Tryz.isAgg3
  z3 := Tryz.sizeOf3
  v3 := Tryz.zeroValue3
  t4 := Tryz.underlying4
  a4 := Tryz.isAgg4
  z4 := Tryz.sizeOf4
  v4 := Tryz.zeroValue4
  t5 := Tryz.underlying5
  a5 := Tryz.isAgg5
  z5 := Tryz.sizeOf5
  v5 := Tryz.zeroValue5
  t9 := Tryz.underlying9
  a9 := Tryz.isAgg9
  z9 := Tryz.sizeOf9
  v9 := Tryz.zeroValue9
  t20 := Tryz.underlying20
  a20 := Tryz.isAgg20
  z20 := Tryz.sizeOf20
  v20 := Tryz.zeroValue20
  t37 := Tryz.underlying186
  a37 := Tryz.isAgg186
  z37 := Tryz.sizeOf186
  v37 := Tryz.zeroValue186
  t46 := Tryz.underlying191
  a46 := Tryz.isAgg191
  z46 := Tryz.sizeOf191
  v46 := Tryz.zeroValue191
  t51 := Tryz.underlying209
  a51 := Tryz.isAgg209
  z51 := Tryz.sizeOf209
  v51 := Tryz.zeroValue209
  t53 := Tryz.underlying139
  a53 := Tryz.isAgg139
  z53 := Tryz.sizeOf139
  v53 := Tryz.zeroValue139
  t171 := Tryz.underlying183
  a171 := Tryz.isAgg183
  z171 := Tryz.sizeOf183
  v171 := Tryz.zeroValue183
  t173 := Tryz.underlying187
  a173 := Tryz.isAgg187
  z173 := Tryz.sizeOf187
  v173 := Tryz.zeroValue187
  t212 := Tryz.underlying208
  a212 := Tryz.isAgg208
  z212 := Tryz.sizeOf208
  v212 := Tryz.zeroValue208
  t213 := Tryz.underlying210
  a213 := Tryz.isAgg210
  z213 := Tryz.sizeOf210
  t232 := Tryz.underlying241
  a232 := Tryz.isAgg241
  z232 := Tryz.sizeOf241
  v232 := Tryz.zeroValue241
  t233 := Tryz.underlying242
  a233 := Tryz.isAgg242
  z233 := Tryz.sizeOf242
  v233 := Tryz.zeroValue242
  g17 := by kernel_rfl
  g18 := by kernel_rfl
  g19 := by kernel_rfl
  i0 := by kernel_rfl
  i2 := by kernel_rfl
  i3 := by kernel_rfl
  i4 := by kernel_rfl
  i5 := by kernel_rfl
  i9 := by kernel_rfl
  i20 := by kernel_rfl
  i37 := by kernel_rfl
  i46 := by kernel_rfl
  i51 := by kernel_rfl
  i53 := by kernel_rfl
  i171 := by kernel_rfl
  i173 := by kernel_rfl
  i212 := by kernel_rfl
  i232 := by kernel_rfl
  i233 := by kernel_rfl
  m17 := by kernel_rfl
  m18 := by kernel_rfl
  m19 := by kernel_rfl }
open Go.RowKit Go.Sort Go.Lib in
theorem Tryz.strconv_Itoa (n : Int) (h0 : -9223372036854775808 ≤ n) (h1 : n ≤ 9223372036854775807) (w : World) (htab : Lib.TabIs Tryz.prog w "internal/strconv.uint64pow10" .u64 Lib.pow10Tab) :
    Calls Tryz.prog 81 #[.int .i64 n] w fun e w' => e = .returned (.string ⟨(Lib.itoa n).toArray⟩) ∧ ∃ k os, w' = grow (w.drewN k) os := Any.strconv_Itoa Tryz.laysM171 n h0 h1 w htab
def Tryz.laysPu14_ren : Go.Shelf.Ren := ⟨fun | 14 => 144 | 16 => 167 | 17 => 168 | 19 => 185 | 20 => 186 | 21 => 187 | 22 => 188 | 23 => 189 | 24 => 190 | 25 => 202 | 27 => 81 | 26 => 203 | 28 => 106 | 29 => 130 | 30 => 155 | 31 => 156 | 32 => 157 | 33 => 158 | 35 => 176 | 34 => 175 | 36 => 177 | 37 => 178 | 38 => 179 | 39 => 198 | 40 => 199 | n => n, fun | 9 => 9 | 3 => 3 | 22 => 139 | 24 => 175 | 25 => 176 | 4 => 4 | 34 => 215 | 5 => 5 | 36 => 191 | 37 => 186 | 0 => 0 | 39 => 217 | 21 => 21 | 44 => 234 | 47 => 226 | 50 => 245 | 48 => 243 | 2 => 2 | 52 => 183 | 55 => 187 | 59 => 208 | 60 => 209 | 20 => 20 | 61 => 210 | 65 => 241 | 66 => 242 | 67 => 206 | n => n, fun | 0 => 4 | 1 => 5 | 2 => 1 | 3 => 6 | 4 => 7 | n => n⟩
theorem Tryz.laysPu14 : Go.Proofs.LaysPu.n14 Tryz.prog Tryz.laysPu14_ren := {
  mixed := by kernel_rfl
  f14 := Tryz.func144.trans (congrArg some (by kernel_rfl))
  f16 := Tryz.func167.trans (congrArg some (by kernel_rfl))
  f17 := Tryz.func168.trans (congrArg some (by kernel_rfl))
  f19 := Tryz.func185.trans (congrArg some (by kernel_rfl))
  f20 := Tryz.func186.trans (congrArg some (by kernel_rfl))
  f21 := Tryz.func187.trans (congrArg some (by kernel_rfl))
  f22 := Tryz.func188.trans (congrArg some (by kernel_rfl))
  f23 := Tryz.func189.trans (congrArg some (by kernel_rfl))
  f24 := Tryz.func190.trans (congrArg some (by kernel_rfl))
  f25 := Tryz.func202.trans (congrArg some (by kernel_rfl))
  f26 := Tryz.func203.trans (congrArg some (by kernel_rfl))
  f27 := Tryz.func81.trans (congrArg some (by kernel_rfl))
  f28 := Tryz.func106.trans (congrArg some (by kernel_rfl))
  f29 := Tryz.func130.trans (congrArg some (by kernel_rfl))
  f30 := Tryz.func155.trans (congrArg some (by kernel_rfl))
  f31 := Tryz.func156.trans (congrArg some (by kernel_rfl))
  f32 := Tryz.func157.trans (congrArg some (by kernel_rfl))
  f33 := Tryz.func158.trans (congrArg some (by kernel_rfl))
  f34 := Tryz.func175.trans (congrArg some (by kernel_rfl))
  f35 := Tryz.func176.trans (congrArg some (by kernel_rfl))
  f36 := Tryz.func177.trans (congrArg some (by kernel_rfl))
  f37 := Tryz.func178.trans (congrArg some (by kernel_rfl))
  f38 := Tryz.func179.trans (congrArg some (by kernel_rfl))
  f39 := Tryz.func198.trans (congrArg some (by kernel_rfl))
  f40 := Tryz.func199.trans (congrArg some (by kernel_rfl))
  t0 := Tryz.underlying0
  a0 := Tryz.isAgg0
  z0 := Tryz.sizeOf0
  v0 := Tryz.zeroValue0
  i0 := by kernel_rfl
  t2 := Tryz.underlying2
  a2 := Tryz.isAgg2
  z2 := Tryz.sizeOf2
  v2 := Tryz.zeroValue2
  i2 := by kernel_rfl
  t3 := Tryz.underlying3
  a3 := Tryz.isAgg3
  z3 := Tryz.sizeOf3
  v3 := Tryz.zeroValue3
  i3 := by kernel_rfl
  t4 := Tryz.underlying4
  a4 := Tryz.isAgg4
  z4 := Tryz.sizeOf4
  v4 := Tryz.zeroValue4
  i4 := by kernel_rfl
  t5 := Tryz.underlying5
  a5 := Tryz.isAgg5
  z5 := Tryz.sizeOf5
  v5 := Tryz.zeroValue5
  i5 := by kernel_rfl
  t9 := Tryz.underlying9
  a9 := Tryz.isAgg9
  z9 := Tryz.sizeOf9
  v9 := Tryz.zeroValue9
  i9 := by kernel_rfl
  t20 := Tryz.underlying20
  a20 := Tryz.isAgg20
  z20 := Tryz.sizeOf20
  v20 := Tryz.zeroValue20
  i20 := by kernel_rfl
  t21 := Tryz.underlying21
  a21 := Tryz.isAgg21
  z21 := Tryz.sizeOf21
  v21 := Tryz.zeroValue21
  i21 := by kernel_rfl
  t22 := Tryz.underlying139
  a22 := Tryz.isAgg139
  z22 := Tryz.sizeOf139
  v22 := Tryz.zeroValue139
  i22 := by kernel_rfl
  t24 := Tryz.underlying175
  a24 := Tryz.isAgg175
  z24 := Tryz.sizeOf175
  v24 := Tryz.zeroValue175
  i24 := by kernel_rfl
  t25 := Tryz.underlying176
  a25 := Tryz.isAgg176
  z25 := Tryz.sizeOf176
  v25 := Tryz.zeroValue176
  i25 := by kernel_rfl
  t34 := Tryz.underlying215
  a34 := Tryz.isAgg215
  z34 := Tryz.sizeOf215
  v34 := Tryz.zeroValue215
  i34 := by kernel_rfl
  c34 := by kernel_rfl
  t36 := Tryz.underlying191
  a36 := Tryz.isAgg191
  z36 := Tryz.sizeOf191
  v36 := Tryz.zeroValue191
  i36 := by kernel_rfl
  t37 := Tryz.underlying186
  a37 := Tryz.isAgg186
  z37 := Tryz.sizeOf186
  v37 := Tryz.zeroValue186
  i37 := by kernel_rfl
  t39 := Tryz.underlying217
  a39 := Tryz.isAgg217
  z39 := Tryz.sizeOf217
  v39 := Tryz.zeroValue217
  i39 := by kernel_rfl
  t44 := Tryz.underlying234
  a44 := Tryz.isAgg234
  z44 := Tryz.sizeOf234
  v44 := Tryz.zeroValue234
  i44 := by kernel_rfl
  t47 := Tryz.underlying226
  a47 := Tryz.isAgg226
  z47 := Tryz.sizeOf226
  v47 := Tryz.zeroValue226
  i47 := by kernel_rfl
  t48 := Tryz.underlying243
  a48 := Tryz.isAgg243
  z48 := Tryz.sizeOf243
  v48 := Tryz.zeroValue243
  i48 := by kernel_rfl
  t50 := Tryz.underlying245
  a50 := Tryz.isAgg245
  z50 := Tryz.sizeOf245
  v50 := Tryz.zeroValue245
  i50 := by kernel_rfl
  t52 := Tryz.underlying183
  a52 := Tryz.isAgg183
  z52 := Tryz.sizeOf183
  v52 := Tryz.zeroValue183
  i52 := by kernel_rfl
  t55 := Tryz.underlying187
  a55 := Tryz.isAgg187
  z55 := Tryz.sizeOf187
  v55 := Tryz.zeroValue187
  i55 := by kernel_rfl
  t59 := Tryz.underlying208
  a59 := Tryz.isAgg208
  z59 := Tryz.sizeOf208
  v59 := Tryz.zeroValue208
  i59 := by kernel_rfl
  t60 := Tryz.underlying209
  a60 := Tryz.isAgg209
  z60 := Tryz.sizeOf209
  v60 := Tryz.zeroValue209
  i60 := by kernel_rfl
  t61 := Tryz.underlying210
  a61 := Tryz.isAgg210
  z61 := Tryz.sizeOf210
  t65 := Tryz.underlying241
  a65 := Tryz.isAgg241
  z65 := Tryz.sizeOf241
  v65 := Tryz.zeroValue241
  i65 := by kernel_rfl
  t66 := Tryz.underlying242
  a66 := Tryz.isAgg242
  z66 := Tryz.sizeOf242
  v66 := Tryz.zeroValue242
  i66 := by kernel_rfl
  t67 := Tryz.underlying206
  a67 := Tryz.isAgg206
  z67 := Tryz.sizeOf206
  v67 := Tryz.zeroValue206
  i67 := by kernel_rfl
  g0 := by kernel_rfl
  m0 := by kernel_rfl
  g1 := by kernel_rfl
  m1 := by kernel_rfl
  g2 := by kernel_rfl
  m2 := by kernel_rfl
  g3 := by kernel_rfl
  m3 := by kernel_rfl
  g4 := by kernel_rfl
  m4 := by kernel_rfl }
open Go.RowKit in
theorem Tryz.strconv_ParseUint_10_at64_ok (s : ByteArray) (hmax : s.size ≤ 9223372036854775806) (u : Nat) (h : Lib.parseUintB 64 s.data.toList = .ok u) (w : World) :
    Calls Tryz.prog 144 #[.string s, .int .i64 10, .int .i64 64] w fun e w' => e = .returned (.tuple #[.int .u64 u, .nilIface]) ∧ (w' = w ∨ w' = Lib.bytesWorld w 5 s) := Any.strconv_ParseUint_10_at64_ok Tryz.laysPu14 s hmax u h w
def Tryz.lays145_ren : Go.Shelf.Ren := ⟨fun | 145 => 96 | 220 => 117 | 219 => 134 | 217 => 159 | 225 => 160 | 224 => 161 | 267 => 162 | 266 => 180 | 314 => 181 | n => n, fun | 9 => 9 | 4 => 4 | 59 => 133 | 3 => 3 | 5 => 5 | 46 => 191 | 146 => 212 | 51 => 209 | n => n, fun | 1 => 0 | n => n⟩
theorem Tryz.lays145 : Go.Proofs.Lays.n145 Tryz.prog Tryz.lays145_ren := {
  mixed := by kernel_rfl
  f145 := Tryz.func96.trans (congrArg some (by kernel_rfl))
  f217 := Tryz.func159.trans (congrArg some (by kernel_rfl))
  f219 := Tryz.func134.trans (congrArg some (by kernel_rfl))
  f220 := Tryz.func117.trans (congrArg some (by kernel_rfl))
  f224 := Tryz.func161.trans (congrArg some (by kernel_rfl))
  f225 := Tryz.func160.trans (congrArg some (by kernel_rfl))
  f266 := Tryz.func180.trans (congrArg some (by kernel_rfl))
  f267 := Tryz.func162.trans (congrArg some (by kernel_rfl))
  f314 := Tryz.func181.trans (congrArg some (by kernel_rfl))
  t3 := Tryz.underlying3
  a3 := Tryz.isAgg3
  z3 := Tryz.sizeOf3
  v3 := Tryz.zeroValue3
  t4 := Tryz.underlying4
  a4 := Tryz.isAgg4
  z4 := Tryz.sizeOf4
  v4 := Tryz.zeroValue4
  t5 := Tryz.underlying5
  a5 := Tryz.isAgg5
  z5 := Tryz.sizeOf5
  v5 := Tryz.zeroValue5
  t9 := Tryz.underlying9
  a9 := Tryz.isAgg9
  z9 := Tryz.sizeOf9
  v9 := Tryz.zeroValue9
  t46 := Tryz.underlying191
  a46 := Tryz.isAgg191
  z46 := Tryz.sizeOf191
  v46 := Tryz.zeroValue191
  t51 := Tryz.underlying209
  a51 := Tryz.isAgg209
  z51 := Tryz.sizeOf209
  v51 := Tryz.zeroValue209
  t59 := Tryz.underlying133
  a59 := Tryz.isAgg133
  z59 := Tryz.sizeOf133
  v59 := Tryz.zeroValue133
  t146 := Tryz.underlying212
  a146 := Tryz.isAgg212
  z146 := Tryz.sizeOf212
  v146 := Tryz.zeroValue212
  g1 := by kernel_rfl }
open Go.RowKit Go.Lib in
theorem Tryz.strings_Cut (s sep : ByteArray) (m : Int) (w : World) (hs : s.size < 4294967281) (hm : w.cell? ⟨0, 0, none⟩ = some (.int .i64 m)) :
    Calls Tryz.prog 96 #[.string s, .string sep] w fun e w' => e = .returned (.tuple #[.string ⟨(Lib.cut s.data.toList sep.data.toList).1.toArray⟩, .string ⟨(Lib.cut s.data.toList sep.data.toList).2.1.toArray⟩, .bool (Lib.cut s.data.toList sep.data.toList).2.2]) ∧ ∃ n, w' = w.drewN n := Any.strings_Cut Tryz.lays145 s sep m w hs hm
def Tryz.lays99_ren : Go.Shelf.Ren := ⟨fun | 99 => 50 | 206 => 75 | n => n, fun | 9 => 9 | 4 => 4 | 3 => 3 | n => n, fun | n => n⟩
theorem Tryz.lays99 : Go.Proofs.Lays.n99 Tryz.prog Tryz.lays99_ren := {
  mixed := by kernel_rfl
  f99 := Tryz.func50.trans (congrArg some (by kernel_rfl))
  f206 := Tryz.func75.trans (congrArg some (by kernel_rfl))
  t3 := Tryz.underlying3
  a3 := Tryz.isAgg3
  z3 := Tryz.sizeOf3
  v3 := Tryz.zeroValue3
  t4 := Tryz.underlying4
  a4 := Tryz.isAgg4
  z4 := Tryz.sizeOf4
  v4 := Tryz.zeroValue4
  t9 := Tryz.underlying9
  a9 := Tryz.isAgg9
  z9 := Tryz.sizeOf9
  v9 := Tryz.zeroValue9 }
open Go.RowKit Go.Lib in
theorem Tryz.strings_HasPrefix (s p : ByteArray) (w : World) :
    Calls Tryz.prog 50 #[.string s, .string p] w fun e w' => e = .returned (.bool (Lib.hasPrefix s.data.toList p.data.toList)) ∧ w' = w := Any.strings_HasPrefix Tryz.lays99 s p w
def Tryz.lays101_ren : Go.Shelf.Ren := ⟨fun | 101 => 120 | 208 => 143 | 206 => 75 | n => n, fun | 9 => 9 | 4 => 4 | 3 => 3 | n => n, fun | n => n⟩
theorem Tryz.lays101 : Go.Proofs.Lays.n101 Tryz.prog Tryz.lays101_ren := {
  mixed := by kernel_rfl
  f101 := Tryz.func120.trans (congrArg some (by kernel_rfl))
  f206 := Tryz.func75.trans (congrArg some (by kernel_rfl))
  f208 := Tryz.func143.trans (congrArg some (by kernel_rfl))
  t3 := Tryz.underlying3
  a3 := Tryz.isAgg3
  z3 := Tryz.sizeOf3
  v3 := Tryz.zeroValue3
  t4 := Tryz.underlying4
  a4 := Tryz.isAgg4
  z4 := Tryz.sizeOf4
  v4 := Tryz.zeroValue4
  t9 := Tryz.underlying9
  a9 := Tryz.isAgg9
  z9 := Tryz.sizeOf9
  v9 := Tryz.zeroValue9 }
open Go.RowKit Go.Lib in
theorem Tryz.strings_TrimPrefix (s p : ByteArray) (w : World) :
    Calls Tryz.prog 120 #[.string s, .string p] w fun e w' => e = .returned (.string ⟨(Lib.trimPrefix s.data.toList p.data.toList).toArray⟩) ∧ w' = w := Any.strings_TrimPrefix Tryz.lays101 s p w
def Tryz.lays105_ren : Go.Shelf.Ren := ⟨fun | 105 => 172 | 212 => 194 | 99 => 50 | 165 => 195 | 166 => 173 | 170 => 196 | 169 => 174 | 263 => 205 | 264 => 206 | 206 => 75 | 240 => 197 | 241 => 207 | 276 => 208 | 277 => 210 | n => n, fun | 9 => 9 | 3 => 3 | 4 => 4 | 20 => 20 | 0 => 0 | 46 => 191 | 109 => 222 | 5 => 5 | 72 => 201 | 76 => 204 | 51 => 209 | 146 => 212 | 53 => 139 | 148 => 237 | 70 => 199 | 37 => 186 | 75 => 175 | 127 => 226 | 164 => 239 | 80 => 206 | n => n, fun | n => n⟩
theorem Tryz.lays105 : Go.Proofs.Lays.n105 Tryz.prog Tryz.lays105_ren := {
  mixed := by kernel_rfl
  f99 := Tryz.func50.trans (congrArg some (by kernel_rfl))
  f105 := Tryz.func172.trans (congrArg some (by kernel_rfl))
  f165 := Tryz.func195.trans (congrArg some (by kernel_rfl))
  f166 := Tryz.func173.trans (congrArg some (by kernel_rfl))
  f169 := Tryz.func174.trans (congrArg some (by kernel_rfl))
  f170 := Tryz.func196.trans (congrArg some (by kernel_rfl))
  f206 := Tryz.func75.trans (congrArg some (by kernel_rfl))
  f212 := Tryz.func194.trans (congrArg some (by kernel_rfl))
  f240 := Tryz.func197.trans (congrArg some (by kernel_rfl))
  f241 := Tryz.func207.trans (congrArg some (by kernel_rfl))
  f263 := Tryz.func205.trans (congrArg some (by kernel_rfl))
  f264 := Tryz.func206.trans (congrArg some (by kernel_rfl))
  f276 := Tryz.func208.trans (congrArg some (by kernel_rfl))
  f277 := Tryz.func210.trans (congrArg some (by kernel_rfl))
  t0 := Tryz.underlying0
  a0 := Tryz.isAgg0
  z0 := Tryz.sizeOf0
  v0 := Tryz.zeroValue0
  t3 := Tryz.underlying3
  a3 := Tryz.isAgg3
  z3 := Tryz.sizeOf3
  v3 := Tryz.zeroValue3
  t4 := Tryz.underlying4
  a4 := Tryz.isAgg4
  z4 := Tryz.sizeOf4
  v4 := Tryz.zeroValue4
  t5 := Tryz.underlying5
  a5 := Tryz.isAgg5
  z5 := Tryz.sizeOf5
  v5 := Tryz.zeroValue5
  t9 := Tryz.underlying9
  a9 := Tryz.isAgg9
  z9 := Tryz.sizeOf9
  v9 := Tryz.zeroValue9
  t20 := Tryz.underlying20
  a20 := Tryz.isAgg20
  z20 := Tryz.sizeOf20
  v20 := Tryz.zeroValue20
  t37 := Tryz.underlying186
  a37 := Tryz.isAgg186
  z37 := Tryz.sizeOf186
  v37 := Tryz.zeroValue186
  t46 := Tryz.underlying191
  a46 := Tryz.isAgg191
  z46 := Tryz.sizeOf191
  v46 := Tryz.zeroValue191
  t51 := Tryz.underlying209
  a51 := Tryz.isAgg209
  z51 := Tryz.sizeOf209
  v51 := Tryz.zeroValue209
  t53 := Tryz.underlying139
  a53 := Tryz.isAgg139
  z53 := Tryz.sizeOf139
  v53 := Tryz.zeroValue139
  t70 := Tryz.underlying199
  a70 := Tryz.isAgg199
  z70 := Tryz.sizeOf199
  v70 := Tryz.zeroValue199
  t72 := Tryz.underlying201
  a72 := Tryz.isAgg201
  z72 := Tryz.sizeOf201
  v72 := Tryz.zeroValue201
  t75 := Tryz.underlying175
  a75 := Tryz.isAgg175
  z75 := Tryz.sizeOf175
  v75 := Tryz.zeroValue175
  t76 := Tryz.underlying204
  a76 := Tryz.isAgg204
  z76 := Tryz.sizeOf204
  v76 := Tryz.zeroValue204
  t109 := Tryz.underlying222
  a109 := Tryz.isAgg222
  z109 := Tryz.sizeOf222
  v109 := Tryz.zeroValue222
  t127 := Tryz.underlying226
  a127 := Tryz.isAgg226
  z127 := Tryz.sizeOf226
  v127 := Tryz.zeroValue226
  t146 := Tryz.underlying212
  a146 := Tryz.isAgg212
  z146 := Tryz.sizeOf212
  v146 := Tryz.zeroValue212
  t148 := Tryz.underlying237
  a148 := Tryz.isAgg237
  z148 := Tryz.sizeOf237
  v148 := Tryz.zeroValue237
  t164 := Tryz.underlying239
  a164 := Tryz.isAgg239
  z164 := Tryz.sizeOf239
  v164 := Tryz.zeroValue239 }
theorem Tryz.Builder_Extra_105 : Builder.Extra Tryz.prog Tryz.lays105_ren := {
  sizeBuilder := by kernel_rfl
  liesBuilder := by kernel_rfl
  t5 := Tryz.underlying5
  a5 := Tryz.isAgg5
  z5 := Tryz.sizeOf5
  v5 := Tryz.zeroValue5
  infoByte := by kernel_rfl
  cellsByte := by kernel_rfl
  sizeByte := by kernel_rfl
  neB5 := by decide }
open Go.RowKit Go.Lib in
theorem Tryz.strings_Repeat (s : ByteArray) (c : Nat) (w : World) (hc : c ≤ 9223372036854775807) (hlen : s.size * c ≤ 140737488355328) :
    Calls Tryz.prog 172 #[.string s, .int .i64 c] w fun e w' => e = .returned (.string ⟨(Lib.repeatL s.data.toList c).toArray⟩) ∧ Below w.heap.size w w' := Any.strings_Repeat Tryz.lays105 Tryz.Builder_Extra_105 s c w hc hlen
end Go.Proofs
namespace Go.Proofs.YtmndcdjcodfchaaGreatDoor
open Go.RowKit
structure Glob (w : World) : Prop where
  len : ∃ m : Int, w.cell? ⟨0, 0, none⟩ = some (.int .i64 m)
  tab : Lib.TabIs Tryz.prog w "internal/strconv.uint64pow10" .u64 Lib.pow10Tab
  syn : ∃ tp p, w.var? Tryz.prog "strconv.ErrSyntax" = some #[.iface tp p]
  rng : ∃ tp p, w.var? Tryz.prog "strconv.ErrRange" = some #[.iface tp p]
theorem var_ext {A B : World} (h : Ext A B) {n : String} {x : Array Value} (hv : A.var? Tryz.prog n = some x) : B.var? Tryz.prog n = some x := by
  unfold World.var? at hv ⊢
  cases hg : Tryz.prog.globalNamed n with
  | none => rw [hg] at hv; cases hv
  | some g =>
    rw [hg] at hv
    simp only [Option.bind_some] at hv ⊢
    cases ho : A.heap[g]? with
    | none => rw [ho] at hv; cases hv
    | some o => rw [Below.block h g (Array.getElem?_eq_some_iff.1 ho).1]; exact hv
theorem Glob.ext {A B : World} (g : Glob A) (h : Ext A B) : Glob B := by
  obtain ⟨⟨m, h1⟩, h2, ⟨a, b, h3⟩, ⟨c, d, h4⟩⟩ := g
  exact ⟨⟨m, h.cell h1⟩, var_ext h h2, ⟨a, b, var_ext h h3⟩, ⟨c, d, var_ext h h4⟩⟩
abbrev txt (s : Txt) : Value := .string ⟨s.toArray⟩
theorem trimP_bare (s : Txt) : Lib.trimPrefix s [45] = bareS s ∧ Lib.hasPrefix s [45] = negS s := by
  unfold Lib.trimPrefix Lib.hasPrefix bareS negS
  cases s with
  | nil => exact ⟨rfl, rfl⟩
  | cons c s =>
    by_cases h : c = 45
    · subst h; exact ⟨rfl, rfl⟩
    · have h1 : ((45 : UInt8) == c) = false := by rw [beq_eq_false_iff_ne]; exact fun e => h e.symm
      have h2 : (c == (45 : UInt8)) = false := by rw [beq_eq_false_iff_ne]; exact h
      simp [h1, h2, List.isPrefixOf]
def digitsC : Txt := [48, 49, 50, 51, 52, 53, 54, 55, 56, 57]
set_option maxRecDepth 100000 in
theorem digitsC_iff (c : UInt8) : digitsC.contains c = decide (48 ≤ c.toNat ∧ c.toNat ≤ 57) := by
  have key : ∀ n : Fin 256, digitsC.contains (UInt8.ofNat n.val) = decide (48 ≤ (UInt8.ofNat n.val).toNat ∧ (UInt8.ofNat n.val).toNat ≤ 57) := by decide
  have := key ⟨c.toNat, c.toNat_lt⟩
  rwa [UInt8.ofNat_toNat] at this
theorem dropWhile_nil {α : Type} (p : α → Bool) (l : List α) : l.dropWhile p = [] ↔ ∀ c ∈ l, p c = true := by
  induction l with
  | nil => simp
  | cons a l ih =>
    rw [List.dropWhile_cons]
    by_cases h : p a = true
    · rw [if_pos h, ih]; simp [h]
    · rw [if_neg h]; simp [h]
theorem trimS_digits (d : Txt) : Lib.trimS d digitsC = [] ↔ DigitL d := by
  have e : ∀ l : Txt, (∀ c ∈ l, digitsC.contains c = true) ↔ DigitL l := fun l => by
    unfold DigitL
    constructor
    · intro h c hc
      have := h c hc
      rw [digitsC_iff] at this
      exact of_decide_eq_true this
    · intro h c hc
      rw [digitsC_iff]
      exact decide_eq_true (h c hc)
  unfold Lib.trimS Lib.trimLeftS
  rw [dropWhile_nil, e]
  constructor
  · intro h
    have h1 : Lib.trimRightS d digitsC = [] := by
      have h2 := (e _).2 h
      unfold Lib.trimRightS at h2 ⊢
      cases hr : d.reverse.dropWhile (digitsC.contains ·) with
      | nil => rfl
      | cons c l =>
        rw [hr] at h2
        have h3 := h2 c (by simp)
        have h4 : (d.reverse.dropWhile (digitsC.contains ·)).head? = some c := by rw [hr]; rfl
        have h5 := List.head?_dropWhile_not (digitsC.contains ·) d.reverse
        rw [h4] at h5
        simp only at h5
        rw [h3] at h5
        cases h5
    unfold Lib.trimRightS at h1
    rw [List.reverse_eq_nil_iff, dropWhile_nil] at h1
    exact (e d).1 (fun c hc => h1 c (by simpa using hc))
  · intro h
    have h1 : Lib.trimRightS d digitsC = [] := by
      unfold Lib.trimRightS
      rw [List.reverse_eq_nil_iff, dropWhile_nil]
      exact fun c hc => (e d).2 h c (by simpa using hc)
    rw [h1]
    intro c hc
    cases hc
end Go.Proofs.YtmndcdjcodfchaaGreatDoor
namespace Go.Proofs.YtmndcdjcodfchaaGreatDoor
open Go.RowKit
theorem Trim_digits (d : Txt) (w : World) (hl : d.length ≤ 1000) :
    Calls Tryz.prog 119 #[txt d, txt digitsC] w fun e w' => e = .returned (txt (Lib.trimS d digitsC)) ∧ Ext w w' :=
  (Any.strings_Trim_laid Tryz.lays160 (by kernel_rfl) ⟨d.toArray⟩ ⟨digitsC.toArray⟩ w (by show d.toArray.size ≤ _; simp; omega) (by decide) (ascii_of_all (by decide))).mono fun e w' h => h
theorem CutPrefix_any (s : Txt) (w : World) :
    Calls Tryz.prog 118 #[txt s, txt [45]] w fun e w' => e = .returned (.tuple #[txt (bareS s), .bool (negS s)]) ∧ w' = w :=
  (Tryz.strings_CutPrefix ⟨s.toArray⟩ ⟨#[45]⟩ w).mono fun e w' h => by
    have := trimP_bare s
    rw [← this.1, ← this.2]; exact h
theorem TrimPrefix_any (s : Txt) (w : World) :
    Calls Tryz.prog 120 #[txt s, txt [45]] w fun e w' => e = .returned (txt (bareS s)) ∧ w' = w :=
  (Tryz.strings_TrimPrefix ⟨s.toArray⟩ ⟨#[45]⟩ w).mono fun e w' h => by
    have := trimP_bare s
    rw [← this.1]; exact h
set_option maxHeartbeats 2000000 in
theorem long_any (s : Txt) (w : World) :
    Calls Tryz.prog 98 #[txt s] w fun e w' => e = .returned (.bool (decide (60 < (bareS s).length))) ∧ Ext w w' := by
  have HT := Lib.hid (fun W => TrimPrefix_any s W)
  go_enter Tryz.func98, Tryz.ntmps98
  go_wp2_with (go_at_call 120; refine (HT.out _).mono ?_; rintro e w' ⟨rfl, rfl⟩)
  go_ret
  exact ⟨ret_bool (decide_eq_decide.2 (by omega)), Ext.refl _⟩
set_option maxHeartbeats 2000000 in
theorem integer_any (s : Txt) (w : World) (hl : s.length ≤ 1000) :
    Calls Tryz.prog 97 #[txt s] w fun e w' => e = .returned (.bool (decide (IntS s))) ∧ Ext w w' := by
  have HT := Lib.hid (fun W => CutPrefix_any s W)
  have HI : Hid (∀ b : Bool, (b = true ↔ IntS s) → decide (IntS s) = b) := fun b h => by
    by_cases k : IntS s
    · rw [decide_eq_true k, (h.2 k)]
    · rw [decide_eq_false k]
      cases b
      · rfl
      · exact absurd (h.1 rfl) k
  have HIN := Lib.hid (show IntS s ↔ CanonL (bareS s) ∧ s ≠ [45, 48] from Iff.rfl)
  have HD : Hid (∀ W, Calls Tryz.prog 119 #[txt (bareS s), txt digitsC] W fun e w' => e = .returned (txt (Lib.trimS (bareS s) digitsC)) ∧ Ext W w') := fun W => Trim_digits _ W (by
    have : (bareS s).length ≤ s.length := by unfold bareS; split; rw [List.length_tail]; omega; exact Nat.le_refl _
    omega)
  obtain ⟨f, hf⟩ : ∃ f, f = decide (IntS s) := ⟨_, rfl⟩
  rw [← hf]
  have HF := Lib.hid hf
  clear hf
  have HN : Hid (negS s = false → bareS s = s) := fun h => bare_pos h
  have HN2 : Hid (negS s = true → s = 45 :: bareS s) := fun h => neg_cons h
  generalize bareS s = d at *
  generalize negS s = ng at *
  by_cases hd : d = []
  · subst hd
    have hF : Hid (f = false) := HF.out.trans (HI.out false ⟨(fun h => by cases h), fun h => absurd rfl (HIN.out.1 h).1.2.1⟩)
    clear HI HF HIN HN HN2
    go_enter Tryz.func97, Tryz.ntmps97
    go_wp2_with (go_at_call 118; refine (HT.out _).mono ?_; rintro e w' ⟨rfl, rfl⟩)
    go_ret
    exact ⟨ret_bool hF.out.symm, Ext.refl _⟩
  · obtain ⟨c, m, rfl⟩ := List.exists_cons_of_ne_nil hd
    clear hd
    by_cases hdig : DigitL (c :: m)
    · have e0 : Lib.trimS (c :: m) digitsC = [] := (trimS_digits _).2 hdig
      rw [e0] at HD
      have hc : (48 ≤ c.toNat ∧ c.toNat ≤ 57) := hdig c (List.mem_cons_self ..)
      have hget : ∀ h, (⟨(c :: m).toArray⟩ : ByteArray)[0]'h = c := fun _ => rfl
      by_cases h48 : c = 48
      · subst h48
        cases m with
        | nil =>
          have hF : Hid (f = !ng) := HF.out.trans (HI.out (!ng) (by
            rw [HIN.out]
            cases ng
            · refine ⟨fun _ => ⟨⟨hdig, by simp, .inr rfl⟩, ?_⟩, fun _ => rfl⟩
              rw [← HN.out rfl]; decide
            · refine ⟨(fun h => by cases h), fun h => absurd (HN2.out rfl) h.2⟩))
          clear HI HF HIN HN HN2
          go_enter Tryz.func97, Tryz.ntmps97
          go_wp2_with (first
            | (go_at_call 118; refine (HT.out _).mono ?_; rintro e w' ⟨rfl, rfl⟩)
            | (go_at_call 119; refine (HD.out _).mono ?_; rintro e w' ⟨rfl, hE⟩))
          trace_state
          go_ret
          exact ⟨ret_bool hF.out.symm, hE⟩
        | cons k m =>
          have hF : Hid (f = false) := HF.out.trans (HI.out false (by
            rw [HIN.out]
            refine ⟨(fun h => by cases h), fun h => ?_⟩
            rcases h.1.2.2 with h | h
            · exact absurd rfl h
            · simp at h))
          clear HI HF HIN HN HN2
          go_enter Tryz.func97, Tryz.ntmps97
          go_wp2_with (first
            | (go_at_call 118; refine (HT.out _).mono ?_; rintro e w' ⟨rfl, rfl⟩)
            | (go_at_call 119; refine (HD.out _).mono ?_; rintro e w' ⟨rfl, hE⟩))
          trace_state
          go_ret
          exact ⟨ret_bool hF.out.symm, hE⟩
      · have hF : Hid (f = true) := HF.out.trans (HI.out true (by
          rw [HIN.out]
          refine ⟨fun _ => ⟨⟨hdig, by simp, .inl (by simpa using h48)⟩, ?_⟩, fun _ => rfl⟩
          intro e
          cases ng
          · rw [← HN.out rfl] at e
            simp only [List.cons.injEq] at e
            rw [e.1] at hc; simp at hc
          · have := HN2.out rfl
            rw [this] at e
            simp only [List.cons.injEq] at e
            exact h48 e.2.1))
        have hne : ((c.toNat : Int) != 48) = true := by
          rw [bne_iff_ne]
          intro e
          have e2 : c.toNat = 48 := by omega
          exact h48 (UInt8.toNat_inj.1 e2)
        clear HI HF HIN HN HN2
        go_enter Tryz.func97, Tryz.ntmps97
        go_wp2_with (first
          | (go_at_call 118; refine (HT.out _).mono ?_; rintro e w' ⟨rfl, rfl⟩)
          | (go_at_call 119; refine (HD.out _).mono ?_; rintro e w' ⟨rfl, hE⟩))
        go_ret
        exact ⟨ret_bool hF.out.symm, hE⟩
    · have hF : Hid (f = false) := HF.out.trans (HI.out false ⟨(fun h => by cases h), fun h => absurd (HIN.out.1 h).1.1 hdig⟩)
      have e0 : Lib.trimS (c :: m) digitsC ≠ [] := fun e => hdig ((trimS_digits _).1 e)
      generalize Lib.trimS (c :: m) digitsC = t at e0 HD
      obtain ⟨t0, t1, rfl⟩ := List.exists_cons_of_ne_nil e0
      clear HI HF HIN HN HN2
      go_enter Tryz.func97, Tryz.ntmps97
      go_wp2_with (first
        | (go_at_call 118; refine (HT.out _).mono ?_; rintro e w' ⟨rfl, rfl⟩)
        | (go_at_call 119; refine (HD.out _).mono ?_; rintro e w' ⟨rfl, hE⟩))
      go_ret
      exact ⟨ret_bool hF.out.symm, hE⟩
end Go.Proofs.YtmndcdjcodfchaaGreatDoor
namespace Go.Proofs.YtmndcdjcodfchaaGreatDoor
open Go.RowKit
theorem ext_bytes (w : World) (e : TypeId) (s : ByteArray) : Ext w (Lib.bytesWorld w e s) := Lib.bytesWorld_below w e s
theorem Parse_any (d : Txt) (w : World) (hd : DigitL d) (hne : d ≠ []) (hl : d.length ≤ 18) :
    Calls Tryz.prog 144 #[txt d, .int .i64 10, .int .i64 64] w fun e w' => e = .returned (.tuple #[.int .u64 (decV d : Nat), .nilIface]) ∧ Ext w w' :=
  (Tryz.strconv_ParseUint_10_at64_ok ⟨d.toArray⟩ (by show d.toArray.size ≤ _; simp; omega) (decV d) (parse_eq hd hne hl) w).mono fun e w' h => by
    rcases h with ⟨h1, rfl | rfl⟩
    · exact ⟨h1, Ext.refl _⟩
    · exact ⟨h1, ext_bytes _ _ _⟩
theorem extract_txt (s : Txt) (i j : Nat) : (⟨s.toArray⟩ : ByteArray).extract i j = ⟨((s.take j).drop i).toArray⟩ := by
  apply ByteArray.ext
  rw [ByteArray.data_extract]
  simp [List.drop_take]
set_option maxHeartbeats 4000000 in
set_option maxRecDepth 100000 in
theorem read_any (s : Txt) (w : World) (hs : DigitL s) (hl : s.length ≤ 500) :
    Calls Tryz.prog 121 #[txt s] w (OwnNPost .u64 139 (toB 1000000000 (decV s)) w) := by
  obtain ⟨i0, hi, hi0, hi1, hi2⟩ := info_parts infoU64
  have HS := Lib.hid hs
  clear hs
  go_enter Tryz.func121, Tryz.ntmps121
  go_wp2
  go_loopw [3, 4] (fun v en wr => ∃ (vv : Value) (o : List Nat), v = vv ∧ en = .int .i64 ((s.length : Int) - 9 * (o.length : Int)) ∧ 9 * o.length ≤ s.length + 9 ∧ Hid (ReadI 9 s o) ∧ Hid (OwnsN .u64 139 wr vv o) ∧ Hid (∀ b, vv.ownBlock = some b → w.heap.size ≤ b) ∧ Ext w wr) (fun _ en _ => (intOf en + 9).toNat)
  case atStart => exact ⟨_, [], rfl, by simp, by simp, ReadI.start 9 s, OwnsN.nil _ _ _, (fun b hb => by cases hb), Ext.refl _⟩
  case round =>
    obtain ⟨vv, o, hvv, rfl, hol, HR, HO, HN, he⟩ := hrel
    obtain rfl := hvv.symm
    by_cases hgt : 9 * o.length < s.length
    · obtain ⟨en, hen⟩ : ∃ en, en = s.length - 9 * o.length := ⟨_, rfl⟩
      have hee : (s.length : Int) - 9 * (o.length : Int) = (en : Int) := by omega
      have he0 : (0 : Int) < (en : Int) := by omega
      have hes : (en : Int) ≤ (s.length : Int) := by omega
      obtain ⟨st, hst⟩ : ∃ st, st = en - 9 := ⟨_, rfl⟩
      have hw1 : IntKind.i64.wrap ((en : Int) - 9) = (en : Int) - 9 := by rw [IntKind.wrap_i64]; omega
      have hmx : max (0 : Int) ((en : Int) - 9) = (st : Int) := by omega
      have hst0 : (0 : Int) ≤ (st : Int) := by omega
      have hst1 : (st : Int) ≤ (en : Int) := by omega
      have hex := extract_txt s st en
      have hnx := HR.out.next (by omega) HS.out
      rw [← hen, ← hst] at hnx
      obtain ⟨d, hd⟩ : ∃ d, d = (s.take en).drop st := ⟨_, rfl⟩
      rw [← hd] at hnx hex
      have hdl : d.length ≤ 9 := by rw [hd, List.length_drop, List.length_take]; omega
      have hdn : d ≠ [] := by
        intro e
        have : d.length = 0 := by rw [e]; rfl
        rw [hd, List.length_drop, List.length_take] at this
        omega
      have HP := Lib.hid (fun W => Parse_any d W (by rw [hd]; exact (HS.out.of_take en).of_drop st) hdn (by omega))
      have HNX := Lib.hid hnx
      have HEN := Lib.hid hen
      rw [hee]
      clear hd hst hen hnx hdl hdn
      generalize decV d = x at HNX HP
      have hol2 : o.length ≤ 100 := by omega
      have hEnd : Hid ((en : Int) - 9 = (s.length : Int) - 9 * ((o ++ [x]).length : Int)) := by
        show _ = _
        rw [List.length_append, List.length_singleton]; omega
      have hlo : Hid (9 * (o ++ [x]).length ≤ s.length + 9) := by
        show _ ≤ _
        rw [List.length_append, List.length_singleton]; omega
      clear hee HEN HR
      go_wp2_with (first
        | (go_at_call 144; refine (HP.out _).mono ?_; rintro e w' ⟨rfl, hE⟩)
        | (at_builtin; refine wpList_append1 _ rfl _ _ 109 rfl 139 i0 (.int .u64 0) 1 8 Tryz.underlying109 hi hi0 hi1 hi2 rfl (by decide) vv o.length (natsV .u64 o) rfl (HO.out.ext extA) ⟨w'.heap.size, 0, none⟩ 1 1 (by decide) [.int .u64 (x : Int)] rfl rfl (cells_one _ _ _) (by intro u hu; simp at hu; subst hu; rfl) (by unfold maxLen; omega) (by omega) ?_))
      all_goals
        intro v' w5 hown5 hend5
        have E5 : Ext wr (w'.alloc (.cells #[.int .u64 (x : Int)] 139)) := extA
        have hz5 := he.size
        have hz6 := E5.size
        have OB5 : Hid (∀ b, v'.ownBlock = some b → w.heap.size ≤ b) := hend5.ge (n := w.heap.size) (by omega) HN.out
        have O5 : Hid (OwnsN .u64 139 w5 v' (o ++ [x])) := ownsN_succ hown5
        have B5 : Ext w w5 := (he.trans E5).trans' (hend5.below (n := w.heap.size) (by omega) HN.out) (Nat.le_refl _)
        clear hown5 hend5 HO hz5 hz6 E5
        go_wp2
        refine ⟨⟨v', o ++ [x], rfl, by rw [← hEnd.out], hlo.out, HNX, O5, OB5, B5⟩, by simp [intOf]; omega⟩
    · have he0 : ¬ (0 : Int) < (s.length : Int) - 9 * (o.length : Int) := by omega
      have hdone : trimL o = toB 1000000000 (decV s) := HR.out.done (by omega) (by omega)
      obtain ⟨oa, oc, rfl, hoc, hor, _⟩ := HO.out.reads
      have HNB : Hid (∀ b, (Value.slice oa (trimL o).length oc).ownBlock = some b → w.heap.size ≤ b) := fun b hb => HN.out b (by cases oa <;> exact hb)
      have HT := Lib.hid (trimmed_any o oa oc wr hor hoc)
      have HDN := Lib.hid hdone
      clear hoc hor hdone
      generalize (s.length : Int) - 9 * (o.length : Int) = z at *
      go_wp2_with (go_at_call 129; refine HT.out.mono ?_; rintro e w5 ⟨rfl, hn5, hE5⟩)
      go_ret
      refine ⟨_, rfl, ?_, HNB.out, he.trans hE5⟩
      rw [← HDN.out]
      exact (HO.out.ext hE5).trim hn5
end Go.Proofs.YtmndcdjcodfchaaGreatDoor
namespace Go.Proofs.YtmndcdjcodfchaaGreatDoor
open Go.RowKit Go.Lib Go.Sort
theorem holds_zero0 (w : World) (T : TypeId) (nd : Nat) (hs : nd ≤ 24) : Holds (fun (b : UInt8) => Value.int .u8 (b.toNat : Int)) (w.alloc (.cells zeros24 T)) w.heap.size 0 (Array.replicate nd (0 : UInt8)) := fun j hj => by
  have hj' : j < nd := by simpa using hj
  refine ⟨?_, World.frozen?_alloc_new _ _ _ _⟩
  rw [World.cell?_alloc_new, zeros24_at _ (by omega), getElem!_pos _ j hj]
  simp
theorem ext_putRow {w A : World} (h : Ext w A) {b : Nat} (hb : w.heap.size ≤ b) (o : Nat) (d : Array UInt8) : Ext w (putRow (fun (b : UInt8) => Value.int .u8 (b.toNat : Int)) A b o d) := by
  refine ⟨h.os, h.tape, h.output, by rw [size_putRow]; exact h.size, fun k hk => ?_⟩
  rw [← h.block k hk]
  simp only [putRow, mapBlock, Array.getElem?_modify]
  rw [if_neg (by omega)]
theorem ext_grow {w A : World} (h : Ext w A) (os : Array Obj) : Ext w (grow A os) := by
  refine ⟨h.os, h.tape, h.output, by simp only [grow, Array.size_append]; have := h.size; omega, fun k hk => ?_⟩
  rw [← h.block k hk]
  simp only [grow]
  exact Array.getElem?_append_left (Nat.lt_of_lt_of_le hk h.size)
set_option maxHeartbeats 4000000 in
set_option maxRecDepth 100000 in
theorem FormatU_any (u : Nat) (w : World) (hu : u < 18446744073709551616) (htab : TabIs Tryz.prog w "internal/strconv.uint64pow10" .u64 pow10Tab) :
    Calls Tryz.prog 193 #[.int .u64 (u : Int), .int .i64 10] w fun e w' => e = .returned (.string ⟨(decDigits u).toArray⟩) ∧ Ext w w' := by
  have mixed : Tryz.prog.follows Departure.mixedOrders = true := by kernel_rfl
  by_cases hs : u < 100
  · have hi : (u : Int) < 100 := by omega
    have hw : IntKind.i64.wrap (u : Int) = (u : Int) := by rw [IntKind.wrap_i64]; omega
    go_enter Tryz.func193, Tryz.ntmps193
    go_wp2_with (go_at_call 155; refine (Tryz.internal_strconv_small u hs _).mono ?_; rintro e w' ⟨rfl, rfl⟩)
    go_ret
    exact ⟨rfl, Ext.refl _⟩
  · have hi : ¬ (u : Int) < 100 := by omega
    have hu1 : 1 ≤ u := by omega
    have hnd20 : nDigits u ≤ 20 := by have := numDigits_eq u hu1 hu; split at this <;> omega
    have hal : Tryz.prog.arrayLen 183 = 24 := by simp [Program.arrayLen, Tryz.underlying183]
    have hsl1 : ∀ W, (Instr.sliceAt 183 (.pointer (some ⟨w.heap.size, 0, none⟩)) none (some (.int .i64 (nDigits u : Int))) none).run Tryz.prog W = .ok (.slice (some ⟨w.heap.size, 0, none⟩) (nDigits u) 24) W := fun W => by
      rw [run_sliceAt_array_h W 183 ⟨w.heap.size, 0, none⟩ (by simp [Program.arrayLen, Program.elem, Tryz.underlying183]) .i64 (nDigits u : Int) (by omega) (by rw [hal]; omega)]
      go_simp
    have hH0 := holds_zero0 w 183 (nDigits u) (by omega)
    have hfmt := Tryz.internal_strconv_formatBase10 w.heap.size 0 24 u (Array.replicate (nDigits u) 0) (w.alloc (.cells zeros24 183)) hH0 (by rw [Array.size_replicate]; exact lt_pow_nDigits u) hu (by rw [Array.size_replicate]; omega)
    rw [Array.size_replicate] at hfmt
    have HH0 := Lib.hid hH0
    clear hH0 hal
    go_enter Tryz.func193, Tryz.ntmps193
    go_wp2_with (go_at_call 156; refine (Tryz.internal_strconv_numDigits u hu1 hu _ (tabIs_alloc htab _)).mono ?_; rintro e w' ⟨rfl, rfl⟩)
    refine hfmt.mono ?_
    rintro e w' ⟨rfl, k, v', dk, rfl, hF⟩
    have hcv : (convert 186 9 (.slice (some ⟨w.heap.size, 0, none⟩) (nDigits u) 24)).run Tryz.prog ((putRow (fun (b : UInt8) => Value.int .u8 (b.toNat : Int)) (w.alloc (.cells zeros24 183)) w.heap.size 0 dk).drewN k) = .ok (.string ⟨(decDigits u).toArray⟩) ((putRow (fun (b : UInt8) => Value.int .u8 (b.toNat : Int)) (w.alloc (.cells zeros24 183)) w.heap.size 0 dk).drewN k) := by
      have h := run_convert_bytes_back (P := Tryz.prog) ((putRow (fun (b : UInt8) => Value.int .u8 (b.toNat : Int)) (w.alloc (.cells zeros24 183)) w.heap.size 0 dk).drewN k) 186 9 5 ⟨w.heap.size, 0, none⟩ 24 (decDigits u) Tryz.underlying186 Tryz.underlying5 Tryz.underlying9 (fun j hj => by
        rw [row_is_numeral hF j hj, add_plain, World.cell?_drewN]
        exact cell?_putRow (fun (b : UInt8) => Value.int .u8 (b.toNat : Int)) _ w.heap.size 0 _ dk HH0.out (by rw [hF.size, Array.size_replicate]) j (by rw [hF.size]; rw [decDigits_length] at hj; exact hj))
      rw [decDigits_length] at h
      exact h
    have E : Ext w ((putRow (fun (b : UInt8) => Value.int .u8 (b.toNat : Int)) (w.alloc (.cells zeros24 183)) w.heap.size 0 dk).drewN k) := Ext.drewN (ext_putRow ((Ext.refl w).alloc _) (Nat.le_refl _) _ _) _
    go_wp2
    go_ret
    exact ⟨rfl, E⟩
theorem FormatUint_any (u : Nat) (w : World) (hu : u < 18446744073709551616) (htab : TabIs Tryz.prog w "internal/strconv.uint64pow10" .u64 pow10Tab) :
    Calls Tryz.prog 171 #[.int .u64 (u : Int), .int .i64 10] w fun e w' => e = .returned (.string ⟨(decDigits u).toArray⟩) ∧ Ext w w' := by
  have HF := Lib.hid (FormatU_any u w hu htab)
  go_enter Tryz.func171, Tryz.ntmps171
  go_wp2_with (go_at_call 193; refine HF.out.mono ?_; rintro e w' ⟨rfl, hE⟩)
  go_ret
  exact ⟨rfl, hE⟩
theorem Repeat_any (n : Nat) (w : World) (hn : n ≤ 100) :
    Calls Tryz.prog 172 #[.string ⟨#[48]⟩, .int .i64 (n : Int)] w fun e w' => e = .returned (.string ⟨(List.replicate n (48 : UInt8)).toArray⟩) ∧ Ext w w' :=
  (Tryz.strings_Repeat ⟨#[48]⟩ n w (by omega) (by show 1 * n ≤ _; omega)).mono fun e w' h => by
    refine ⟨?_, h.2⟩
    rw [h.1]
    congr 3
    have : ∀ k, repeatL ((⟨#[48]⟩ : ByteArray).data.toList) k = List.replicate k (48 : UInt8) := fun k => by
      induction k with
      | zero => rfl
      | succ k ih => rw [repeatL, ih, List.replicate_succ]; rfl
    rw [this]
theorem Itoa_any (n : Int) (w : World) (h0 : -9223372036854775808 ≤ n) (h1 : n ≤ 9223372036854775807) (htab : TabIs Tryz.prog w "internal/strconv.uint64pow10" .u64 pow10Tab) :
    Calls Tryz.prog 81 #[.int .i64 n] w fun e w' => e = .returned (.string ⟨(itoa n).toArray⟩) ∧ Ext w w' :=
  (Tryz.strconv_Itoa n h0 h1 w htab).mono fun e w' h => by
    obtain ⟨h1, k, os, rfl⟩ := h
    exact ⟨h1, ext_grow (Ext.drewN (Ext.refl w) k) os⟩
end Go.Proofs.YtmndcdjcodfchaaGreatDoor
namespace Go.Proofs.YtmndcdjcodfchaaGreatDoor
open Go.RowKit
def BldW (b n3 : Nat) (l : Txt) (W : World) : Prop :=
  ∃ p v, W.heap[b]? = some (.cells #[p, v] 201 (0, 0)) ∧ (p = .pointer none ∨ p = .pointer (some ⟨b, 0, none⟩)) ∧
    W.ownsRow n3 5 1 v l.length (Lib.byteCells l)
theorem BldW.fresh {b n3 : Nat} {W : World} (h : W.heap[b]? = some (.cells #[.pointer none, .slice none 0 0] 201 (0, 0))) : BldW b n3 [] W :=
  ⟨_, _, h, .inl rfl, World.ownsRow_nil W n3 _ _⟩
theorem row_ge {A : World} {n3 : Nat} {e : TypeId} {s : Nat} {v : Value} {n : Nat} {xs : List Value} (h : A.ownsRow n3 e s v n xs) {g : Nat} (hg : v.ownBlock = some g) : n3 ≤ g ∧ ∃ cur, A.heap[g]? = some (.cells cur e (0, 0)) := by
  rcases h.2 with ⟨hv, _⟩ | ⟨g', cap, cur, hv, hb, hh, _⟩
  · rw [hv] at hg; cases hg
  · rw [hv] at hg; cases hg; exact ⟨hb, cur, hh⟩
theorem row_base {A : World} {n3 m : Nat} {e : TypeId} {s : Nat} {v : Value} {n : Nat} {xs : List Value} (h : A.ownsRow n3 e s v n xs) (hm : m ≤ n3) : A.ownsRow m e s v n xs := by
  refine ⟨h.1, ?_⟩
  rcases h.2 with h | ⟨g, cap, cur, hv, hb, r⟩
  · exact .inl h
  · exact .inr ⟨g, cap, cur, hv, Nat.le_trans hm hb, r⟩
theorem row_same {A B : World} {n3 : Nat} {e : TypeId} {s : Nat} {v : Value} {n : Nat} {xs : List Value} (h : A.ownsRow n3 e s v n xs) (k : ∀ b, v.ownBlock = some b → B.heap[b]? = A.heap[b]?) : B.ownsRow n3 e s v n xs := by
  obtain ⟨h1, h2⟩ := h
  refine ⟨h1, ?_⟩
  rcases h2 with h2 | ⟨g, cap, cur, hv, hg, hh, r⟩
  · exact .inl h2
  · exact .inr ⟨g, cap, cur, hv, hg, (k g (by rw [hv]; rfl)).trans hh, r⟩
theorem BldW.is {b n3 : Nat} {l : Txt} {W : World} (h : BldW b n3 l W) (hb : b < n3) : Lib.IsBuilder 201 5 b b (Lib.byteCells l) W := by
  obtain ⟨p, v, h1, h2, h3⟩ := h
  rw [← Lib.byteCells_length] at h3
  have h6 : v.ownBlock ≠ some b := fun e => by have := (row_ge h3 e).1; omega
  rcases h2 with rfl | rfl
  · exact .inl ⟨Nat.le_refl _, v, h1, row_base h3 (Nat.le_of_lt hb), h6⟩
  · exact .inr ⟨Nat.le_refl _, v, h1, row_base h3 (Nat.le_of_lt hb), h6⟩
theorem BldW.keep {b n3 m : Nat} {l : Txt} {A B : World} (h : BldW b n3 l A) (q : Keep m A B) : BldW b n3 l B := by
  obtain ⟨p, v, h1, h2, h3⟩ := h
  refine ⟨p, v, q.2 b _ h1 rfl, h2, row_same h3 (fun g hg => ?_)⟩
  obtain ⟨_, cur, hh⟩ := row_ge h3 hg
  exact (q.2 g _ hh rfl).trans hh.symm
theorem BldW.ext {b n3 : Nat} {l : Txt} {A B : World} (h : BldW b n3 l A) (q : Ext A B) : BldW b n3 l B := h.keep (Keep.ext q (Nat.le_refl _))
set_option maxHeartbeats 2000000 in
set_option maxRecDepth 100000 in
theorem copyCheck_used (b : Nat) (w : World) (h0 : w.cell? ⟨b, 0, none⟩ = some (.pointer (some ⟨b, 0, none⟩))) :
    Calls Tryz.prog 197 #[.pointer (some ⟨b, 0, none⟩)] w fun e w' => e = .returned (.tuple #[]) ∧ w' = w := by
  obtain ⟨j, hj, _⟩ := Option.map_eq_some_iff.1 Tryz.Builder_Extra_169.sizeBuilder
  go_enter Tryz.func197, Tryz.ntmps197
  go_wp2
  rw [Lib.run_neq_ptr_same w _ Tryz.underlying199 hj]
  go_wp2
  go_end0
  exact ⟨rfl, rfl⟩
set_option maxHeartbeats 2000000 in
set_option maxRecDepth 100000 in
theorem copyCheck_fresh (b : Nat) (w : World) (h0 : w.cell? ⟨b, 0, none⟩ = some (.pointer none)) (hsh : w.shape? b = some (201, 2)) (hfz : w.frozen? ⟨b, 0, none⟩ = false) :
    Calls Tryz.prog 197 #[.pointer (some ⟨b, 0, none⟩)] w fun e w' => e = .returned (.tuple #[]) ∧ w' = w.setCell ⟨b, 0, none⟩ (.pointer (some ⟨b, 0, none⟩)) := by
  obtain ⟨j, hj, hjs⟩ := Option.map_eq_some_iff.1 Tryz.Builder_Extra_169.sizeBuilder
  go_enter Tryz.func197, Tryz.ntmps197
  go_wp2
  rw [Lib.run_to_unsafe w ⟨b, 0, none⟩ Tryz.underlying199 Tryz.underlying239 hj (by rw [hjs]; decide) hsh (Nat.zero_lt_succ 1)]
  simp only [Result.andThen]
  rw [Oper.upon_value]
  go_wp2
  rw [run_callFunc_extern Tryz.func208 (by kernel_rfl) (by kernel_rfl) (by kernel_rfl) (e := Extern.AbiNoEscape.same) (by kernel_rfl)]
  rw [Lib.run_noEscape]
  simp only [Result.andThen]
  rw [Oper.upon_value]
  go_wp2
  rw [Lib.run_from_unsafe w ⟨b, 0, none⟩ Tryz.underlying239 Tryz.underlying199 hj hsh Tryz.Builder_Extra_169.liesBuilder]
  simp only [Result.andThen]
  rw [Oper.upon_value]
  go_wp2
  go_end0
  exact ⟨rfl, rfl⟩
theorem strCells_txt (m : Txt) : Lib.strCells ⟨m.toArray⟩ = Lib.byteCells m := by
  unfold Lib.strCells Lib.byteCells
  rfl
theorem byteCells_app (l m : Txt) : Lib.byteCells (l ++ m) = Lib.byteCells l ++ Lib.byteCells m := by
  unfold Lib.byteCells
  rw [List.map_append]
set_option maxHeartbeats 2000000 in
set_option maxRecDepth 100000 in
theorem WriteString_any (b n3 : Nat) (l m : Txt) (w : World) (h : BldW b n3 l w) (hb : b < n3) (hn : n3 ≤ w.heap.size) (hlen : l.length + m.length ≤ 100000) :
    Calls Tryz.prog 173 #[.pointer (some ⟨b, 0, none⟩), txt m] w fun e w' => e = .returned (.tuple #[.int .i64 m.length, .nilIface]) ∧ BldW b n3 (l ++ m) w' ∧ Below b w w' ∧
      ∃ M : Nat → Prop, Chg M w w' ∧ (∀ k, M k → k = b ∨ n3 ≤ k) ∧ ∀ k, M k → ∀ o, w.heap[k]? = some o → o.isCells = true := by
  obtain ⟨i0, hi, hz0, hz1, hz2⟩ := info_parts Tryz.Builder_Extra_169.infoByte
  obtain ⟨p, v, h1, h2, h3⟩ := h
  have hbw : b < w.heap.size := by omega
  have hvb : v.ownBlock ≠ some b := fun e => by have := (row_ge h3 e).1; omega
  have hCC : Hid (Calls Tryz.prog 197 #[.pointer (some ⟨b, 0, none⟩)] w fun e w' => e = .returned (.tuple #[]) ∧ w'.heap[b]? = some (.cells #[.pointer (some ⟨b, 0, none⟩), v] 201 (0, 0)) ∧ Chg (fun k => k = b) w w' ∧ Below b w w') := by
    rcases h2 with rfl | rfl
    · refine (copyCheck_fresh b w (by simp [World.cell?, h1]) (by simp [World.shape?, h1]) (by simp [World.frozen?, h1])).mono ?_
      rintro e w' ⟨rfl, rfl⟩
      refine ⟨rfl, ?_, Chg.setCell (B := fun k => k = b) ⟨b, 0, none⟩ _ rfl, (Below.refl b w).setCell (p := ⟨b, 0, none⟩) (Nat.le_refl _) _⟩
      simp only [World.setCell, Array.getElem?_modify, h1]
      simp
    · refine (copyCheck_used b w (by simp [World.cell?, h1])).mono ?_
      rintro e w' ⟨rfl, rfl⟩
      exact ⟨rfl, h1, Chg.refl _ _, Below.refl _ _⟩
  have HM : Hid ((∀ k, (k = b ∨ v.ownBlock = some k) → k = b ∨ n3 ≤ k) ∧ ∀ k, (k = b ∨ v.ownBlock = some k) → ∀ o, w.heap[k]? = some o → o.isCells = true) := by
    refine ⟨fun k hk => hk.imp id (fun e => (row_ge h3 e).1), ?_⟩
    rintro k (rfl | hk) o ho
    · rw [h1] at ho; cases ho; rfl
    · obtain ⟨_, cur, hh⟩ := row_ge h3 hk
      rw [hh] at ho; cases ho; rfl
  have HR := Lib.hid h3
  have HV := Lib.hid hvb
  clear h1 h2 h3 hvb
  go_enter Tryz.func173, Tryz.ntmps173
  go_wp2_with (go_at_call 197; refine hCC.out.mono ?_)
  rintro e w1 ⟨rfl, k1, k2, k3⟩
  have c0 : w1.cell? ⟨b, 0, none⟩ = some (.pointer (some ⟨b, 0, none⟩)) := by rw [Lib.cell_of_heap k1]; rfl
  have c1 : w1.cell? ⟨b, 1, none⟩ = some v := by rw [Lib.cell_of_heap k1]; rfl
  have hown : w1.ownsRow n3 5 1 v l.length (Lib.byteCells l) := row_same HR.out (fun g hg => k2.2 g (by
    obtain ⟨_, cur, hh⟩ := row_ge HR.out hg
    exact (Array.getElem?_eq_some_iff.1 hh).1) (fun e => HV.out (e ▸ hg)))
  have HK := Lib.hid (And.intro k1 (And.intro k2 k3))
  have hz := k2.1
  clear k1 k2 k3 HR
  go_wp2_with (at_builtin; refine Lib.wpList_append_own_string _ rfl _ _ 186 9 rfl n3 5 i0 Tryz.underlying186 Tryz.underlying9 hi hz0 hz1 hz2 _ _ _ rfl hown ⟨m.toArray⟩ rfl ?c3 ?c4 ?c5 ?_)
  case c3 => show l.length + m.toArray.size ≤ maxLen; unfold maxLen; simp; omega
  case c4 => show l.length + m.toArray.size ≤ _; simp; omega
  case c5 => omega
  intro v' w2 hown' hgrow _
  have hlt : b < w1.heap.size := by omega
  have hb2 : w2.heap[b]? = some (.cells #[.pointer (some ⟨b, 0, none⟩), v] 201 (0, 0)) := by
    rw [hgrow.block b hlt (fun e => HV.out e.symm)]
    exact HK.out.1
  have d0 : w2.cell? ⟨b, 0, none⟩ = some (.pointer (some ⟨b, 0, none⟩)) := by rw [Lib.cell_of_heap hb2]; rfl
  have d1 : w2.cell? ⟨b, 1, none⟩ = some v := by rw [Lib.cell_of_heap hb2]; rfl
  have f1 : w2.frozen? ⟨b, 1, none⟩ = false := Lib.frozen_of_heap hb2 1
  obtain ⟨ao, n', cap, rfl⟩ : ∃ ao n' cap, v' = .slice ao n' cap := by
    rcases hown'.2 with ⟨hv, _⟩ | ⟨g, cap, cur, hv, _⟩
    · exact ⟨_, _, _, hv⟩
    · exact ⟨_, _, _, hv⟩
  have hW : BldW b n3 (l ++ m) (w2.setCell ⟨b, 1, none⟩ (.slice ao n' cap)) := by
    refine ⟨.pointer (some ⟨b, 0, none⟩), .slice ao n' cap, ?_, .inr rfl, ?_⟩
    · show (w2.setCell ⟨b, 1, none⟩ (.slice ao n' cap)).heap[b]? = some (.cells #[.pointer (some ⟨b, 0, none⟩), .slice ao n' cap] _ (0, 0))
      simp only [World.setCell, Array.getElem?_modify, hb2]
      simp
    · have h9 : (w2.setCell ⟨b, 1, none⟩ (.slice ao n' cap)).ownsRow n3 5 1 (.slice ao n' cap) (l.length + (⟨m.toArray⟩ : ByteArray).size) (Lib.byteCells l ++ Lib.strCells ⟨m.toArray⟩) :=
        row_same hown' (fun g hg => Below.heap_setCell _ ⟨b, 1, none⟩ _ g (fun e => by have := (row_ge hown' hg).1; dsimp only at e; omega))
      rw [strCells_txt, ← byteCells_app, show (⟨m.toArray⟩ : ByteArray).size = m.length from by show m.toArray.size = _; simp, ← List.length_append] at h9
      exact h9
  have hC : Chg (fun k => k = b ∨ v.ownBlock = some k) w (w2.setCell ⟨b, 1, none⟩ (.slice ao n' cap)) := by
    refine ((HK.out.2.1.mono (fun k hk => .inl hk)).trans (?_ : Chg _ w1 w2)).trans (Chg.setCell (B := fun k => k = b ∨ v.ownBlock = some k) ⟨b, 1, none⟩ _ (.inl rfl))
    exact ⟨hgrow.size, fun k hk hn => hgrow.block k hk (fun e => hn (.inr e.symm))⟩
  have hB : Below b w (w2.setCell ⟨b, 1, none⟩ (.slice ao n' cap)) :=
    (HK.out.2.2.grown hgrow (by omega) (fun k hk => by have := (row_ge hown hk).1; omega)).setCell (p := ⟨b, 1, none⟩) (Nat.le_refl _) _
  have HF := Lib.hid (And.intro hW (And.intro hB hC))
  clear hW hB hC hown hown' hgrow
  go_wp2
  go_ret2
  exact ⟨by congr 4, HF.out.1, HF.out.2.1, _, HF.out.2.2, HM.out.1, HM.out.2⟩
end Go.Proofs.YtmndcdjcodfchaaGreatDoor
namespace Go.Proofs.YtmndcdjcodfchaaGreatDoor
open Go.RowKit
open Go.Lib (decDigits)
attribute [local go_sem] Oper.semAt_some
theorem app_txt (r d : Txt) : (⟨r.toArray⟩ : ByteArray) ++ ⟨d.toArray⟩ = ⟨(r ++ d).toArray⟩ := by
  apply ByteArray.ext
  rw [ByteArray.data_append]
  simp
def txtK (x n k : Nat) : Txt := if k = 0 then [] else decDigits (x / 1000000000 ^ (n - k))
theorem txtK_first {x n : Nat} (hn : n = (toB 1000000000 x).length) (h0 : 0 < n) : txtK x n 1 = decDigits ((toB 1000000000 x).getD (n - 1) 0) := by
  unfold txtK
  rw [if_neg (by omega), getD_toB (by omega)]
  have h1 : x / 1000000000 ^ (n - 1 + 1) = 0 := by
    have h := (len_toB (B := 1000000000) (by omega) (n - 1 + 1) x)
    rw [← hn] at h
    exact Decidable.not_not.1 (fun e => by have := h.2 e; omega)
  have h2 := text_first (k := 9) (n := x) (i := n - 1) (by rw [show (10 : Nat) ^ 9 = 1000000000 from by decide]; exact h1)
  rw [show (10 : Nat) ^ 9 = 1000000000 from by decide] at h2
  rw [h2]
theorem txtK_next {x n k : Nat} (hn : n = (toB 1000000000 x).length) (h0 : 0 < k) (hk : k < n) :
    txtK x n (k + 1) = txtK x n k ++ (List.replicate (9 - (decDigits ((toB 1000000000 x).getD (n - 1 - k) 0)).length) 48 ++ decDigits ((toB 1000000000 x).getD (n - 1 - k) 0)) := by
  unfold txtK
  rw [if_neg (by omega), if_neg (by omega), getD_toB (by omega)]
  have h1 : x / 1000000000 ^ (n - 1 - k + 1) ≠ 0 := (len_toB (B := 1000000000) (by omega) _ x).1 (by omega)
  have h2 := text_next (k := 9) (n := x) (i := n - 1 - k) (by omega) (by rw [show (10 : Nat) ^ 9 = 1000000000 from by decide]; exact h1)
  rw [show (10 : Nat) ^ 9 = 1000000000 from by decide] at h2
  rw [show n - (k + 1) = n - 1 - k by omega, show n - k = n - 1 - k + 1 by omega]
  exact h2
theorem txtK_len {x n k : Nat} (hn : n = (toB 1000000000 x).length) : ∀ (_ : k ≤ n), (txtK x n k).length ≤ 9 * k := by
  induction k with
  | zero => intro _; simp [txtK]
  | succ k ih =>
    intro hk
    have hd : (decDigits ((toB 1000000000 x).getD (n - 1 - k) 0)).length ≤ 9 := digits_text _ (by
      have := okB_getD (okB_toB (B := 1000000000) (by omega) x) (by omega) (n - 1 - k)
      rw [show (10 : Nat) ^ 9 = 1000000000 from by decide]; exact this)
    by_cases h : k = 0
    · subst h
      rw [txtK_first hn (by omega)]
      exact hd
    · rw [txtK_next hn (by omega) (by omega), List.length_append, List.length_append, List.length_replicate]
      have := ih (by omega)
      omega
set_option maxHeartbeats 4000000 in
set_option maxRecDepth 100000 in
theorem text_range (cas cbd : Code) (hcode : rngOf (Tryz.f154.body.getD .skip) = [(cas, cbd)]) (x : Nat) (la : List Nat) (a : Option Addr) (ca : Nat) (w0 w3 : World) (sb bb bl : Nat)
    (hla : la.length ≤ 200) (hx : la = toB 1000000000 x) (hG : Glob w0)
    (ha : CellsN .u64 w0 a la) (E0 : Ext w0 w3) (s0 : w3.cell? ⟨sb, 0, none⟩ = some (.slice a la.length ca)) (b0 : w3.cell? ⟨bb, 0, none⟩ = some (.slice a la.length ca)) (hB0 : BldW bl w3.heap.size [] w3)
    (hsl : sb ≠ bl) (hbl : bb ≠ bl) (hwl : w0.heap.size ≤ bl) (hl3 : bl < w3.heap.size)
    (u2 u4 u5 u6 u7 u8 u9 u10 u12 u13 u14 u15 u16 u17 u18 u19 u20 u21 u22 u23 u24 u25 u26 u27 u28 u29 : Value) (ds : List Deferred) (Q : Exit → Act → World → Prop)
    (hdone : ∀ (D : Nat) (W : World), w3.heap.size ≤ D → D < W.heap.size → BldW bl w3.heap.size (txtK x la.length la.length) W → Ext w0 W → W.heap[D]? = some (.deferred (some [])) → Q .normal { tmps := #[.slice a la.length ca, .pointer (some ⟨bb, 0, none⟩), u2, .pointer (some ⟨bl, 0, none⟩), u4, u5, u6, u7, u8, u9, u10, .func (.func 146) #[] #[.pointer (some ⟨sb, 0, none⟩)], u12, u13, u14, u15, u16, u17, u18, u19, u20, u21, u22, u23, u24, u25, u26, u27, u28, u29], defers := mark D :: ds } W) :
    (Code.rangeFunc (.tmp 11) #[12, 13] cas cbd).wp Tryz.prog Q { tmps := #[.slice a la.length ca, .pointer (some ⟨bb, 0, none⟩), u2, .pointer (some ⟨bl, 0, none⟩), u4, u5, u6, u7, u8, u9, u10, .func (.func 146) #[] #[.pointer (some ⟨sb, 0, none⟩)], u12, u13, u14, u15, u16, u17, u18, u19, u20, u21, u22, u23, u24, u25, u26, u27, u28, u29], defers := ds } w3 := by
  have HC := Lib.hid hcode
  have hsz : sb < w3.heap.size := cell_lt s0
  have hbz : bb < w3.heap.size := cell_lt b0
  have hwz := E0.size
  refine wp_bwd la a ca w0 sb (by omega) ha E0 s0 rfl
    (fun k W => BldW bl w3.heap.size (txtK x la.length k) W ∧ Ext w0 W ∧ W.cell? ⟨bb, 0, none⟩ = some (.slice a la.length ca) ∧ w3.heap.size ≤ W.heap.size) (fun _ _ => False)
    (fun k A B h q => ⟨h.1.keep q, h.2.1.trans' q.1 hwz, q.cell h.2.2.1, Nat.le_trans h.2.2.2 q.1.size⟩) (fun k A B h q => h.elim)
    (fun k A B h q => ⟨h.1.ext q, h.2.1.trans q, q.cell h.2.2.1, Nat.le_trans h.2.2.2 q.size⟩) ⟨hB0, E0, b0, Nat.le_refl _⟩
    (fun k a' W => a' = { tmps := #[.slice a la.length ca, .pointer (some ⟨bb, 0, none⟩), u2, .pointer (some ⟨bl, 0, none⟩), .int .i64 ((la.length : Int) - 1 - (k : Int)), .int .u64 (la.getD (la.length - 1 - k) 0 : Nat), u6, u7, u8, u9, u10, .func (.func 146) #[] #[.pointer (some ⟨sb, 0, none⟩)], .int .i64 ((la.length : Int) - 1 - (k : Int)), .int .u64 (la.getD (la.length - 1 - k) 0 : Nat), u14, u15, u16, u17, u18, u19, u20, u21, u22, u23, u24, u25, u26, u27, u28, u29], defers := [] }) (fun k a' A B h _ => h)
    ?assign ?body (fun D W h1 h2 h3 h4 => hdone D W h1 h2 h3.1 h3.2.1 h4) (fun _ _ _ _ _ _ h _ => h.elim)
  case assign =>
    simp only [Tryz.f154, rngOf, Option.getD, List.nil_append, List.append_nil] at hcode
    cases hcode
    intro l' k m W K hm hI hK
    clear HC hx
    unfold bwEnc
    gi_wp2
    exact hK _ _ (Ext.refl _) rfl
  case body =>
    simp only [Tryz.f154, rngOf, Option.getD, List.nil_append, List.append_nil] at hcode
    cases hcode
    rintro l' k a' W hk hm ⟨hI, EW, b1, hz⟩ rfl
    obtain ⟨n, hn⟩ : ∃ n, n = la.length - 1 - k := ⟨_, rfl⟩
    have e3 : (la.length : Int) - 1 - (k : Int) = (n : Int) := by omega
    have hxb : la.getD n 0 < 1000000000 := okB_getD (by rw [hx]; exact okB_toB (by omega) x) (by omega) n
    have hdl : (decDigits (la.getD n 0)).length ≤ 9 := digits_text _ (by rw [show (10 : Nat) ^ 9 = 1000000000 from by decide]; exact hxb)
    have htl := txtK_len (x := x) (n := la.length) (k := k) (by rw [hx]) (by omega)
    have hk0 : k = 0 → txtK x la.length (k + 1) = txtK x la.length k ++ decDigits (la.getD n 0) := fun e => by
      subst e
      have := txtK_first (x := x) (n := la.length) (by rw [hx]) (by omega)
      rw [this, hn, hx]; rfl
    have hk1 : 0 < k → txtK x la.length (k + 1) = txtK x la.length k ++ (List.replicate (9 - (decDigits (la.getD n 0)).length) 48 ++ decDigits (la.getD n 0)) := fun e => by
      have := txtK_next (x := x) (n := la.length) (k := k) (by rw [hx]) e hk
      rw [this, hn, hx]
    rw [← hn, e3]
    have HF := Lib.hid (fun W' (hW : Ext w0 W') => FormatUint_any (la.getD n 0) W' (by omega) (hG.ext hW).tab)
    generalize la.getD n 0 = y at *
    generalize decDigits y = d at *
    have HI := Lib.hid hI
    have HK := Lib.hid (And.intro hk0 hk1)
    clear HC hI hk0 hk1 E0 ha s0 b0 hB0 hdone hx hG hxb
    by_cases h0 : k = 0
    · have HK0 := Lib.hid (HK.out.1 h0)
      have hnk : n = la.length - 1 := by omega
      have hi1 : ¬ (n : Int) < (la.length : Int) - 1 := by omega
      have hw1 : IntKind.i64.wrap ((la.length : Int) - 1) = (la.length : Int) - 1 := by rw [IntKind.wrap_i64]; omega
      clear HK h0 hn e3 hnk
      gi_wp2_with fail
      refine ⟨trivial, rfl, ?_⟩
      gi_at_call 171
      refine (callsIn_wide.2 (HF.out _ EW)).mono ?_
      rintro e w5 ⟨rfl, hE5⟩
      have b5 := hE5.cell b1
      have HWS := Lib.hid (WriteString_any bl w3.heap.size (txtK x la.length k) d w5 (HI.out.ext hE5) hl3 (Nat.le_trans hz hE5.size) (by omega))
      have E5 := EW.trans hE5
      have HE5 := Lib.hid hE5
      clear hE5 b1 HF HI
      gi_wp2_with fail
      refine ⟨trivial, rfl, ?_⟩
      gi_at_call 173
      refine (callsIn_wide.2 HWS.out).mono ?_
      rintro e w6 ⟨rfl, hB6, hL6, M, hM1, hM2, hM3⟩
      rw [← HK0.out] at hB6
      have hCC : Chg M W w6 := (Chg.ext HE5.out).trans hM1
      have hb6 : w6.cell? ⟨bb, 0, none⟩ = some (.slice a la.length ca) := hM1.cellAt b5 (fun h => by rcases hM2 _ h with h | h <;> dsimp only at h <;> omega)
      have HF := Lib.hid (show BldW bl w3.heap.size (txtK x la.length (k + 1)) w6 ∧ Ext w0 w6 ∧ w6.cell? ⟨bb, 0, none⟩ = some (.slice a la.length ca) ∧ w3.heap.size ≤ w6.heap.size from ⟨hB6, E5.trans' hL6 hwl, hb6, by have := hCC.1; omega⟩)
      have HM := Lib.hid (show (∀ b, M b → b ≠ sb ∧ w0.heap.size ≤ b) ∧ ∀ b, M b → ∀ o, W.heap[b]? = some o → o.isCells = true from ⟨fun b hb => by rcases hM2 b hb with h | h <;> exact ⟨by omega, by omega⟩, fun b hb o ho => hM3 b hb o (by rw [Below.block HE5.out b (Array.getElem?_eq_some_iff.1 ho).1]; exact ho)⟩)
      have HCC := Lib.hid hCC
      clear hB6 hL6 hb6 b5 hCC hM1 hM2 hM3 HWS
      gi_wp2
      exact ⟨⟨M, HCC.out, HM.out.1, HM.out.2⟩, HF.out⟩
    · have HK0 := Lib.hid (HK.out.2 (by omega))
      have hi1 : (n : Int) < (la.length : Int) - 1 := by omega
      have hw1 : IntKind.i64.wrap ((la.length : Int) - 1) = (la.length : Int) - 1 := by rw [IntKind.wrap_i64]; omega
      obtain ⟨q, hq⟩ : ∃ q, q = 9 - d.length := ⟨_, rfl⟩
      have hw2 : IntKind.i64.wrap (9 - (d.length : Int)) = (q : Int) := by rw [IntKind.wrap_i64]; omega
      rw [← hq] at HK0
      have HRP := Lib.hid (fun W' => Repeat_any q W' (by omega))
      have hql : q ≤ 9 := by omega
      clear HK h0 hn e3 hq
      gi_wp2_with fail
      refine ⟨trivial, rfl, ?_⟩
      gi_at_call 171
      refine (callsIn_wide.2 (HF.out _ EW)).mono ?_
      rintro e w4 ⟨rfl, hE4⟩
      have b4 := hE4.cell b1
      have E4 := EW.trans hE4
      have HI4 := Lib.hid (HI.out.ext hE4)
      have HE4 := Lib.hid hE4
      clear hE4 b1 HF HI
      gi_wp2_with fail
      refine ⟨trivial, rfl, ?_⟩
      gi_at_call 172
      refine (callsIn_wide.2 (HRP.out _)).mono ?_
      rintro e w5 ⟨rfl, hE5⟩
      have b5 := hE5.cell b4
      have E5 := E4.trans hE5
      have HE5 := Lib.hid (HE4.out.trans hE5)
      have hd2 : ((List.replicate q (48 : UInt8)) ++ d).length ≤ 18 := by rw [List.length_append, List.length_replicate]; omega
      have HWS := Lib.hid (WriteString_any bl w3.heap.size (txtK x la.length k) (List.replicate q 48 ++ d) w5 (HI4.out.ext hE5) hl3 (Nat.le_trans hz HE5.out.size) (by omega))
      clear hE5 b4 HI4
      have hsum : ¬ 9223372036854775807 < (List.replicate q (48 : UInt8)).length + d.length := by rw [List.length_replicate]; omega
      generalize List.replicate q (48 : UInt8) = r at *
      have happ := app_txt r d
      gi_wp2_with fail
      refine ⟨trivial, rfl, ?_⟩
      gi_at_call 173
      refine (callsIn_wide.2 HWS.out).mono ?_
      rintro e w6 ⟨rfl, hB6, hL6, M, hM1, hM2, hM3⟩
      rw [← HK0.out] at hB6
      have hCC : Chg M W w6 := (Chg.ext HE5.out).trans hM1
      have hb6 : w6.cell? ⟨bb, 0, none⟩ = some (.slice a la.length ca) := hM1.cellAt b5 (fun h => by rcases hM2 _ h with h | h <;> dsimp only at h <;> omega)
      have HF := Lib.hid (show BldW bl w3.heap.size (txtK x la.length (k + 1)) w6 ∧ Ext w0 w6 ∧ w6.cell? ⟨bb, 0, none⟩ = some (.slice a la.length ca) ∧ w3.heap.size ≤ w6.heap.size from ⟨hB6, E5.trans' hL6 hwl, hb6, by have := hCC.1; omega⟩)
      have HM := Lib.hid (show (∀ b, M b → b ≠ sb ∧ w0.heap.size ≤ b) ∧ ∀ b, M b → ∀ o, W.heap[b]? = some o → o.isCells = true from ⟨fun b hb => by rcases hM2 b hb with h | h <;> exact ⟨by omega, by omega⟩, fun b hb o ho => hM3 b hb o (by rw [Below.block HE5.out b (Array.getElem?_eq_some_iff.1 ho).1]; exact ho)⟩)
      have HCC := Lib.hid hCC
      clear hB6 hL6 hb6 b5 hCC hM1 hM2 hM3 HWS
      gi_wp2
      exact ⟨⟨M, HCC.out, HM.out.1, HM.out.2⟩, HF.out⟩
set_option maxHeartbeats 4000000 in
set_option maxRecDepth 100000 in
theorem text_any (x : Nat) (la : List Nat) (a : Option Addr) (ca : Nat) (w : World) (hx : la = toB 1000000000 x) (hla : la.length ≤ 200) (hG : Glob w) (ha : CellsN .u64 w a la) :
    Calls Tryz.prog 154 #[.slice a la.length ca] w fun e w' => e = .returned (txt (decDigits x)) ∧ Ext w w' := by
  have HX := Lib.hid hx
  have HA := Lib.hid ha
  have HG := Lib.hid hG
  clear hx ha hG
  refine (callsIn_wide (n := 0)).1 ?_
  refine callsIn_of_wp_marks Tryz.func154 rfl trivial ?_
  simp only [Tryz.ntmps154, List.size_toArray, List.length_cons, List.length_nil, Nat.reduceAdd, Nat.reduceSub, Array.replicate_succ, Array.replicate_zero, List.push_toArray, List.append_toArray, List.nil_append, List.cons_append]
  by_cases h0 : la.length = 0
  · have hx0 : decDigits x = [48] := by
      have hl0 : la = [] := List.length_eq_zero_iff.1 h0
      have : x = 0 := (toB_nil (by omega)).1 (HX.out.symm.trans hl0)
      rw [this, digits_small (by omega)]; rfl
    have hn0 : ((la.length : Int) == 0) = true := by simp [h0]
    have E : Ext w (w.alloc (.cells #[.slice a la.length ca] 109)) := extA
    have HXX := Lib.hid hx0
    clear h0 hx0
    gi_wp2
    refine leaves_cells (v := txt [48]) (n := w.heap.size) [] _ (Marks.nil _ _) (fun W6 hk => ⟨(results_tmp (t := 2) rfl _ _ _).trans rfl, by rw [HXX.out], E.trans' hk.1 (Nat.le_refl _)⟩)
  · have hn0 : ((la.length : Int) == 0) = false := by rw [beq_eq_false_iff_ne]; omega
    have EV : Ext w (((w.alloc (.cells #[.slice a la.length ca] 109)).alloc (.cells #[.pointer none, .slice none 0 0] 201)).alloc (.cells #[.slice a la.length ca] 109)) := extA
    have b3 : ((((w.alloc (.cells #[.slice a la.length ca] 109)).alloc (.cells #[.pointer none, .slice none 0 0] 201)).alloc (.cells #[.slice a la.length ca] 109))).cell? ⟨w.heap.size, 0, none⟩ = some (.slice a la.length ca) := by go_simp
    have s3 : ((((w.alloc (.cells #[.slice a la.length ca] 109)).alloc (.cells #[.pointer none, .slice none 0 0] 201)).alloc (.cells #[.slice a la.length ca] 109))).cell? ⟨w.heap.size + 1 + 1, 0, none⟩ = some (.slice a la.length ca) := by go_simp
    have hs3 : ((w.alloc (.cells #[.slice a la.length ca] 109)).alloc (.cells #[.pointer none, .slice none 0 0] 201)).heap.size = w.heap.size + 1 + 1 := by simp
    have hb3 : (((w.alloc (.cells #[.slice a la.length ca] 109)).alloc (.cells #[.pointer none, .slice none 0 0] 201)).alloc (.cells #[.slice a la.length ca] 109)).heap[w.heap.size + 1]? = some (.cells #[.pointer none, .slice none 0 0] 201 (0, 0)) := by
      have h1 : ((w.alloc (.cells #[.slice a la.length ca] 109)).alloc (.cells #[.pointer none, .slice none 0 0] 201)).heap[w.heap.size + 1]? = some (.cells #[.pointer none, .slice none 0 0] 201 (0, 0)) := by
        have := World.alloc_heap_new (w.alloc (.cells #[.slice a la.length ca] 109)) (.cells #[.pointer none, .slice none 0 0] 201)
        rwa [World.size_alloc] at this
      exact (Below.heap_alloc _ _ _ (by simp)).trans h1
    gi_wp2_with fail
    refine ⟨trivial, rfl, ?_⟩
    gi_at_call 123
    refine (callsIn_wide.2 (Backward_any a la.length ca _)).mono ?_
    rintro e w3 ⟨rfl, rfl⟩
    rw [hs3]
    clear hs3
    generalize (((w.alloc (.cells #[.slice a la.length ca] 109)).alloc (.cells #[.pointer none, .slice none 0 0] 201)).alloc (.cells #[.slice a la.length ca] 109)) = w3 at EV b3 s3 hb3 ⊢
    have hz3 := EV.size
    have hsz : w.heap.size + 1 + 1 < w3.heap.size := cell_lt s3
    gi_wp2_with fail
    refine wpIn_wide.2 (text_range _ _ rfl x la a ca w w3 (w.heap.size + 1 + 1) w.heap.size (w.heap.size + 1) hla HX.out HG.out HA.out EV s3 b3 (BldW.fresh hb3) (by omega) (by omega) (by omega) (by omega) _ _ _ _ _ _ _ _ _ _ _ _ _ _ _ _ _ _ _ _ _ _ _ _ _ _ [] _ ?_)
    intro D W k1 k2 hW E4 hD
    have ht : txtK x la.length la.length = decDigits x := by
      unfold txtK
      rw [if_neg h0, Nat.sub_self, Nat.pow_zero, Nat.div_one]
    rw [ht] at hW
    have hz4 := E4.size
    have HS := Lib.hid (Tryz.Builder_String_any_k (w.heap.size + 1) (w.heap.size + 1) (decDigits x) W (Lib.IsBuilderF.of (hW.is (by omega))) (by omega))
    have HD := Lib.hid hD
    clear b3 s3 hb3 hW hD ht
    gi_wp2_with fail
    refine ⟨trivial, rfl, ?_⟩
    gi_at_call 174
    refine (callsIn_wide.2 HS.out).mono ?_
    rintro e w5 ⟨rfl, _, hE5, hO5⟩
    have E5 := E4.trans' hE5 (Nat.le_succ _)
    have HD5 : Hid (w5.heap[D]? = some (.deferred (some []))) := by
      show _ = _
      exact hO5 D _ HD.out (fun e => by cases e; omega) (fun _ _ h => by cases h)
    clear hE5 hO5 HD HS E4
    gi_wp2
    refine leaves_cells (v := txt (decDigits x)) (n := w3.heap.size) [mark D] _ ⟨[D], rfl, by simp, fun E hE => by simp at hE; subst hE; exact ⟨k1, HD5.out⟩⟩ (fun W6 hk => ⟨(results_tmp (t := 2) rfl _ _ _).trans rfl, rfl, E5.trans' hk.1 hz3⟩)
end Go.Proofs.YtmndcdjcodfchaaGreatDoor
namespace Go.Proofs.YtmndcdjcodfchaaGreatDoor
open Go.RowKit
open Go.Lib (decDigits)
theorem dig_mod {z k : Nat} (hk : k < 6) : z % 1000000 / 10 ^ k % 10 = z / 10 ^ k % 10 := by
  rcases k with _ | _ | _ | _ | _ | _ | k <;> (try simp only [Nat.zero_add, Nat.reduceAdd, Nat.reducePow]) <;> omega
structure DigK (x i k n : Nat) (s : List UInt8) (last : Prop) : Prop where
  s : s = padD (6 * i + k) x
  n : n = x / 1000000 ^ i % 1000000 / 10 ^ k
  hi : last → x / 1000000 ^ (i + 1) = 0 ∧ x / 1000000 ^ i ≠ 0
  pos : last → 0 < k → x / 1000000 ^ i % 1000000 / 10 ^ (k - 1) ≠ 0
theorem DigK.next {x i k n : Nat} {s : List UInt8} {last : Prop} (h : DigK x i k n s last) (hk : k < 6) (hn : last → n ≠ 0) : DigK x i (k + 1) (n / 10) (UInt8.ofNat (48 + n % 10) :: s) last := by
  refine ⟨?_, ?_, h.hi, fun hl _ => ?_⟩
  · rw [h.s, show 6 * i + (k + 1) = (6 * i + k) + 1 by omega, padD_cons]
    have e : x / 10 ^ (6 * i + k) % 10 = n % 10 := by
      rw [h.n, dig_mod hk, Nat.div_div_eq_div_mul, Nat.pow_add, Nat.pow_mul]
    rw [e]
  · rw [h.n, Nat.div_div_eq_div_mul, Nat.pow_succ]
  · rw [Nat.add_sub_cancel, ← h.n]; exact hn hl
theorem DigK.outer {x i n : Nat} {s : List UInt8} {last : Prop} (h : DigK x i 6 n s last) : s = padD (6 * (i + 1)) x := by
  rw [h.s, show 6 * i + 6 = 6 * (i + 1) by omega]
theorem DigK.done {x i k : Nat} {s : List UInt8} {last : Prop} (h : DigK x i k 0 s last) (hl : last) (hk : k ≤ 6) : s = decDigits x := by
  obtain ⟨h1, h2⟩ := h.hi hl
  have hx : x / 1000000 ^ i % 1000000 = x / 1000000 ^ i := by
    rw [Nat.pow_succ, ← Nat.div_div_eq_div_mul] at h1
    exact Nat.mod_eq_of_lt ((Nat.div_eq_zero_iff_lt (by omega)).1 h1)
  have hn := h.n
  have hp := h.pos hl
  rw [hx] at hn hp
  have hk0 : 0 < k := by
    rcases Nat.eq_zero_or_pos k with e | e
    · subst e; rw [Nat.pow_zero, Nat.div_one] at hn; exact absurd hn.symm h2
    · exact e
  have hp := hp hk0
  have e1 : x / 10 ^ (6 * i + k) = 0 := by
    rw [Nat.pow_add, Nat.pow_mul, ← Nat.div_div_eq_div_mul]; exact hn.symm
  have e2 : x / 10 ^ (6 * i + k - 1) ≠ 0 := by
    rw [show 6 * i + k - 1 = 6 * i + (k - 1) by omega, Nat.pow_add, Nat.pow_mul, ← Nat.div_div_eq_div_mul]; exact hp
  rw [h.s]
  refine padD_all (by omega) ((Nat.div_eq_zero_iff_lt (Nat.pow_pos (by omega))).1 e1) ?_
  rcases Nat.lt_or_ge x (10 ^ (6 * i + k - 1)) with h5 | h5
  · exact absurd (Nat.div_eq_of_lt h5) e2
  · exact h5
end Go.Proofs.YtmndcdjcodfchaaGreatDoor
namespace Go.Proofs.YtmndcdjcodfchaaGreatDoor
open Go.RowKit
open Go.Lib (decDigits)
end Go.Proofs.YtmndcdjcodfchaaGreatDoor
namespace Go.Proofs.YtmndcdjcodfchaaGreatDoor
open Go.RowKit
open Go.Lib (decDigits)
end Go.Proofs.YtmndcdjcodfchaaGreatDoor
namespace Go.Proofs.YtmndcdjcodfchaaGreatDoor
open Go.RowKit
open Go.Lib (decDigits)
end Go.Proofs.YtmndcdjcodfchaaGreatDoor
namespace Go.Proofs.YtmndcdjcodfchaaGreatDoor
open Go.RowKit
theorem index_slash (s : Txt) : Lib.index s [47] = if 47 ∈ s then ((topS s).length : Int) else -1 := by
  induction s with
  | nil => rfl
  | cons c s ih =>
    unfold Lib.index
    by_cases h : c = 47
    · subst h
      rw [if_pos (by simp [List.isPrefixOf]), if_pos (List.mem_cons_self ..)]
      simp [topS]
    · have h1 : ([47].isPrefixOf (c :: s) : Bool) = false := by
        simp only [List.isPrefixOf, Bool.and_eq_false_imp]
        intro e
        exact absurd (by simpa using e) (fun e => h (Eq.symm e))
      have h2 : topS (c :: s) = c :: topS s := by
        unfold topS
        rw [List.takeWhile_cons, if_pos (by simpa using h)]
      have h3 : (47 ∈ c :: s) ↔ 47 ∈ s := by
        rw [List.mem_cons]
        exact ⟨fun e => e.resolve_left (fun e => h e.symm), .inr⟩
      rw [h1, if_neg (by simp), ih, h2]
      by_cases hm : 47 ∈ s
      · rw [if_pos hm, if_pos (h3.2 hm), if_neg (by rw [beq_iff_eq]; omega)]
        simp
      · rw [if_neg hm, if_neg (fun e => hm (h3.1 e))]
        simp
theorem cut_slash (s : Txt) : Lib.cut s [47] = (topS s, if 47 ∈ s then lowS s else [], decide (47 ∈ s)) := by
  unfold Lib.cut
  rw [index_slash]
  by_cases h : 47 ∈ s
  · rw [if_pos h, if_pos (by omega), if_pos h, decide_eq_true h, Int.toNat_natCast]
    have e := split_some h
    have key : ∀ t u : Txt, (t ++ 47 :: u).take t.length = t ∧ (t ++ 47 :: u).drop (t.length + 1) = u := fun t u =>
      ⟨List.take_left .., by rw [← List.drop_drop, List.drop_left]; rfl⟩
    have k := key (topS s) (lowS s)
    rw [← e] at k
    rw [List.length_singleton, k.1, k.2]
  · rw [if_neg h, if_neg (by omega), if_neg h, decide_eq_false h, (split_none h).1]
theorem Cut_any (s : Txt) (w : World) (hG : Glob w) (hl : s.length ≤ 1000) :
    Calls Tryz.prog 96 #[txt s, txt [47]] w fun e w' => e = .returned (.tuple #[txt (topS s), txt (if 47 ∈ s then lowS s else []), .bool (decide (47 ∈ s))]) ∧ Ext w w' := by
  obtain ⟨m, hm⟩ := hG.len
  refine (Tryz.strings_Cut ⟨s.toArray⟩ ⟨#[47]⟩ m w (by show s.toArray.size < _; simp; omega) hm).mono fun e w' h => ?_
  have := cut_slash s
  obtain ⟨h1, n, rfl⟩ := h
  refine ⟨?_, Ext.drewN (Ext.refl w) n⟩
  have e1 : ((⟨s.toArray⟩ : ByteArray).data.toList) = s := rfl
  have e2 : ((⟨#[47]⟩ : ByteArray).data.toList) = [47] := rfl
  rw [e1, e2, this] at h1
  exact h1
def NewB (x : Nat) (w : World) (e : Ending) (w' : World) : Prop := ∃ a c, e = .returned (.slice a (toB 1000000000 x).length c) ∧ CellsN .u64 w' a (toB 1000000000 x) ∧ (∀ p, a = some p → w.heap.size ≤ p.block) ∧ Ext w w'
theorem OwnNPost.newB {x : Nat} {w : World} {e : Ending} {w' : World} (h : OwnNPost .u64 139 (toB 1000000000 x) w e w') : NewB x w e w' := by
  obtain ⟨v, h1, h2, h3, h4⟩ := h
  obtain ⟨a, c, rfl, h5, _⟩ := h2.reads
  exact ⟨a, c, h1, h5, (fun p hp => h3 p.block (by rw [hp]; rfl)), h4⟩
theorem CellsN.set {k : IntKind} {A : World} {a : Option Addr} {l : List Nat} (h : CellsN k A a l) {c o : Nat} {v : Value} (hn : ∀ p, a = some p → p.block ≠ c) : CellsN k (A.setCell ⟨c, o, none⟩ v) a l := fun i hi => by
  obtain ⟨b, off, h1, h2⟩ := h i hi
  refine ⟨b, off, h1, ?_⟩
  have := hn _ h1
  rw [World.cell?_setCell_other _ _ _ _ (fun h => by simp only [Addr.mk.injEq] at h; exact this h.1.symm)]
  exact h2
theorem bare_len (s : Txt) : (bareS s).length ≤ s.length := by
  unfold bareS
  split
  · rw [List.length_tail]; omega
  · exact Nat.le_refl _
set_option maxHeartbeats 2000000 in
theorem signed_any (s : Txt) (w : World) (hs : DigitL (bareS s)) (hl : s.length ≤ 500) :
    Calls Tryz.prog 99 #[txt s] w fun e w' => ∃ a c, e = .returned (.tuple #[.bool (negS s), .slice a (toB 1000000000 (decV (bareS s))).length c]) ∧ CellsN .u64 w' a (toB 1000000000 (decV (bareS s))) ∧ (∀ p, a = some p → w.heap.size ≤ p.block) ∧ Ext w w' := by
  have HT := Lib.hid (fun W => CutPrefix_any s W)
  have HR := Lib.hid (fun W => read_any (bareS s) W hs (Nat.le_trans (bare_len s) hl))
  generalize decV (bareS s) = x at *
  generalize bareS s = d at *
  generalize negS s = ng at *
  clear hs
  go_enter Tryz.func99, Tryz.ntmps99
  go_wp2_with (first
    | (go_at_call 118; refine (HT.out _).mono ?_; rintro e w' ⟨rfl, rfl⟩)
    | (go_at_call 121; refine (HR.out _).mono ?_; rintro e w' h; obtain ⟨a, c, rfl, hC, hN, hE⟩ := h.newB))
  go_ret2
  exact ⟨a, c, rfl, hC, hN, hE⟩
end Go.Proofs.YtmndcdjcodfchaaGreatDoor
