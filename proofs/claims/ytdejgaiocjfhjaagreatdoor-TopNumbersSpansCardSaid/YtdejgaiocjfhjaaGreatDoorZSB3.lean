/- Steps of the proof: FOverR, FOver, FDiv, FQuoP, FQuoR, FShaR, Shelf, FFrac, FNum, FFit, FOrd, FSpec, FGlob, FInt. No conditions. -/
import Derived.Shelf.Strings.Builder1
import Derived.Shelf.Strings.Builder2
import Derived.Shelf.Strings.Trim
import Derived.Shelf.Small.Utf8
import Derived.Shelf.Small.Strs
import Derived.Shelf.Small.Wraps
import Derived.Shelf.Strings.BuilderF
import Derived.Shelf.Strings.BuilderK
import Derived.Shelf.Strings.Builder2Cap
import Derived.Shelf.Strconv.Itoa0
import Derived.Shelf.Strconv.Itoa1
import Derived.Shelf.LaysM
import Derived.Shelf.Strconv.Itoa2
import Derived.Shelf.Strconv.Itoa3
import Derived.Shelf.Strconv.Clone
import Derived.Shelf.Strconv.SyntaxError
import Derived.Shelf.LaysC
import Derived.Shelf.Strconv.ToError
import Derived.Shelf.Strconv.Lower
import Derived.Shelf.Strconv.ParseUint10
import Derived.Shelf.Strconv.ParseUint10Empty
import Derived.Shelf.Strconv.ParseUint10Any
import Derived.Shelf.Strconv.RangeError
import Derived.Shelf.Strconv.ToErrorRange
import Derived.Shelf.Strconv.ParseUintEmpty
import Derived.Shelf.Strconv.ParseUint10b64
import Derived.Shelf.Strconv.ParseUint10b32
import Derived.Shelf.Strconv.ParseUint10b16
import Derived.Shelf.Strconv.ParseUint10b8
import Derived.Shelf.Strconv.ParseUint10At
import Derived.Ground.MpProg
import Derived.Shelf.Pu.ParseUintPublic10
import Derived.Shelf.Strings.Search1
import Derived.Shelf.Strings.Search2
import Derived.Shelf.Strings.Cut
import Derived.Shelf.Strings.Shaped
import Derived.Shelf.Strings.Prefix
import Derived.Shelf.Unicode.Decode
import Derived.Shelf.Strings.Runes
import Derived.Shelf.Strings.AsciiSet
import Derived.Shelf.Bits.Mul64
import Derived.Shelf.Strings.Repeat
import Derived.Shelf.Unicode.DecodeSlow
import Derived.Shelf.Unicode.DecodeAny
import Derived.Shelf.Unicode.DecodeLast
import Derived.Shelf.Strings.BuilderCap
import Derived.Ground.Names2Prog
import Derived.Shelf.Slices.SearchI
import Derived.Ground.SlgnProg
import Derived.Shelf.SlicesE.Reverse
import Derived.Test.YtdejgaiocjfhjaaGreatDoorProg
import Derived.Lib.SlTrimSet
import Derived.Shelf.Strings.SlTrimAscii
import Derived.Test.YtdejgaiocjfhjaaGreatDoorZSB1
import Derived.Test.YtdejgaiocjfhjaaGreatDoorZSB2
namespace Go.Proofs.YtdejgaiocjfhjaaGreatDoor
open Go.RowKit
attribute [local go_sem] Oper.semAt_some
set_option maxHeartbeats 4000000 in
set_option maxRecDepth 100000 in
theorem over_range (cas cbd : Code) (hcode : rngOf (Tryz.f157.body.getD .skip) = [(cas, cbd)]) (y : Nat) (la lb : List Nat) (a b : Option Addr) (ca cb : Nat) (w0 w3 : World) (sb g bb qb rb : Nat)
    (hla : la.length ≤ 100) (hlb : lb.length ≤ 100) (OA : OkB 1000000000 la) (hy : lb = toB 1000000000 y) (hy0 : 0 < y)
    (ha : CellsN .u64 w0 a la) (hb : CellsN .u64 w0 b lb) (E0 : Ext w0 w3) (s0 : w3.cell? ⟨sb, 0, none⟩ = some (.slice a la.length ca)) (h3 : OverW la lb y b cb g bb qb rb w3.heap.size w0 0 w3)
    (hsg : sb ≠ g) (hsr : sb ≠ rb) (hwg : w0.heap.size ≤ g) (hwr : w0.heap.size ≤ rb) (hgr : g ≠ rb) (hbg : bb ≠ g) (hbr : bb ≠ rb) (hqg : qb ≠ g) (hqr : qb ≠ rb) (hg3 : g < w3.heap.size) (hq3 : qb < w3.heap.size)
    (u2 u4 u5 u8 u9 u10 u11 u12 u13 u14 u15 u16 u18 u19 u20 u21 u22 u23 u24 u25 u26 u27 u28 u29 u30 u31 u32 u33 u34 u35 u36 u37 u38 u39 u40 u41 u42 u43 u44 u45 u46 u47 u48 u49 u50 u51 u52 : Value) (ds : List Deferred) (Q : Exit → Act → World → Prop)
    (hdone : ∀ (D : Nat) (W : World), w3.heap.size ≤ D → D < W.heap.size → OverW la lb y b cb g bb qb rb w3.heap.size w0 la.length W → W.heap[D]? = some (.deferred (some [])) → Q .normal { tmps := #[.slice a la.length ca, .slice b lb.length cb, u2, .pointer (some ⟨bb, 0, none⟩), u4, u5, .pointer (some ⟨qb, 0, none⟩), .pointer (some ⟨rb, 0, none⟩), u8, u9, u10, u11, u12, u13, u14, u15, u16, .func (.func 190) #[] #[.pointer (some ⟨sb, 0, none⟩)], u18, u19, u20, u21, u22, u23, u24, u25, u26, u27, u28, u29, u30, u31, u32, u33, u34, u35, u36, u37, u38, u39, u40, u41, u42, u43, u44, u45, u46, u47, u48, u49, u50, u51, u52], defers := mark D :: ds } W) :
    (Code.rangeFunc (.tmp 17) #[18, 19] cas cbd).wp Tryz.prog Q { tmps := #[.slice a la.length ca, .slice b lb.length cb, u2, .pointer (some ⟨bb, 0, none⟩), u4, u5, .pointer (some ⟨qb, 0, none⟩), .pointer (some ⟨rb, 0, none⟩), u8, u9, u10, u11, u12, u13, u14, u15, u16, .func (.func 190) #[] #[.pointer (some ⟨sb, 0, none⟩)], u18, u19, u20, u21, u22, u23, u24, u25, u26, u27, u28, u29, u30, u31, u32, u33, u34, u35, u36, u37, u38, u39, u40, u41, u42, u43, u44, u45, u46, u47, u48, u49, u50, u51, u52], defers := ds } w3 := by
  have HC := Lib.hid hcode
  have hsz : sb < w3.heap.size := cell_lt s0
  have hwz := E0.size
  have hbz : bb < w3.heap.size := cell_lt h3.pb
  have hrz : rb < w3.heap.size := by obtain ⟨_, _, _, _, _, h, _⟩ := h3.st; exact cell_lt h
  refine wp_bwd la a ca w0 sb (by omega) ha E0 s0 rfl
    (fun k W => OverW la lb y b cb g bb qb rb w3.heap.size w0 k W) (fun _ _ => False)
    (fun k A B h q => h.keep q hwz) (fun k A B h q => h.elim)
    (fun k A B h q => h.exts q) h3
    (fun k a' W => a' = { tmps := #[.slice a la.length ca, .slice b lb.length cb, u2, .pointer (some ⟨bb, 0, none⟩), u4, u5, .pointer (some ⟨qb, 0, none⟩), .pointer (some ⟨rb, 0, none⟩), .int .i64 ((la.length : Int) - 1 - (k : Int)), .int .u64 (la.getD (la.length - 1 - k) 0 : Nat), u10, u11, u12, u13, u14, u15, u16, .func (.func 190) #[] #[.pointer (some ⟨sb, 0, none⟩)], .int .i64 ((la.length : Int) - 1 - (k : Int)), .int .u64 (la.getD (la.length - 1 - k) 0 : Nat), u20, u21, u22, u23, u24, u25, u26, u27, u28, u29, u30, u31, u32, u33, u34, u35, u36, u37, u38, u39, u40, u41, u42, u43, u44, u45, u46, u47, u48, u49, u50, u51, u52], defers := [] }) (fun k a' A B h _ => h)
    ?assign ?body (fun D W h1 h2 h3 h4 => hdone D W h1 h2 h3 h4) (fun _ _ _ _ _ _ h _ => h.elim)
  case assign =>
    simp only [Tryz.f157, rngOf, Option.getD, List.nil_append, List.append_nil] at hcode
    cases hcode
    intro l' k m W K hm hI hK
    clear HC hy
    unfold bwEnc
    gi_wp2
    exact hK _ _ (Ext.refl _) rfl
  case body =>
    simp only [Tryz.f157, rngOf, Option.getD, List.nil_append, List.append_nil] at hcode
    cases hcode
    rintro l' k a' W hk hm hI rfl
    obtain ⟨n, hn⟩ : ∃ n, n = la.length - 1 - k := ⟨_, rfl⟩
    have hnl : n < la.length := by omega
    have e1 : la.length - k = n + 1 := by omega
    have e2 : la.length - (k + 1) = n := by omega
    have e3 : (la.length : Int) - 1 - (k : Int) = (n : Int) := by omega
    rw [← hn, e3]
    obtain ⟨r, q, v, hI1, O1, r1, V1, hvn⟩ := hI.st
    have p1 := hI.pb
    have q1 := hI.pq
    have fr := hI.fr
    have EW := hI.ext
    rw [e1] at hI1
    have hnx := hI1.next (by omega) OA hnl
    have hql : q.length = la.length := hI1.len
    have hrl := hI1.lt
    have hxb : la.getD n 0 < 1000000000 := okB_getD OA (by omega) n
    generalize la.getD n 0 = x at *
    obtain ⟨s, hs⟩ : ∃ s, s = x + 1000000000 * r := ⟨_, rfl⟩
    rw [← hs] at hnx
    have HN := Lib.hid hnx
    have hyB : y < 1000000000 ^ 100 := by
      have h1 := valB_lt (okB_toB (B := 1000000000) (by omega) y)
      rw [valB_toB (by omega), ← hy] at h1
      exact Nat.lt_of_lt_of_le h1 (Nat.pow_le_pow_right (by omega) hlb)
    have HYB : Hid (∀ m, m ≤ 1000000000 → (toB 1000000000 (y * m)).length ≤ 102) := fun m hm => toB_len (by omega) 102 (by
      have h1 : y * m < 1000000000 ^ 100 * 1000000000 ^ 2 := Nat.mul_lt_mul_of_lt_of_le hyB (by omega) (by omega)
      rw [← Nat.pow_add] at h1
      exact h1)
    have hRl : (toB 1000000000 r).length ≤ 100 := toB_len (by omega) 100 (by omega)
    have hxr : trimL (x :: toB 1000000000 r) = toB 1000000000 s := by
      rw [trimL_toB (B := 1000000000) (by omega) (fun z hz => by
        rcases List.mem_cons.1 hz with rfl | hz
        · exact hxb
        · exact okB_toB (by omega) r z hz), hs]
      congr 1
      show x + 1000000000 * valB 1000000000 (toB 1000000000 r) = _
      rw [valB_toB (by omega)]
    have hsB : s < 1000000000 * y := by
      rw [hs]
      have : 1000000000 * (r + 1) ≤ 1000000000 * y := Nat.mul_le_mul_left _ hrl
      rw [Nat.mul_add] at this
      omega
    have hSl : (toB 1000000000 s).length ≤ 102 := by
      have := HYB.out 1000000000 (Nat.le_refl _)
      exact toB_len (by omega) 102 (Nat.lt_of_lt_of_le hsB (by
        have h1 : 1000000000 * y ≤ 1000000000 ^ 2 * 1000000000 ^ 100 := Nat.mul_le_mul (by omega) (by omega)
        rw [← Nat.pow_add] at h1
        exact h1))
    have HSB := Lib.hid hsB
    have HXR := Lib.hid hxr
    have HY := Lib.hid hy
    have HB := Lib.hid hb
    have HVN := Lib.hid hvn
    have HO1 := Lib.hid O1
    have HV1 := Lib.hid V1
    have HFR := Lib.hid fr
    have hbn : ∀ i, i < w3.heap.size → v.ownBlock ≠ some i := fun i hi h => by have := hvn i h; omega
    have hvL : ∀ i, v.ownBlock = some i → i < W.heap.size := fun i h => V1.lt h
    have HBN := Lib.hid (And.intro hbn hvL)
    have HCELL : Hid ((∀ i, v.ownBlock = some i → ∀ o, W.heap[i]? = some o → o.isCells = true) ∧ (∀ o, W.heap[rb]? = some o → o.isCells = true) ∧ ∀ o, W.heap[g]? = some o → o.isCells = true) :=
      ⟨fun i h o ho => V1.isCells h ho, fun o ho => isCells_of_cell r1 ho, fun o ho => O1.isCells rfl ho⟩
    clear HC hI hI1 hnx hxr hsB hyB hy ha hb E0 h3 hdone hrl hxb hs hvn V1 O1 fr hbn hvL hn hk e1 e3 OA s0
    have EA : Ext W (W.alloc (.cells #[.int .u64 (x : Int)] 161)) := extA
    gi_wp2_with fail
    refine ⟨trivial, rfl, ?_⟩
    gi_at_call 174
    refine (callsIn_wide.2 (Insert_any x (toB 1000000000 r) v W.heap.size _ (HV1.out.ext EA) (by omega) (by show (W.heap.push _)[W.heap.size]? = _; exact Array.getElem?_push_size) (fun h => Nat.lt_irrefl _ (HBN.out.2 _ h)))).mono ?_
    rintro e w5 ⟨v5, rfl, V5, I5⟩
    have C1 : Chg (fun i => v.ownBlock = some i) W w5 := (Chg.ext EA).trans I5.ch
    have p5 := C1.cellAt p1 (HBN.out.1 _ hbz)
    have q5 := C1.cellAt q1 (HBN.out.1 _ hq3)
    have r5 := C1.cellAt r1 (HBN.out.1 _ hrz)
    have f5 := (C1.frozenAt r1 (HBN.out.1 _ hrz)).trans HFR.out
    have O5 := HO1.out.chg C1 (fun i hi => by cases hi; exact HBN.out.1 _ hg3)
    have E5 : Ext w0 w5 := (EW.trans EA).trans' (I5.be w0.heap.size (by have := EA.size; omega) (fun i hi => by have := HVN.out i hi; omega)) (Nat.le_refl _)
    have N5 : ∀ i, v5.ownBlock = some i → w3.heap.size ≤ i := fun i hi => by
      rcases I5.ow i hi with h | h
      · exact HVN.out i h
      · have := EA.size; omega
    obtain ⟨a5, c5, rfl, hc5, hr5, _⟩ := V5.reads
    have HT := Lib.hid (trimmed_any (x :: toB 1000000000 r) a5 c5 w5 hr5 hc5)
    have HV5 := Lib.hid V5
    have HC1 := Lib.hid C1
    have HN5 := Lib.hid N5
    have HO5 := Lib.hid O5
    clear hc5 hr5 V5 C1 N5 O5 I5 p1 q1 r1 EA EW HV1 HO1 HFR
    gi_wp2_with fail
    refine ⟨trivial, rfl, ?_⟩
    gi_at_call 173
    refine (callsIn_wide.2 HT.out).mono ?_
    rintro e w6 ⟨rfl, hn6, hE6⟩
    have V6 := (HV5.out.ext hE6).trim hn6
    rw [HXR.out] at V6 ⊢
    have E7 : Ext w0 (w6.setCell ⟨rb, 0, none⟩ (.slice a5 (toB 1000000000 s).length c5)) := (E5.trans hE6).set hwr _
    have p7 : (w6.setCell ⟨rb, 0, none⟩ (.slice a5 (toB 1000000000 s).length c5)).cell? ⟨bb, 0, none⟩ = some (.slice b lb.length cb) := by
      rw [World.cell?_setCell_other _ _ _ _ (fun h => by simp only [Addr.mk.injEq] at h; omega)]; exact hE6.cell p5
    have q7 : (w6.setCell ⟨rb, 0, none⟩ (.slice a5 (toB 1000000000 s).length c5)).cell? ⟨qb, 0, none⟩ = some (.slice (some ⟨g, 0, none⟩) la.length la.length) := by
      rw [World.cell?_setCell_other _ _ _ _ (fun h => by simp only [Addr.mk.injEq] at h; omega)]; exact hE6.cell q5
    have r7 := World.cell?_setCell_same w6 ⟨rb, 0, none⟩ (.slice a5 (toB 1000000000 s).length c5) (hE6.cell r5)
    have f7 : (w6.setCell ⟨rb, 0, none⟩ (.slice a5 (toB 1000000000 s).length c5)).frozen? ⟨rb, 0, none⟩ = false := by rw [World.frozen?_setCell]; exact (Below.frozen (p := ⟨rb, 0, none⟩) hE6 (cell_lt r5)).trans f5
    have N7 : ∀ i, (Value.slice a5 (toB 1000000000 s).length c5).ownBlock = some i → w3.heap.size ≤ i := fun i hi => HN5.out i (by cases a5 <;> exact hi)
    have O7 : OwnsN .u64 161 (w6.setCell ⟨rb, 0, none⟩ (.slice a5 (toB 1000000000 s).length c5)) (.slice (some ⟨g, 0, none⟩) la.length la.length) q := (HO5.out.ext hE6).same (fun i hi => by cases hi; exact Below.heap_setCell _ ⟨rb, 0, none⟩ _ g hgr)
    have V7 : OwnsN .u64 161 (w6.setCell ⟨rb, 0, none⟩ (.slice a5 (toB 1000000000 s).length c5)) (.slice a5 (toB 1000000000 s).length c5) (toB 1000000000 s) := V6.same (fun i hi => Below.heap_setCell _ ⟨rb, 0, none⟩ _ i (fun e => by have := N7 i hi; dsimp only at e; omega))
    have C7 : Chg (fun i => v.ownBlock = some i ∨ i = rb) W (w6.setCell ⟨rb, 0, none⟩ (.slice a5 (toB 1000000000 s).length c5)) := ((HC1.out.mono (fun i hi => .inl hi)).trans (Chg.ext hE6)).trans (Chg.setCell (B := fun i => v.ownBlock = some i ∨ i = rb) ⟨rb, 0, none⟩ _ (.inr rfl))
    have s7 : rb < (w6.setCell ⟨rb, 0, none⟩ (.slice a5 (toB 1000000000 s).length c5)).heap.size := cell_lt r7
    have r6 := hE6.cell r5
    have f6 := (Below.frozen (p := ⟨rb, 0, none⟩) hE6 (cell_lt r5)).trans f5
    have HV7 := Lib.hid V7
    have HN7 := Lib.hid N7
    have HRC : Hid (CellsN .u64 (w6.setCell ⟨rb, 0, none⟩ (.slice a5 (toB 1000000000 s).length c5)) a5 (toB 1000000000 s)) := by
      obtain ⟨a', c', e1, e2, _⟩ := V7.reads
      cases e1
      exact e2
    have HO7 := Lib.hid O7
    have HC7 := Lib.hid C7
    have hz7 : w3.heap.size ≤ (w6.setCell ⟨rb, 0, none⟩ (.slice a5 (toB 1000000000 s).length c5)).heap.size := by have := C7.1; omega
    have HP7 := Lib.hid (And.intro p7 (And.intro q7 (And.intro r7 (And.intro f7 E7))))
    clear V6 V7 O7 C7 N7 HN5 hn6 hE6 E5 p5 q5 r5 f5 HT HV5 HC1 HO5 p7 q7 r7 f7 E7
    gi_wp2
    generalize (w6.setCell ⟨rb, 0, none⟩ (.slice a5 (toB 1000000000 s).length c5)) = W2 at HV7 HO7 HC7 HP7 HRC hz7 s7 ⊢
    clear r6 f6
    gi_loopw [10, 11] (fun lo hi wr => ∃ (L H : Nat), lo = .int .u64 (L : Int) ∧ hi = .int .u64 (H : Int) ∧ H ≤ 1000000000 ∧ L < H ∧ Hid (FindW y s L H) ∧ Hid (Ext W2 wr)) (fun lo hi _ => (intOf hi - intOf lo).toNat)
    case atStart => exact ⟨0, 1000000000, rfl, rfl, Nat.le_refl _, by omega, ⟨by omega, Nat.le_refl _, by rw [Nat.zero_mul]; exact Nat.zero_le _, HSB.out⟩, Ext.refl _⟩
    case round =>
      obtain ⟨L, H, rfl, rfl, hHB, hLH, HF, HE⟩ := hrel
      obtain ⟨D, hD⟩ : ∃ D, D = H - L := ⟨_, rfl⟩
      have hw1 : IntKind.u64.wrap ((H : Int) - (L : Int)) = (D : Int) := by rw [IntKind.wrap_u64]; omega
      obtain ⟨p7, q7, r7, f7, E7⟩ := HP7.out
      have p8 := HE.out.cell p7
      have r8 := HE.out.cell r7
      have HE0 := Lib.hid (E7.trans HE.out)
      by_cases hgt : 1 < D
      · obtain ⟨M, hM⟩ : ∃ M, M = (L + H) / 2 := ⟨_, rfl⟩
        have hw2 : IntKind.u64.wrap ((L : Int) + (H : Int)) = (L : Int) + (H : Int) := by rw [IntKind.wrap_u64]; omega
        have ht1 : ((L : Int) + (H : Int)).tdiv 2 = (M : Int) := by rw [Int.tdiv_eq_ediv_of_nonneg (by omega)]; omega
        have hw3 : IntKind.u64.wrap (M : Int) = (M : Int) := by rw [IntKind.wrap_u64]; omega
        have hgi : (1 : Int) < (D : Int) := by omega
        have hMB : M < 1000000000 := by omega
        have hML : L < M ∧ M < H := by omega
        have hyl := HYB.out M (by omega)
        have HM := Lib.hid hM
        have HD := Lib.hid hD
        have HYL := Lib.hid hyl
        have hdr : Ext W2 wr.drew := HE.out.trans extA
        have hS : wr.drew.cell? ⟨bb, 0, none⟩ = some (.slice b lb.length cb) ∧ wr.drew.cell? ⟨rb, 0, none⟩ = some (.slice a5 (toB 1000000000 s).length c5) := ⟨hdr.cell p7, hdr.cell r7⟩
        by_cases hle : y * M ≤ s
        · obtain ⟨hF1, hF2⟩ := HF.out.low (by omega) hM hle
          have HF1 := Lib.hid hF1
          obtain ⟨z, hz, hz0⟩ : ∃ z, ordN (y * M) s = z ∧ z ≤ 0 := ⟨_, rfl, ordN_le.2 hle⟩
          have HZ := Lib.hid hz
          clear hM hD hle hF1 hz hyl p7 q7 r7 f7 E7
          gi_wp2
          refine round_heldE 99 (fun w' => w'.cell? ⟨bb, 0, none⟩ = some (.slice b lb.length cb) ∧ w'.cell? ⟨rb, 0, none⟩ = some (.slice a5 (toB 1000000000 s).length c5)) (by kernel_rfl) (by kernel_rfl) (fun ⟨_, _, h⟩ => h) ?_
          ((refine eTk 0 ?_); (refine eTk 1 ?_); (refine eTk 3 ?_))
          (refine wpAnyE_one (i := 2) (o := ?_) ?_ (by kernel_rfl) (fun K hK => ?_); rotate_left; (focus ((simp only [List.getElem?_toArray, List.getElem?_cons_succ, List.getElem?_cons_zero]; exact rfl))); go_simp; go_at_call 175; refine (by_any y M lb b cb _ HY.out hMB (by omega) (HB.out.ext (HP7.out.2.2.2.2.trans hdr))).mono ?_; rintro e w8 ⟨pv, rfl, P1, P2, hE8⟩; obtain ⟨pa, pc, rfl, hpc, _, _⟩ := P1.reads; go_wp2_with fail; refine hK.out _ _ ?_ (fun hHeld => ?_); rotate_left; clear hK K; (try simp only [Act.put, List.setIfInBounds_toArray, List.set_cons_zero, List.set_cons_succ]))
          rotate_left
          · exact ⟨hE8.cell hS.1, hE8.cell hS.2⟩
          have hdr2 := hdr.trans hE8
          have hS2 : w8.cell? ⟨bb, 0, none⟩ = some (.slice b lb.length cb) ∧ w8.cell? ⟨rb, 0, none⟩ = some (.slice a5 (toB 1000000000 s).length c5) := ⟨hE8.cell hS.1, hE8.cell hS.2⟩
          have HPC := Lib.hid hpc
          clear hpc P1 P2 hE8 hS
          (refine wpAnyE_one (i := 4) (o := ?_) ?_ (by kernel_rfl) (fun K hK => ?_); rotate_left; (focus ((simp only [List.getElem?_toArray, List.getElem?_cons_succ, List.getElem?_cons_zero]; exact rfl))); go_simp; go_at_call 131; refine (compare_any (y * M) s (toB 1000000000 (y * M)) (toB 1000000000 s) pa a5 pc c5 w8 rfl rfl (by have := HYL.out; omega) (by omega) HPC.out (HRC.out.ext hdr2)).mono ?_; rintro e w9 ⟨rfl, hE9⟩; rw [HZ.out]; go_wp2_with fail; refine hK.out _ _ ?_ (fun hHeld => ?_); rotate_left; clear hK K; (try simp only [Act.put, List.setIfInBounds_toArray, List.set_cons_zero, List.set_cons_succ]))
          rotate_left
          · exact ⟨hE9.cell hS2.1, hE9.cell hS2.2⟩
          have hdr3 := Lib.hid (hdr2.trans hE9)
          clear hE9 hdr2 hS2 hdr
          (refine eTk 5 ?_)
          refine wpAnyE_done (by kernel_rfl) ?_ _
          clear hHeld
          gi_wp2
          refine ⟨⟨_, _, rfl, rfl, by omega, by omega, HF1, hdr3⟩, by simp [intOf]; omega⟩
        · obtain ⟨hF1, hF2⟩ := HF.out.high (by omega) hM (by omega)
          have HF1 := Lib.hid hF1
          obtain ⟨z, hz, hz0⟩ : ∃ z, ordN (y * M) s = z ∧ ¬ z ≤ 0 := ⟨_, rfl, fun h => hle (ordN_le.1 h)⟩
          have HZ := Lib.hid hz
          clear hM hD hle hF1 hz hyl p7 q7 r7 f7 E7
          gi_wp2
          refine round_heldE 99 (fun w' => w'.cell? ⟨bb, 0, none⟩ = some (.slice b lb.length cb) ∧ w'.cell? ⟨rb, 0, none⟩ = some (.slice a5 (toB 1000000000 s).length c5)) (by kernel_rfl) (by kernel_rfl) (fun ⟨_, _, h⟩ => h) ?_
          ((refine eTk 0 ?_); (refine eTk 1 ?_); (refine eTk 3 ?_))
          (refine wpAnyE_one (i := 2) (o := ?_) ?_ (by kernel_rfl) (fun K hK => ?_); rotate_left; (focus ((simp only [List.getElem?_toArray, List.getElem?_cons_succ, List.getElem?_cons_zero]; exact rfl))); go_simp; go_at_call 175; refine (by_any y M lb b cb _ HY.out hMB (by omega) (HB.out.ext (HP7.out.2.2.2.2.trans hdr))).mono ?_; rintro e w8 ⟨pv, rfl, P1, P2, hE8⟩; obtain ⟨pa, pc, rfl, hpc, _, _⟩ := P1.reads; go_wp2_with fail; refine hK.out _ _ ?_ (fun hHeld => ?_); rotate_left; clear hK K; (try simp only [Act.put, List.setIfInBounds_toArray, List.set_cons_zero, List.set_cons_succ]))
          rotate_left
          · exact ⟨hE8.cell hS.1, hE8.cell hS.2⟩
          have hdr2 := hdr.trans hE8
          have hS2 : w8.cell? ⟨bb, 0, none⟩ = some (.slice b lb.length cb) ∧ w8.cell? ⟨rb, 0, none⟩ = some (.slice a5 (toB 1000000000 s).length c5) := ⟨hE8.cell hS.1, hE8.cell hS.2⟩
          have HPC := Lib.hid hpc
          clear hpc P1 P2 hE8 hS
          (refine wpAnyE_one (i := 4) (o := ?_) ?_ (by kernel_rfl) (fun K hK => ?_); rotate_left; (focus ((simp only [List.getElem?_toArray, List.getElem?_cons_succ, List.getElem?_cons_zero]; exact rfl))); go_simp; go_at_call 131; refine (compare_any (y * M) s (toB 1000000000 (y * M)) (toB 1000000000 s) pa a5 pc c5 w8 rfl rfl (by have := HYL.out; omega) (by omega) HPC.out (HRC.out.ext hdr2)).mono ?_; rintro e w9 ⟨rfl, hE9⟩; rw [HZ.out]; go_wp2_with fail; refine hK.out _ _ ?_ (fun hHeld => ?_); rotate_left; clear hK K; (try simp only [Act.put, List.setIfInBounds_toArray, List.set_cons_zero, List.set_cons_succ]))
          rotate_left
          · exact ⟨hE9.cell hS2.1, hE9.cell hS2.2⟩
          have hdr3 := Lib.hid (hdr2.trans hE9)
          clear hE9 hdr2 hS2 hdr
          (refine eTk 5 ?_)
          refine wpAnyE_done (by kernel_rfl) ?_ _
          clear hHeld
          gi_wp2
          refine ⟨⟨_, _, rfl, rfl, by omega, by omega, HF1, hdr3⟩, by simp [intOf]; omega⟩
      · have hLs : L = s / y := HF.out.done (by omega)
        have hgi : ¬ (1 : Int) < (D : Int) := by omega
        have hnq : n < q.length := by omega
        obtain ⟨s1, s2⟩ := (HO7.out.ext HE.out).at hnq
        have q8 := HE.out.cell q7
        have O8 : OwnsN .u64 161 (wr.setCell ⟨g, n, none⟩ (.int .u64 (L : Int))) (.slice (some ⟨g, 0, none⟩) la.length la.length) (q.set n L) := (HO7.out.ext HE.out).set n L
        have V8 : OwnsN .u64 161 (wr.setCell ⟨g, n, none⟩ (.int .u64 (L : Int))) (.slice a5 (toB 1000000000 s).length c5) (toB 1000000000 s) := (HV7.out.ext HE.out).same (fun i hi => Below.heap_setCell _ ⟨g, n, none⟩ _ i (fun e => by have := HN7.out i hi; dsimp only at e; omega))
        have P8 : (wr.setCell ⟨g, n, none⟩ (.int .u64 (L : Int))).cell? ⟨bb, 0, none⟩ = some (.slice b lb.length cb) := by
          rw [World.cell?_setCell_other _ _ _ _ (fun h => by simp only [Addr.mk.injEq] at h; omega)]; exact p8
        have Q8 : (wr.setCell ⟨g, n, none⟩ (.int .u64 (L : Int))).cell? ⟨qb, 0, none⟩ = some (.slice (some ⟨g, 0, none⟩) la.length la.length) := by
          rw [World.cell?_setCell_other _ _ _ _ (fun h => by simp only [Addr.mk.injEq] at h; omega)]; exact q8
        have R8 : (wr.setCell ⟨g, n, none⟩ (.int .u64 (L : Int))).cell? ⟨rb, 0, none⟩ = some (.slice a5 (toB 1000000000 s).length c5) := by
          rw [World.cell?_setCell_other _ _ _ _ (fun h => by simp only [Addr.mk.injEq] at h; omega)]; exact r8
        have F8 : (wr.setCell ⟨g, n, none⟩ (.int .u64 (L : Int))).frozen? ⟨rb, 0, none⟩ = false := by rw [World.frozen?_setCell]; exact (Below.frozen (p := ⟨rb, 0, none⟩) HE.out s7).trans f7
        have E8 : Ext w0 (wr.setCell ⟨g, n, none⟩ (.int .u64 (L : Int))) := (E7.trans HE.out).set hwg _
        have C8 : Chg (fun i => v.ownBlock = some i ∨ i = rb ∨ i = g) W (wr.setCell ⟨g, n, none⟩ (.int .u64 (L : Int))) := ((HC7.out.mono (fun i hi => hi.imp id .inl)).trans (Chg.ext HE.out)).trans (Chg.setCell (B := fun i => v.ownBlock = some i ∨ i = rb ∨ i = g) ⟨g, n, none⟩ _ (.inr (.inr rfl)))
        have hz8 : w3.heap.size ≤ (wr.setCell ⟨g, n, none⟩ (.int .u64 (L : Int))).heap.size := by have := C8.1; omega
        have HRC8 : Hid (CellsN .u64 (wr.setCell ⟨g, n, none⟩ (.int .u64 (L : Int))) a5 (toB 1000000000 s)) := by
          obtain ⟨a', c', e1, e2, _⟩ := V8.reads
          cases e1
          exact e2
        have HA8 := Lib.hid (And.intro O8 (And.intro Q8 (And.intro E8 C8)))
        have HP8 := Lib.hid (And.intro P8 (And.intro R8 F8))
        have HL := Lib.hid hLs
        have hLm : L ≤ 1000000000 := by omega
        have hyl := HYB.out L hLm
        have hLy : y * L ≤ s := by rw [Nat.mul_comm]; exact HF.out.lo
        have HLY := Lib.hid hLy
        have HYL := Lib.hid hyl
        clear O8 V8 P8 Q8 R8 F8 E8 C8 HV7 HO7 HC7 HP7 HRC p7 r7 q7 f7 E7 p8 r8 hD HF hLs hyl hLy hHB HE HE0
        gi_wp2
        generalize (wr.setCell ⟨g, n, none⟩ (.int .u64 (L : Int))) = W8 at HA8 HP8 HRC8 hz8 ⊢
        clear s1 s2 q8 hw1 hgi
        have hdr : Ext W8 W8.drew := extA
        obtain ⟨hP8, hR8, hF8⟩ := HP8.out
        have hS : W8.drew.cell? ⟨bb, 0, none⟩ = some (.slice b lb.length cb) ∧ W8.drew.cell? ⟨rb, 0, none⟩ = some (.slice a5 (toB 1000000000 s).length c5) := ⟨hdr.cell hP8, hdr.cell hR8⟩
        refine round_heldE 5 (fun w' => w'.cell? ⟨bb, 0, none⟩ = some (.slice b lb.length cb) ∧ w'.cell? ⟨rb, 0, none⟩ = some (.slice a5 (toB 1000000000 s).length c5)) (by kernel_rfl) (by kernel_rfl) (fun ⟨_, _, h⟩ => h) ?_
        ((refine eTk 0 ?_); (refine eTk 1 ?_); (refine eTk 2 ?_))
        (refine wpAnyE_one (i := 3) (o := ?_) ?_ (by kernel_rfl) (fun K hK => ?_); rotate_left; (focus ((simp only [List.getElem?_toArray, List.getElem?_cons_succ, List.getElem?_cons_zero]; exact rfl))); go_simp; go_at_call 175; refine (by_any y L lb b cb _ HY.out (by have := HN.out.1; have := HL.out; omega) (by omega) (HB.out.ext (HA8.out.2.2.1.trans hdr))).mono ?_; rintro e w9 ⟨pv, rfl, P1, P2, hE9⟩; obtain ⟨pa, pc, rfl, hpc, _, _⟩ := P1.reads; go_wp2_with fail; refine hK.out _ _ ?_ (fun hHeld => ?_); rotate_left; clear hK K; (try simp only [Act.put, List.setIfInBounds_toArray, List.set_cons_zero, List.set_cons_succ]))
        rotate_left
        · exact ⟨hE9.cell hS.1, hE9.cell hS.2⟩
        have hdr2 := hdr.trans hE9
        have hS2 : w9.cell? ⟨bb, 0, none⟩ = some (.slice b lb.length cb) ∧ w9.cell? ⟨rb, 0, none⟩ = some (.slice a5 (toB 1000000000 s).length c5) := ⟨hE9.cell hS.1, hE9.cell hS.2⟩
        have HPC := Lib.hid hpc
        clear hpc P1 P2 hE9 hS
        (refine wpAnyE_one (i := 4) (o := ?_) ?_ (by kernel_rfl) (fun K hK => ?_); rotate_left; (focus ((simp only [List.getElem?_toArray, List.getElem?_cons_succ, List.getElem?_cons_zero]; exact rfl))); go_simp; go_at_call 152; refine (minus_any s (y * L) (toB 1000000000 s) (toB 1000000000 (y * L)) a5 pa c5 pc w9 rfl rfl HLY.out (by omega) (HRC8.out.ext hdr2) HPC.out).mono ?_; rintro e w10 ⟨nv, rfl, N1, N2, hE10⟩; obtain ⟨na, nc, rfl, _, _, _⟩ := N1.reads; go_wp2_with fail; refine hK.out _ _ ?_ (fun hHeld => ?_); rotate_left; clear hK K; (try simp only [Act.put, List.setIfInBounds_toArray, List.set_cons_zero, List.set_cons_succ]))
        rotate_left
        · exact ⟨hE10.cell hS2.1, hE10.cell hS2.2⟩
        have hdr3 := hdr2.trans hE10
        have r10 := hE10.cell hS2.2
        have f10 : w10.frozen? ⟨rb, 0, none⟩ = false := (Below.frozen (p := ⟨rb, 0, none⟩) hdr3 (cell_lt hR8)).trans hF8
        have HN2 : ∀ i, (Value.slice na (toB 1000000000 (s - y * L)).length nc).ownBlock = some i → w3.heap.size ≤ i := fun i hi => by have h1 := N2 i hi; have h2 := hdr2.size; omega
        obtain ⟨O8, Q8, E8, C8⟩ := HA8.out
        have hmod : s - y * L = s % y := by
          have := Nat.div_add_mod s y
          rw [← HL.out] at this
          omega
        have OW : OverW la lb y b cb g bb qb rb w3.heap.size w0 (k + 1) (w10.setCell ⟨rb, 0, none⟩ (.slice na (toB 1000000000 (s - y * L)).length nc)) := by
          refine ⟨(E8.trans hdr3).set hwr _, ?_, ?_, ?_, s % y, q.set n L, _, ?_, (O8.ext hdr3).same (fun i hi => by cases hi; exact Below.heap_setCell _ ⟨rb, 0, none⟩ _ g hgr), World.cell?_setCell_same w10 ⟨rb, 0, none⟩ _ r10, ?_, HN2⟩
          · rw [World.cell?_setCell_other _ _ _ _ (fun h => by simp only [Addr.mk.injEq] at h; omega)]; exact hdr3.cell hP8
          · rw [World.cell?_setCell_other _ _ _ _ (fun h => by simp only [Addr.mk.injEq] at h; omega)]; exact hdr3.cell Q8
          · rw [World.frozen?_setCell]; exact f10
          · rw [e2, HL.out]; exact HN.out.2
          · rw [← hmod]; exact N1.same (fun i hi => Below.heap_setCell _ ⟨rb, 0, none⟩ _ i (fun e => by have := HN2 i hi; dsimp only at e; omega))
        have HOW := Lib.hid OW
        have HCC := Lib.hid ((C8.trans (Chg.ext hdr3)).trans (Chg.setCell (B := fun i => v.ownBlock = some i ∨ i = rb ∨ i = g) (A := w10) ⟨rb, 0, none⟩ (.slice na (toB 1000000000 (s - y * L)).length nc) (.inr (.inl rfl))))
        clear N1 N2 hE10 hS2 hdr2 hdr3 hdr hP8 hR8 hF8 HPC O8 Q8 E8 C8 OW hmod HN2
        (refine wpAnyE_free (i := 5) (o := ?_) ?_ (by kernel_rfl) (by kernel_rfl) (fun K hK => ?_); rotate_left; (focus ((simp only [List.getElem?_toArray, List.getElem?_cons_succ, List.getElem?_cons_zero]; exact rfl))); go_simp; refine hK.out _ _ ?_; clear hK K; (try simp only [Act.put, List.setIfInBounds_toArray, List.set_cons_zero, List.set_cons_succ]))
        refine wpAnyE_done (by kernel_rfl) ?_ _
        clear hHeld
        refine ⟨⟨fun i => v.ownBlock = some i ∨ i = rb ∨ i = g, HCC.out, ?_, ?_⟩, HOW.out⟩
        · rintro i (h | rfl | rfl)
          · have := HVN.out i h
            exact ⟨by omega, by omega⟩
          · exact ⟨fun e => hsr e.symm, hwr⟩
          · exact ⟨fun e => hsg e.symm, hwg⟩
        · rintro i (h | rfl | rfl) o ho
          · exact HCELL.out.1 i h o ho
          · exact HCELL.out.2.1 o ho
          · exact HCELL.out.2.2 o ho
end Go.Proofs.YtdejgaiocjfhjaaGreatDoor
namespace Go.Proofs.YtdejgaiocjfhjaaGreatDoor
open Go.RowKit
attribute [local go_sem] Oper.semAt_some
def OwnNPost2 (k : IntKind) (t : TypeId) (l m : List Nat) (w : World) (e : Ending) (w' : World) : Prop :=
  ∃ v u, e = .returned (.tuple #[v, u]) ∧ OwnsN k t w' v l ∧ OwnsN k t w' u m ∧ (∀ b, v.ownBlock = some b → w.heap.size ≤ b) ∧ (∀ b, u.ownBlock = some b → w.heap.size ≤ b) ∧ Ext w w'
set_option maxHeartbeats 4000000 in
set_option maxRecDepth 100000 in
theorem over_any (x y : Nat) (la lb : List Nat) (a b : Option Addr) (ca cb : Nat) (w : World) (hx : la = toB 1000000000 x) (hy : lb = toB 1000000000 y) (hy0 : 0 < y)
    (hla : la.length ≤ 100) (hlb : lb.length ≤ 100) (ha : CellsN .u64 w a la) (hb : CellsN .u64 w b lb) :
    Calls Tryz.prog 157 #[.slice a la.length ca, .slice b lb.length cb] w (OwnNPost2 .u64 161 (toB 1000000000 (x / y)) (toB 1000000000 (x % y)) w) := by
  have HX := Lib.hid hx
  have HY := Lib.hid hy
  have HA := Lib.hid ha
  have HB := Lib.hid hb
  have HOA : Hid (OkB 1000000000 la) := by show OkB _ _; rw [hx]; exact okB_toB (by omega) x
  clear hx hy ha hb
  obtain ⟨w1, hw1⟩ : ∃ w1, w1 = w.alloc (.cells #[.slice b lb.length cb] 114) := ⟨_, rfl⟩
  have hs1 : w1.heap.size = w.heap.size + 1 := by rw [hw1]; simp
  have hmk : (Instr.makeSlice 114 (.int .i64 (la.length : Int)) (.int .i64 (la.length : Int))).run Tryz.prog w1 = .ok (.slice (some ⟨w1.heap.size, 0, none⟩) la.length la.length) (w1.alloc (.cells (madeCells #[.int .u64 0] la.length) 161)) :=
    run_make_row' _ _ (.int .u64 0) 8 Tryz.underlying114 infoU64 rfl _ _ la.length (by omega) (by omega) w1
  obtain ⟨w2, hw2⟩ : ∃ w2, w2 = w1.alloc (.cells (madeCells #[.int .u64 0] la.length) 161) := ⟨_, rfl⟩
  rw [← hw2] at hmk
  have hs2 : w2.heap.size = w.heap.size + 1 + 1 := by rw [hw2]; simp [hs1]
  have E2 : Ext w w2 := by rw [hw2, hw1]; exact extA
  have O2 : OwnsN .u64 161 w2 (.slice (some ⟨w1.heap.size, 0, none⟩) la.length la.length) (List.replicate la.length 0) := by rw [hw2]; exact madeN _ _ w1 _ (by omega)
  have b2 : w2.cell? ⟨w.heap.size, 0, none⟩ = some (.slice b lb.length cb) := by rw [hw2, hw1]; go_simp
  rw [hs1] at O2 hmk
  have E3 : Ext w2 (((w2.alloc (.cells #[.slice (some ⟨w.heap.size + 1, 0, none⟩) la.length la.length] 114)).alloc (.cells #[.slice none 0 0] 114)).alloc (.cells #[.slice a la.length ca] 114)) := extA
  have hs3 : ((w2.alloc (.cells #[.slice (some ⟨w.heap.size + 1, 0, none⟩) la.length la.length] 114)).alloc (.cells #[.slice none 0 0] 114)).heap.size = w.heap.size + 1 + 1 + 1 + 1 := by simp [hs2]
  have q3 : (((w2.alloc (.cells #[.slice (some ⟨w.heap.size + 1, 0, none⟩) la.length la.length] 114)).alloc (.cells #[.slice none 0 0] 114)).alloc (.cells #[.slice a la.length ca] 114)).cell? ⟨w2.heap.size, 0, none⟩ = some (.slice (some ⟨w.heap.size + 1, 0, none⟩) la.length la.length) := by go_simp
  have r3 : (((w2.alloc (.cells #[.slice (some ⟨w.heap.size + 1, 0, none⟩) la.length la.length] 114)).alloc (.cells #[.slice none 0 0] 114)).alloc (.cells #[.slice a la.length ca] 114)).cell? ⟨w2.heap.size + 1, 0, none⟩ = some (.slice none 0 0) := by go_simp
  have f3 : (((w2.alloc (.cells #[.slice (some ⟨w.heap.size + 1, 0, none⟩) la.length la.length] 114)).alloc (.cells #[.slice none 0 0] 114)).alloc (.cells #[.slice a la.length ca] 114)).frozen? ⟨w2.heap.size + 1, 0, none⟩ = false := by go_simp
  have s3 : (((w2.alloc (.cells #[.slice (some ⟨w.heap.size + 1, 0, none⟩) la.length la.length] 114)).alloc (.cells #[.slice none 0 0] 114)).alloc (.cells #[.slice a la.length ca] 114)).cell? ⟨w2.heap.size + 1 + 1, 0, none⟩ = some (.slice a la.length ca) := by go_simp
  rw [hs2] at q3 r3 f3 s3
  have EV := E2.trans E3
  have HW : Hid (OverW la lb y b cb (w.heap.size + 1) w.heap.size (w.heap.size + 1 + 1) (w.heap.size + 1 + 1 + 1) (((w2.alloc (.cells #[.slice (some ⟨w.heap.size + 1, 0, none⟩) la.length la.length] 114)).alloc (.cells #[.slice none 0 0] 114)).alloc (.cells #[.slice a la.length ca] 114)).heap.size w 0 (((w2.alloc (.cells #[.slice (some ⟨w.heap.size + 1, 0, none⟩) la.length la.length] 114)).alloc (.cells #[.slice none 0 0] 114)).alloc (.cells #[.slice a la.length ca] 114))) := by
    refine ⟨EV, E3.cell b2, q3, f3, 0, _, _, OverI.start (by omega) la hy0, O2.ext E3, r3, ?_, fun b hb => by cases hb⟩
    rw [toB_zero]; exact OwnsN.nil _ _ _
  have hw1' := hw1.symm
  have HW1 := Lib.hid hw1
  have HW2 := Lib.hid hw2
  clear hw2 hw1 b2 E2 E3 O2 q3 r3 f3
  refine (callsIn_wide (n := 0)).1 ?_
  refine callsIn_of_wp_marks Tryz.func157 rfl trivial ?_
  simp only [Tryz.ntmps157, List.size_toArray, List.length_cons, List.length_nil, Nat.reduceAdd, Nat.reduceSub, Array.replicate_succ, Array.replicate_zero, List.push_toArray, List.append_toArray, List.nil_append, List.cons_append]
  gi_wp2_with fail
  refine ⟨trivial, rfl, ?_⟩
  gi_at_call 164
  refine (callsIn_wide.2 (Backward_any a la.length ca _)).mono ?_
  rintro e w3 ⟨rfl, rfl⟩
  rw [hs3]
  clear hs3 hmk hw1' hs1
  generalize (((w2.alloc (.cells #[.slice (some ⟨w.heap.size + 1, 0, none⟩) la.length la.length] 114)).alloc (.cells #[.slice none 0 0] 114)).alloc (.cells #[.slice a la.length ca] 114)) = w3 at EV s3 HW ⊢
  have hz3 := EV.size
  have hsz : w.heap.size + 1 + 1 + 1 + 1 < w3.heap.size := cell_lt s3
  gi_wp2_with fail
  refine wpIn_wide.2 (over_range _ _ rfl y la lb a b ca cb w w3 (w.heap.size + 1 + 1 + 1 + 1) (w.heap.size + 1) w.heap.size (w.heap.size + 1 + 1) (w.heap.size + 1 + 1 + 1) hla hlb HOA.out HY.out hy0 HA.out HB.out EV s3 HW.out (by omega) (by omega) (by omega) (by omega) (by omega) (by omega) (by omega) (by omega) (by omega) (by omega) (by omega) _ _ _ _ _ _ _ _ _ _ _ _ _ _ _ _ _ _ _ _ _ _ _ _ _ _ _ _ _ _ _ _ _ _ _ _ _ _ _ _ _ _ _ _ _ _ _ [] _ ?_)
  intro D W k1 k2 hW hD
  clear HW s3
  obtain ⟨r, q, v, hI, hO, r4, hV, hvn⟩ := hW.st
  have q4 := hW.pq
  have E4 := hW.ext
  rw [Nat.sub_self] at hI
  have hql : q.length = la.length := hI.len
  have hdone := hI.done (by omega)
  rw [HX.out, valB_toB (by omega)] at hdone
  rw [← hql] at q4 hO
  obtain ⟨_, _, hov, hoc, hor, _⟩ := hO.reads
  cases hov
  clear hql
  obtain ⟨ra, rc, rfl, _, _, _⟩ := hV.reads
  have HR := Lib.hid (trimmed_any q (some ⟨w.heap.size + 1, 0, none⟩) q.length)
  have HC := Lib.hid (And.intro hoc hor)
  have HDN := Lib.hid hdone
  have HO := Lib.hid hO
  have HV := Lib.hid hV
  have HVN := Lib.hid hvn
  have HD := Lib.hid hD
  clear hI hoc hor hO hD hW hV hvn hdone EV
  have hdr : Ext W W.drew := extA
  have hS : W.drew.cell? ⟨w.heap.size + 1 + 1, 0, none⟩ = some (.slice (some ⟨w.heap.size + 1, 0, none⟩) q.length q.length) ∧ W.drew.cell? ⟨w.heap.size + 1 + 1 + 1, 0, none⟩ = some (.slice ra (toB 1000000000 r).length rc) := ⟨hdr.cell q4, hdr.cell r4⟩
  gi_wp2_with fail
  refine wide_heldE 99 (fun w' => w'.cell? ⟨w.heap.size + 1 + 1, 0, none⟩ = some (.slice (some ⟨w.heap.size + 1, 0, none⟩) q.length q.length) ∧ w'.cell? ⟨w.heap.size + 1 + 1 + 1, 0, none⟩ = some (.slice ra (toB 1000000000 r).length rc)) (by kernel_rfl) ?_
  ((refine eTk 0 ?_); (refine eTk 2 ?_))
  (refine wpAnyE_one (i := 1) (o := ?_) ?_ (by kernel_rfl) (fun K hK => ?_); rotate_left; (focus ((simp only [List.getElem?_toArray, List.getElem?_cons_succ, List.getElem?_cons_zero]; exact rfl))); go_simp; go_at_call 173; refine (HR.out W.drew HC.out.2 (HC.out.1.ext hdr)).mono ?_; rintro e w5 ⟨rfl, hn5, hE5⟩; go_wp2_with fail; refine hK.out _ _ ?_ (fun hHeld => ?_); rotate_left; clear hK K; (try simp only [Act.put, List.setIfInBounds_toArray, List.set_cons_zero, List.set_cons_succ]))
  rotate_left
  · exact ⟨hE5.cell hS.1, hE5.cell hS.2⟩
  have hdr2 := hdr.trans hE5
  have hS2 : w5.cell? ⟨w.heap.size + 1 + 1, 0, none⟩ = some (.slice (some ⟨w.heap.size + 1, 0, none⟩) q.length q.length) ∧ w5.cell? ⟨w.heap.size + 1 + 1 + 1, 0, none⟩ = some (.slice ra (toB 1000000000 r).length rc) := ⟨hE5.cell hS.1, hE5.cell hS.2⟩
  ((refine eTk 3 ?_); (refine eTk 4 ?_))
  refine wpAnyE_done (by kernel_rfl) ?_ _
  refine NoPanic.normal ?_
  have HO6 := Lib.hid ((HO.out.ext hdr2).trim hn5)
  have HV6 := Lib.hid (HV.out.ext hdr2)
  have HD6 := Lib.hid ((Below.block hdr2 D k2).trans HD.out)
  have E6 := E4.trans hdr2
  clear hn5 hE5 hS hS2 hdr2 hdr HO HV HD hHeld q4 r4 E4
  gi_wp2
  refine leaves_cells (v := .tuple #[.slice (some ⟨w.heap.size + 1, 0, none⟩) (trimL q).length q.length, .slice ra (toB 1000000000 r).length rc]) (n := w3.heap.size) [mark D] _ ⟨[D], rfl, by simp, fun E hE => by simp at hE; subst hE; exact ⟨k1, HD6.out⟩⟩ (fun W6 hk => ?_)
  refine ⟨(results_tmp2 (t := 4) (u := 5) rfl _ _ _).trans rfl, _, _, rfl, ?_, ?_, fun b hb => by cases hb; exact Nat.le_succ _, fun b hb => by have := HVN.out b hb; omega, E6.trans' hk.1 hz3⟩
  · rw [← HDN.out.1]; exact rowKeep HO6.out hk
  · rw [← HDN.out.2]; exact rowKeep HV6.out hk
end Go.Proofs.YtdejgaiocjfhjaaGreatDoor
namespace Go.Proofs.YtdejgaiocjfhjaaGreatDoor
open Go.RowKit
def readN (w : World) (a : Option Addr) (n : Nat) : List Nat := (List.range n).map fun i => match a with
  | some p => (match w.cell? ⟨p.block, p.off + i, none⟩ with | some (.int _ z) => z.toNat | _ => 0)
  | none => 0
theorem readN_eq {k : IntKind} {w : World} {a : Option Addr} {l : List Nat} (h : CellsN k w a l) : readN w a l.length = l := by
  apply List.ext_getElem (by simp [readN])
  intro i h1 h2
  obtain ⟨b, off, rfl, hc⟩ := h i h2
  simp [readN, hc, List.getD_eq_getElem?_getD, h2]
def natOf (w : World) : Value → Nat
  | .slice a n _ => valB 1000000000 (readN w a n)
  | _ => 0
theorem ordN_ge {a b : Nat} : 0 ≤ ordN a b ↔ b ≤ a := by
  unfold ordN
  by_cases h : a < b
  · rw [if_pos h]; omega
  · rw [if_neg h]
    by_cases k : b < a
    · rw [if_pos k]; omega
    · rw [if_neg k]; omega
def NewC (x : Nat) (w : World) (e : Ending) (w' : World) : Prop := ∃ a c, e = .returned (.slice a (toB 1000000000 x).length c) ∧ CellsN .u64 w' a (toB 1000000000 x) ∧ Ext w w'
theorem OwnNPost.newC {x : Nat} {w : World} {e : Ending} {w' : World} (h : OwnNPost .u64 161 (toB 1000000000 x) w e w') : NewC x w e w' := by
  obtain ⟨v, h1, h2, _, h4⟩ := h
  obtain ⟨a, c, rfl, h5, _⟩ := h2.reads
  exact ⟨a, c, h1, h5, h4⟩
theorem natOf_eq {w : World} {a : Option Addr} {x c : Nat} (h : CellsN .u64 w a (toB 1000000000 x)) : natOf w (.slice a (toB 1000000000 x).length c) = x := by
  unfold natOf
  simp only
  rw [readN_eq h, valB_toB (by omega)]
theorem len_pos {x : Nat} (h : x ≠ 0) : 0 < (toB 1000000000 x).length := by rw [toB_pos (by omega) h]; simp
theorem len_zero {x : Nat} (h : x = 0) : (toB 1000000000 x).length = 0 := by rw [h, toB_zero]; rfl
theorem len_le {x : Nat} (h : x < 1000000000 ^ 101) : (toB 1000000000 x).length ≤ 101 := toB_len (by omega) 101 h
theorem lt_of_len {l : List Nat} {x : Nat} (h : l = toB 1000000000 x) (hl : l.length ≤ 100) : x < 1000000000 ^ 100 := by
  have h1 := valB_lt (okB_toB (B := 1000000000) (by omega) x)
  rw [valB_toB (by omega), ← h] at h1
  exact Nat.lt_of_lt_of_le h1 (Nat.pow_le_pow_right (by omega) hl)
theorem pow_le_two {a b c : Nat} (h : 1000000000 ≤ 2 ^ b) (k : b * a ≤ c) : 1000000000 ^ a ≤ 2 ^ c := by
  have h1 := Nat.pow_le_pow_left h a
  rw [← Nat.pow_mul] at h1
  exact Nat.le_trans h1 (Nat.pow_le_pow_right (by omega) k)
theorem GcdI.t_lt_of {x y a b t N k : Nat} (h : GcdI x y a b t) (hxy : x + y < 1000000000 ^ k) (hN : 30 * k ≤ N) : t < N := by
  have h1 : 2 ^ t ≤ (a + b) * 2 ^ t := Nat.le_mul_of_pos_left _ h.pos
  have h2 : 2 ^ t < 1000000000 ^ k := Nat.lt_of_le_of_lt (Nat.le_trans h1 h.le) hxy
  have h3 : 1000000000 ^ k ≤ 2 ^ N := pow_le_two (b := 30) (by omega) hN
  exact (Nat.pow_lt_pow_iff_right (by omega)).1 (Nat.lt_of_lt_of_le h2 h3)
theorem GcdI.t_lt {x y a b t : Nat} (h : GcdI x y a b t) (hxy : x + y < 1000000000 ^ 101) : t < 5000 := h.t_lt_of hxy (by omega)
theorem GcdI.ab_le {x y a b t : Nat} (h : GcdI x y a b t) : a + b ≤ x + y := Nat.le_trans (Nat.le_mul_of_pos_right _ (Nat.pow_pos (by omega))) h.le
structure DivW (x y : Nat) (w0 : World) (va vb : Value) (a b t : Nat) (w : World) : Prop where
  g : GcdI x y a b t
  a : ∃ pa pc, va = .slice pa (toB 1000000000 a).length pc ∧ CellsN .u64 w pa (toB 1000000000 a)
  b : ∃ qa qc, vb = .slice qa (toB 1000000000 b).length qc ∧ CellsN .u64 w qa (toB 1000000000 b)
  e : Ext w0 w
set_option maxHeartbeats 8000000 in
set_option maxRecDepth 100000 in
theorem divisor_any (x y : Nat) (la lb : List Nat) (a b : Option Addr) (ca cb : Nat) (w : World) (hx : la = toB 1000000000 x) (hy : lb = toB 1000000000 y) (hxy : 0 < x + y)
    (hla : la.length ≤ 100) (hlb : lb.length ≤ 100) (ha : CellsN .u64 w a la) (hb : CellsN .u64 w b lb) :
    Calls Tryz.prog 132 #[.slice a la.length ca, .slice b lb.length cb] w (OwnNPost .u64 161 (toB 1000000000 (Nat.gcd x y)) w) := by
  have hxl := lt_of_len hx hla
  have hyl := lt_of_len hy hlb
  have hxyB : x + y < 1000000000 ^ 101 := by
    have : (1000000000 : Nat) ^ 101 = 1000000000 * 1000000000 ^ 100 := by rw [Nat.pow_succ, Nat.mul_comm]
    omega
  subst hx hy
  have HXY := Lib.hid hxyB
  have W0 : Hid (DivW x y w (.slice a (toB 1000000000 x).length ca) (.slice b (toB 1000000000 y).length cb) x y 0 w) := ⟨GcdI.start hxy, ⟨_, _, rfl, ha⟩, ⟨_, _, rfl, hb⟩, Ext.refl _⟩
  clear hxl hyl hxyB ha hb hxy
  generalize Value.slice a (toB 1000000000 x).length ca = va0 at W0 ⊢
  generalize Value.slice b (toB 1000000000 y).length cb = vb0 at W0 ⊢
  clear hla hlb
  go_enter Tryz.func132, Tryz.ntmps132
  go_wp2
  go_loopw [0, 1, 5] (fun va vb tw wr => ∃ (p q t : Nat), tw = .int .i64 (t : Int) ∧ Hid (DivW x y w va vb p q t wr)) (fun va vb _ wr => natOf wr va + natOf wr vb)
  case atStart => exact ⟨x, y, 0, rfl, W0.out⟩
  case round =>
    obtain ⟨p, q, t, rfl, HW⟩ := hrel
    obtain ⟨hg, ⟨pa, pc, rfl, hpc⟩, ⟨qa, qc, rfl, hqc⟩, he⟩ := HW.out
    have hpq := hg.ab_le
    have hxb := HXY.out
    have hpl := len_le (x := p) (by omega)
    have hql := len_le (x := q) (by omega)
    have ht := hg.t_lt hxb
    have HM : Hid (natOf wr (.slice pa (toB 1000000000 p).length pc) + natOf wr (.slice qa (toB 1000000000 q).length qc) = p + q) := by
      show _ = _
      rw [natOf_eq hpc, natOf_eq hqc]
    have HG := Lib.hid hg
    have HP := Lib.hid hpc
    have HQ := Lib.hid hqc
    have HE := Lib.hid he
    clear hpc hqc hxb hpq W0 HW
    by_cases h0 : p = 0 ∨ q = 0
    · have HD : Hid (2 ^ t * (p + q) = Nat.gcd x y) := hg.done h0
      have HLE : Hid (∀ k, k ≤ t → (toB 1000000000 (2 ^ k * (p + q))).length ≤ 101) := fun k hk => len_le (by
        have h1 : 2 ^ k * (p + q) ≤ 2 ^ t * (p + q) := Nat.mul_le_mul_right _ (Nat.pow_le_pow_right (by omega) hk)
        have h2 := hg.le
        rw [Nat.mul_comm] at h2
        have := HXY.out
        omega)
      have H0 : Hid (2 ^ 0 * (p + q) = p + q) := by show _ = _; simp
      have hlen : (toB 1000000000 p).length = 0 ∨ (0 < (toB 1000000000 p).length ∧ (toB 1000000000 q).length = 0) := by
        rcases h0 with h | h
        · exact .inl (len_zero h)
        · by_cases hp : p = 0
          · exact .inl (len_zero hp)
          · exact .inr ⟨len_pos hp, len_zero h⟩
      have HPL := Lib.hid (show ∀ W, Ext wr W → _ from fun W hW => plus_any p q _ _ pa qa pc qc W rfl rfl (by omega) (by omega) (HP.out.ext hW) (HQ.out.ext hW))
      generalize (toB 1000000000 p).length = lp at *
      generalize (toB 1000000000 q).length = lq at *
      have HZ : Hid (∀ v W, OwnsN .u64 161 W v (toB 1000000000 (p + q)) → OwnsN .u64 161 W v (toB 1000000000 (2 ^ 0 * (p + q)))) := fun v W h => by rw [H0.out]; exact h
      have HS : Hid (∀ k, 2 ^ k * (p + q) + 2 ^ k * (p + q) = 2 ^ (k + 1) * (p + q)) := fun k => two_pow_step k _
      generalize p + q = g at *
      clear h0 hg HM HG HP HQ H0
      rcases hlen with h | ⟨h1, h2⟩
      · subst h
        go_wp2_with fail
        refine (HPL.out _ extA).mono ?_
        rintro e w1 ⟨ov, rfl, O1, N1, E1⟩
        have HO1 := Lib.hid (HZ.out _ _ O1)
        have HN1 : Hid (∀ b, ov.ownBlock = some b → w.heap.size ≤ b) := fun b hb => Nat.le_trans he.size (N1 b hb)
        have F1 := he.trans E1
        clear O1 N1 E1 HPL HZ he
        go_wp2
        go_loopw [6, 53] (fun v i wl => ∃ (k : Nat) (vv : Value), v = vv ∧ i = .int .i64 (k : Int) ∧ k ≤ t ∧ Hid (OwnsN .u64 161 wl vv (toB 1000000000 (2 ^ k * g))) ∧ Hid (∀ b, vv.ownBlock = some b → w.heap.size ≤ b) ∧ Ext w wl) (fun _ i _ => t - (intOf i).toNat)
        case atStart => exact ⟨0, _, rfl, rfl, Nat.zero_le _, HO1.out, HN1.out, F1⟩
        case round =>
          obtain ⟨k, vv, hvv, rfl, hk, HO, HN, he⟩ := hrel
          obtain rfl := hvv.symm
          obtain ⟨oa, oc, rfl, hoc, _, _⟩ := HO.out.reads
          have HOC := Lib.hid hoc
          have hl := HLE.out k hk
          clear hoc HO1 HN1 F1
          by_cases hkt : k < t
          · have hki : (k : Int) < (t : Int) := by omega
            have HPP := Lib.hid (plus_any (2 ^ k * g) (2 ^ k * g) _ _ oa oa oc oc wr rfl rfl (by omega) (by omega) HOC.out HOC.out)
            rw [HS.out] at HPP
            generalize (toB 1000000000 (2 ^ k * g)).length = lk at *
            clear HO HOC hl
            go_wp2_with fail
            refine HPP.out.mono ?_
            rintro e w5 ⟨v5, rfl, O5, N5, E5⟩
            have HO5 := Lib.hid O5
            have HN5 : Hid (∀ b, v5.ownBlock = some b → w.heap.size ≤ b) := fun b hb => Nat.le_trans he.size (N5 b hb)
            have F5 := he.trans E5
            clear O5 N5 E5 HPP HN he
            go_wp2
            refine ⟨⟨k + 1, v5, rfl, by go_num, by omega, HO5, HN5, F5⟩, by simp [intOf]; omega⟩
          · have hke : k = t := by omega
            have hki : ¬ (k : Int) < (t : Int) := by omega
            have HF : Hid (OwnsN .u64 161 wr (.slice oa (toB 1000000000 (2 ^ k * g)).length oc) (toB 1000000000 (Nat.gcd x y))) := by
              show OwnsN _ _ _ _ _
              have h1 := HO.out
              have h2 := HD.out
              rw [← hke] at h2
              rw [← h2]
              exact h1
            generalize (toB 1000000000 (2 ^ k * g)).length = lk at *
            clear HO HOC hl hke
            go_wp2
            go_ret
            exact ⟨_, rfl, HF.out, HN.out, he⟩
      · subst h2
        have h3 : (0 : Int) < (lp : Int) := by omega
        go_wp2_with fail
        refine (HPL.out _ extA).mono ?_
        rintro e w1 ⟨ov, rfl, O1, N1, E1⟩
        have HO1 := Lib.hid (HZ.out _ _ O1)
        have HN1 : Hid (∀ b, ov.ownBlock = some b → w.heap.size ≤ b) := fun b hb => Nat.le_trans he.size (N1 b hb)
        have F1 := he.trans E1
        clear O1 N1 E1 HPL HZ he
        go_wp2
        go_loopw [6, 53] (fun v i wl => ∃ (k : Nat) (vv : Value), v = vv ∧ i = .int .i64 (k : Int) ∧ k ≤ t ∧ Hid (OwnsN .u64 161 wl vv (toB 1000000000 (2 ^ k * g))) ∧ Hid (∀ b, vv.ownBlock = some b → w.heap.size ≤ b) ∧ Ext w wl) (fun _ i _ => t - (intOf i).toNat)
        case atStart => exact ⟨0, _, rfl, rfl, Nat.zero_le _, HO1.out, HN1.out, F1⟩
        case round =>
          obtain ⟨k, vv, hvv, rfl, hk, HO, HN, he⟩ := hrel
          obtain rfl := hvv.symm
          obtain ⟨oa, oc, rfl, hoc, _, _⟩ := HO.out.reads
          have HOC := Lib.hid hoc
          have hl := HLE.out k hk
          clear hoc HO1 HN1 F1
          by_cases hkt : k < t
          · have hki : (k : Int) < (t : Int) := by omega
            have HPP := Lib.hid (plus_any (2 ^ k * g) (2 ^ k * g) _ _ oa oa oc oc wr rfl rfl (by omega) (by omega) HOC.out HOC.out)
            rw [HS.out] at HPP
            generalize (toB 1000000000 (2 ^ k * g)).length = lk at *
            clear HO HOC hl
            go_wp2_with fail
            refine HPP.out.mono ?_
            rintro e w5 ⟨v5, rfl, O5, N5, E5⟩
            have HO5 := Lib.hid O5
            have HN5 : Hid (∀ b, v5.ownBlock = some b → w.heap.size ≤ b) := fun b hb => Nat.le_trans he.size (N5 b hb)
            have F5 := he.trans E5
            clear O5 N5 E5 HPP HN he
            go_wp2
            refine ⟨⟨k + 1, v5, rfl, by go_num, by omega, HO5, HN5, F5⟩, by simp [intOf]; omega⟩
          · have hke : k = t := by omega
            have hki : ¬ (k : Int) < (t : Int) := by omega
            have HF : Hid (OwnsN .u64 161 wr (.slice oa (toB 1000000000 (2 ^ k * g)).length oc) (toB 1000000000 (Nat.gcd x y))) := by
              show OwnsN _ _ _ _ _
              have h1 := HO.out
              have h2 := HD.out
              rw [← hke] at h2
              rw [← h2]
              exact h1
            generalize (toB 1000000000 (2 ^ k * g)).length = lk at *
            clear HO HOC hl hke
            go_wp2
            go_ret
            exact ⟨_, rfl, HF.out, HN.out, he⟩
    · have hp0 : p ≠ 0 := fun e => h0 (.inl e)
      have hq0 : q ≠ 0 := fun e => h0 (.inr e)
      have lp := len_pos hp0
      have lq := len_pos hq0
      have lpi : (0 : Int) < ((toB 1000000000 p).length : Int) := by omega
      have lqi : (0 : Int) < ((toB 1000000000 q).length : Int) := by omega
      obtain ⟨fp, hfp⟩ : ∃ f, f = decide (p % 2 = 0) := ⟨_, rfl⟩
      obtain ⟨fq, hfq⟩ : ∃ f, f = decide (q % 2 = 0) := ⟨_, rfl⟩
      have HEp : Hid (∀ W, Ext wr W → Calls Tryz.prog 166 #[.slice pa (toB 1000000000 p).length pc] W fun e w' => e = .returned (.bool fp) ∧ Ext W w') := fun W hW => by
        rw [hfp]; exact even_any p _ pa pc W rfl (HP.out.ext hW) (by omega)
      have HEq : Hid (∀ W, Ext wr W → Calls Tryz.prog 166 #[.slice qa (toB 1000000000 q).length qc] W fun e w' => e = .returned (.bool fq) ∧ Ext W w') := fun W hW => by
        rw [hfq]; exact even_any q _ qa qc W rfl (HQ.out.ext hW) (by omega)
      have HHp : Hid (∀ W, Ext wr W → Calls Tryz.prog 167 #[.slice pa (toB 1000000000 p).length pc] W (NewC (p / 2) W)) := fun W hW =>
        (half_any p _ pa pc W rfl (by omega) lp (HP.out.ext hW)).mono fun _ _ h => h.newC
      have HHq : Hid (∀ W, Ext wr W → Calls Tryz.prog 167 #[.slice qa (toB 1000000000 q).length qc] W (NewC (q / 2) W)) := fun W hW =>
        (half_any q _ qa qc W rfl (by omega) lq (HQ.out.ext hW)).mono fun _ _ h => h.newC
      clear h0
      cases fp
      · have hpo : p % 2 ≠ 0 := fun e => by rw [e] at hfp; simp at hfp
        cases fq
        · have hqo : q % 2 ≠ 0 := fun e => by rw [e] at hfq; simp at hfq
          clear hfp hfq
          by_cases hle : q ≤ p
          · obtain ⟨z, hz, hz0⟩ : ∃ z, ordN p q = z ∧ 0 ≤ z := ⟨_, rfl, ordN_ge.2 hle⟩
            have HCC : Hid (∀ W, Ext wr W → Calls Tryz.prog 131 #[.slice pa (toB 1000000000 p).length pc, .slice qa (toB 1000000000 q).length qc] W fun e w' => e = .returned (.int .i64 z) ∧ Ext W w') := fun W hW => by
              rw [← hz]; exact compare_any p q _ _ pa qa pc qc W rfl rfl (by omega) (by omega) (HP.out.ext hW) (HQ.out.ext hW)
            have HMM : Hid (∀ W, Ext wr W → Calls Tryz.prog 152 #[.slice pa (toB 1000000000 p).length pc, .slice qa (toB 1000000000 q).length qc] W (NewC (p - q) W)) := fun W hW =>
              (minus_any p q _ _ pa qa pc qc W rfl rfl hle (by omega) (HP.out.ext hW) (HQ.out.ext hW)).mono fun _ _ h => h.newC
            have HG2 := Lib.hid (hg.less (by omega) hle)
            have hms : p - q + q < p + q := by omega
            clear hz hg hle hpo hqo he
            go_wp2_with (first
          | (go_at_call 166; (with_reducible refine (HEp.out _ extA).mono ?_); rintro e w' ⟨rfl, hE⟩)
          | (go_at_call 166; (with_reducible refine (HEq.out _ extA).mono ?_); rintro e w' ⟨rfl, hE⟩)
          | (go_at_call 167; (with_reducible refine (HHp.out _ extA).mono ?_); rintro e w' ⟨na, nc, rfl, hCp, hE⟩)
          | (go_at_call 167; (with_reducible refine (HHq.out _ extA).mono ?_); rintro e w' ⟨ma, mc, rfl, hCq, hE⟩)
          | (go_at_call 131; (with_reducible refine (HCC.out _ extA).mono ?_); rintro e w' ⟨rfl, hE⟩)
          | (go_at_call 152; (with_reducible refine (HMM.out _ extA).mono ?_); rintro e w' ⟨na, nc, rfl, hCp, hE⟩))
            have hEE : Ext wr w' := extA
            have hQ2 := HQ.out.ext hEE
            refine ⟨⟨_, _, _, rfl, HG2.out, ⟨_, _, rfl, hCp⟩, ⟨_, _, rfl, hQ2⟩, HE.out.trans hEE⟩, ?_⟩
            show natOf w' _ + natOf w' _ < natOf wr _ + natOf wr _
            rw [HM.out, natOf_eq hCp, natOf_eq hQ2]
            exact hms
          · have hlt : p ≤ q := by omega
            obtain ⟨z, hz, hz0⟩ : ∃ z, ordN p q = z ∧ ¬ 0 ≤ z := ⟨_, rfl, fun h => hle (ordN_ge.1 h)⟩
            have HCC : Hid (∀ W, Ext wr W → Calls Tryz.prog 131 #[.slice pa (toB 1000000000 p).length pc, .slice qa (toB 1000000000 q).length qc] W fun e w' => e = .returned (.int .i64 z) ∧ Ext W w') := fun W hW => by
              rw [← hz]; exact compare_any p q _ _ pa qa pc qc W rfl rfl (by omega) (by omega) (HP.out.ext hW) (HQ.out.ext hW)
            have HMM : Hid (∀ W, Ext wr W → Calls Tryz.prog 152 #[.slice qa (toB 1000000000 q).length qc, .slice pa (toB 1000000000 p).length pc] W (NewC (q - p) W)) := fun W hW =>
              (minus_any q p _ _ qa pa qc pc W rfl rfl hlt (by omega) (HQ.out.ext hW) (HP.out.ext hW)).mono fun _ _ h => h.newC
            have HG2 := Lib.hid (hg.less' (by omega) hlt)
            have hms : p + (q - p) < p + q := by omega
            clear hz hg hle hpo hqo he hlt
            go_wp2_with (first
          | (go_at_call 166; (with_reducible refine (HEp.out _ extA).mono ?_); rintro e w' ⟨rfl, hE⟩)
          | (go_at_call 166; (with_reducible refine (HEq.out _ extA).mono ?_); rintro e w' ⟨rfl, hE⟩)
          | (go_at_call 167; (with_reducible refine (HHp.out _ extA).mono ?_); rintro e w' ⟨na, nc, rfl, hCp, hE⟩)
          | (go_at_call 167; (with_reducible refine (HHq.out _ extA).mono ?_); rintro e w' ⟨ma, mc, rfl, hCq, hE⟩)
          | (go_at_call 131; (with_reducible refine (HCC.out _ extA).mono ?_); rintro e w' ⟨rfl, hE⟩)
          | (go_at_call 152; (with_reducible refine (HMM.out _ extA).mono ?_); rintro e w' ⟨na, nc, rfl, hCp, hE⟩))
            have hEE : Ext wr w' := extA
            have hP2 := HP.out.ext hEE
            have hQ2 := hCp
            refine ⟨⟨_, _, _, by go_num, HG2.out, ⟨_, _, rfl, hP2⟩, ⟨_, _, rfl, hQ2⟩, HE.out.trans hEE⟩, ?_⟩
            show natOf w' _ + natOf w' _ < natOf wr _ + natOf wr _
            rw [HM.out, natOf_eq hP2, natOf_eq hQ2]
            exact hms
        · have hqe : q % 2 = 0 := of_decide_eq_true hfq.symm
          have HG2 := Lib.hid (hg.right (by omega) hpo hqe)
          have hms : p + q / 2 < p + q := by omega
          have HCC : Hid True := trivial
          have HMM : Hid True := trivial
          clear hg he hfp hfq hpo hqe
          go_wp2_with (first
          | (go_at_call 166; (with_reducible refine (HEp.out _ extA).mono ?_); rintro e w' ⟨rfl, hE⟩)
          | (go_at_call 166; (with_reducible refine (HEq.out _ extA).mono ?_); rintro e w' ⟨rfl, hE⟩)
          | (go_at_call 167; (with_reducible refine (HHp.out _ extA).mono ?_); rintro e w' ⟨na, nc, rfl, hCp, hE⟩)
          | (go_at_call 167; (with_reducible refine (HHq.out _ extA).mono ?_); rintro e w' ⟨ma, mc, rfl, hCq, hE⟩)
          | (go_at_call 131; (with_reducible refine (HCC.out _ extA).mono ?_); rintro e w' ⟨rfl, hE⟩)
          | (go_at_call 152; (with_reducible refine (HMM.out _ extA).mono ?_); rintro e w' ⟨na, nc, rfl, hCp, hE⟩))
          have hEE : Ext wr w' := extA
          have hP2 := HP.out.ext hEE
          have hQ2 := hCq
          refine ⟨⟨_, _, _, by go_num, HG2.out, ⟨_, _, rfl, hP2⟩, ⟨_, _, rfl, hQ2⟩, HE.out.trans hEE⟩, ?_⟩
          show natOf w' _ + natOf w' _ < natOf wr _ + natOf wr _
          rw [HM.out, natOf_eq hP2, natOf_eq hQ2]
          exact hms
      · have hpe : p % 2 = 0 := of_decide_eq_true hfp.symm
        cases fq
        · have hqo : q % 2 ≠ 0 := fun e => by rw [e] at hfq; simp at hfq
          have HG2 := Lib.hid (hg.left (by omega) hpe hqo)
          have hms : p / 2 + q < p + q := by omega
          have HCC : Hid True := trivial
          have HMM : Hid True := trivial
          clear hg he hfp hfq hpe hqo
          go_wp2_with (first
          | (go_at_call 166; (with_reducible refine (HEp.out _ extA).mono ?_); rintro e w' ⟨rfl, hE⟩)
          | (go_at_call 166; (with_reducible refine (HEq.out _ extA).mono ?_); rintro e w' ⟨rfl, hE⟩)
          | (go_at_call 167; (with_reducible refine (HHp.out _ extA).mono ?_); rintro e w' ⟨na, nc, rfl, hCp, hE⟩)
          | (go_at_call 167; (with_reducible refine (HHq.out _ extA).mono ?_); rintro e w' ⟨ma, mc, rfl, hCq, hE⟩)
          | (go_at_call 131; (with_reducible refine (HCC.out _ extA).mono ?_); rintro e w' ⟨rfl, hE⟩)
          | (go_at_call 152; (with_reducible refine (HMM.out _ extA).mono ?_); rintro e w' ⟨na, nc, rfl, hCp, hE⟩))
          have hEE : Ext wr w' := extA
          have hP2 := hCp
          have hQ2 := HQ.out.ext hEE
          refine ⟨⟨_, _, _, by go_num, HG2.out, ⟨_, _, rfl, hP2⟩, ⟨_, _, rfl, hQ2⟩, HE.out.trans hEE⟩, ?_⟩
          show natOf w' _ + natOf w' _ < natOf wr _ + natOf wr _
          rw [HM.out, natOf_eq hP2, natOf_eq hQ2]
          exact hms
        · have hqe : q % 2 = 0 := of_decide_eq_true hfq.symm
          have HG2 := Lib.hid (hg.both (by omega) hpe hqe)
          have hms : p / 2 + q / 2 < p + q := by omega
          have HCC : Hid True := trivial
          have HMM : Hid True := trivial
          clear hg he hfp hfq hpe hqe
          go_wp2_with (first
          | (go_at_call 166; (with_reducible refine (HEp.out _ extA).mono ?_); rintro e w' ⟨rfl, hE⟩)
          | (go_at_call 166; (with_reducible refine (HEq.out _ extA).mono ?_); rintro e w' ⟨rfl, hE⟩)
          | (go_at_call 167; (with_reducible refine (HHp.out _ extA).mono ?_); rintro e w' ⟨na, nc, rfl, hCp, hE⟩)
          | (go_at_call 167; (with_reducible refine (HHq.out _ extA).mono ?_); rintro e w' ⟨ma, mc, rfl, hCq, hE⟩)
          | (go_at_call 131; (with_reducible refine (HCC.out _ extA).mono ?_); rintro e w' ⟨rfl, hE⟩)
          | (go_at_call 152; (with_reducible refine (HMM.out _ extA).mono ?_); rintro e w' ⟨na, nc, rfl, hCp, hE⟩))
          have hEE : Ext wr w' := extA
          have hP2 := hCp.ext hE
          have hQ2 := hCq
          refine ⟨⟨_, _, _, by go_num, HG2.out, ⟨_, _, rfl, hP2⟩, ⟨_, _, rfl, hQ2⟩, HE.out.trans hEE⟩, ?_⟩
          show natOf w' _ + natOf w' _ < natOf wr _ + natOf wr _
          rw [HM.out, natOf_eq hP2, natOf_eq hQ2]
          exact hms
end Go.Proofs.YtdejgaiocjfhjaaGreatDoor
namespace Go.Proofs.YtdejgaiocjfhjaaGreatDoor
open Go.RowKit
theorem owns_one (x : Nat) (w : World) : OwnsN .i64 3 (w.alloc (.cells #[.int .i64 (x : Int)] 3)) (.slice (some ⟨w.heap.size, 0, none⟩) [x].length 1) [x] :=
  ownsN_of (l := [x]) (cur := #[.int .i64 (x : Int)]) (by show (w.heap.push _)[w.heap.size]? = _; exact Array.getElem?_push_size) (Nat.le_refl _) (by unfold maxLen; omega) rfl (fun j hj => by
    have hj0 : j = 0 := by simpa using hj
    subst hj0; rfl)
theorem cells_one' (x : Nat) (w : World) : CellsN .i64 (w.alloc (.cells #[.int .i64 (x : Int)] 3)) (some ⟨w.heap.size, 0, none⟩) [x] := by
  obtain ⟨a, cap, e, h, _⟩ := (owns_one x w).reads
  cases e
  exact h
theorem OwnsN.cells {k : IntKind} {t : TypeId} {w : World} {a : Option Addr} {n c : Nat} {l : List Nat} (h : OwnsN k t w (.slice a n c) l) : CellsN k w a l := by
  obtain ⟨a', c', e, h1, _⟩ := h.reads
  cases e
  exact h1
structure QuoI (B : Nat) (a : List Nat) (m i r : Nat) (q : List Nat) : Prop where
  ov : OverI B a m i r q
  zr : ∀ j, j < i → q.getD j 0 = 0
theorem QuoI.start {B : Nat} (hB : 2 ≤ B) (a : List Nat) {m : Nat} (hm : 0 < m) : QuoI B a m a.length 0 (List.replicate a.length 0) :=
  ⟨OverI.start hB a hm, fun j hj => by rw [List.getD_eq_getElem?_getD, List.getElem?_replicate]; split <;> rfl⟩
theorem QuoI.skip {B : Nat} (hB : 2 ≤ B) {a : List Nat} (ha : OkB B a) {m i r : Nat} {q : List Nat} (h : QuoI B a m (i + 1) r q) (hi : i < a.length) (hs : a.getD i 0 + B * r < m) : QuoI B a m i (a.getD i 0 + B * r) q := by
  obtain ⟨_, h2⟩ := h.ov.next hB ha hi
  rw [Nat.mod_eq_of_lt hs, Nat.div_eq_of_lt hs] at h2
  have e : q.set i 0 = q := by
    apply List.ext_getElem?
    intro j
    rw [List.getElem?_set]
    by_cases hj : i = j
    · subst hj
      have hl : i < q.length := by rw [h.ov.len]; exact hi
      have hz := h.zr i (by omega)
      rw [List.getD_eq_getElem?_getD, List.getElem?_eq_getElem hl] at hz
      rw [if_pos rfl, if_pos hl, List.getElem?_eq_getElem hl]
      exact congrArg some hz.symm
    · rw [if_neg hj]
  rw [e] at h2
  exact ⟨h2, fun j hj => h.zr j (by omega)⟩
theorem QuoI.step {B : Nat} (hB : 2 ≤ B) {a : List Nat} (ha : OkB B a) {m i r x : Nat} {q : List Nat} (h : QuoI B a m (i + 1) r q) (hi : i < a.length)
    (h1 : m * x ≤ a.getD i 0 + B * r) (h2 : a.getD i 0 + B * r < m * (x + 1)) : QuoI B a m i (a.getD i 0 + B * r - m * x) (q.set i x) := by
  obtain ⟨_, h3⟩ := h.ov.next hB ha hi
  have e1 : (a.getD i 0 + B * r) / m = x := by
    refine Nat.div_eq_of_lt_le ?_ ?_
    · rw [Nat.mul_comm x m]; exact h1
    · rw [Nat.mul_comm (x + 1) m]; exact h2
  have e2 : (a.getD i 0 + B * r) % m = a.getD i 0 + B * r - m * x := by
    have e := Nat.div_add_mod (a.getD i 0 + B * r) m
    rw [e1] at e
    omega
  rw [e1, e2] at h3
  refine ⟨h3, fun j hj => ?_⟩
  rw [List.getD_eq_getElem?_getD, List.getElem?_set, if_neg (by omega), ← List.getD_eq_getElem?_getD]
  exact h.zr j (by omega)
end Go.Proofs.YtdejgaiocjfhjaaGreatDoor
namespace Go.Proofs.YtdejgaiocjfhjaaGreatDoor
open Go.RowKit
end Go.Proofs.YtdejgaiocjfhjaaGreatDoor
namespace Go.Proofs.YtdejgaiocjfhjaaGreatDoor
open Go.RowKit
theorem lenR_pos {x : Nat} (h : x ≠ 0) : 0 < (toB 1000000 x).length := by rw [toB_pos (by omega) h]; simp
structure ShaW (x y : Nat) (w0 : World) (va vb : Value) (a b : Nat) (w : World) : Prop where
  g : Nat.gcd a b = Nat.gcd x y
  la : (toB 1000000 a).length ≤ 100
  lb : (toB 1000000 b).length ≤ 100
  a : ∃ pa pc, va = .slice pa (toB 1000000 a).length pc ∧ CellsN .i64 w pa (toB 1000000 a)
  b : ∃ qa qc, vb = .slice qa (toB 1000000 b).length qc ∧ CellsN .i64 w qa (toB 1000000 b)
  e : Ext w0 w
end Go.Proofs.YtdejgaiocjfhjaaGreatDoor
namespace Go.Proofs
open Go.Shelf
def Tryz.lays169_ren : Go.Shelf.Ren := ⟨fun | 169 => 144 | n => n, fun | 70 => 173 | 9 => 9 | 0 => 0 | 72 => 176 | 37 => 174 | 127 => 195 | 3 => 3 | 5 => 5 | n => n, fun | n => n⟩
theorem Tryz.lays169 : Go.Proofs.Lays.n169 Tryz.prog Tryz.lays169_ren := {
  mixed := by kernel_rfl
  f169 := Tryz.func144.trans (congrArg some (by kernel_rfl))
  t0 := Tryz.underlying0
  a0 := Tryz.isAgg0
  z0 := Tryz.sizeOf0
  v0 := Tryz.zeroValue0
  t3 := Tryz.underlying3
  a3 := Tryz.isAgg3
  z3 := Tryz.sizeOf3
  v3 := Tryz.zeroValue3
  t9 := Tryz.underlying9
  a9 := Tryz.isAgg9
  z9 := Tryz.sizeOf9
  v9 := Tryz.zeroValue9
  t37 := Tryz.underlying174
  a37 := Tryz.isAgg174
  z37 := Tryz.sizeOf174
  v37 := Tryz.zeroValue174
  t70 := Tryz.underlying173
  a70 := Tryz.isAgg173
  z70 := Tryz.sizeOf173
  v70 := Tryz.zeroValue173
  t72 := Tryz.underlying176
  a72 := Tryz.isAgg176
  z72 := Tryz.sizeOf176
  v72 := Tryz.zeroValue176
  t127 := Tryz.underlying195
  a127 := Tryz.isAgg195
  z127 := Tryz.sizeOf195
  v127 := Tryz.zeroValue195 }
theorem Tryz.Builder_Extra_169 : Builder.Extra Tryz.prog Tryz.lays169_ren := {
  sizeBuilder := by kernel_rfl
  liesBuilder := by kernel_rfl
  t5 := Tryz.underlying5
  a5 := Tryz.isAgg5
  z5 := Tryz.sizeOf5
  v5 := Tryz.zeroValue5
  infoByte := by kernel_rfl
  cellsByte := by kernel_rfl
  sizeByte := by kernel_rfl
  neB5 := by decide }
def Tryz.lays160_ren : Go.Shelf.Ren := ⟨fun | 160 => 161 | 232 => 182 | 231 => 181 | 227 => 183 | 234 => 185 | 233 => 184 | 236 => 187 | 235 => 186 | 228 => 208 | 271 => 211 | 151 => 210 | 197 => 209 | 120 => 227 | 152 => 226 | 260 => 225 | 137 => 238 | 119 => 239 | 224 => 206 | 225 => 205 | 217 => 204 | 266 => 223 | n => n, fun | 9 => 9 | 4 => 4 | 3 => 3 | 5 => 5 | 117 => 206 | 116 => 205 | 0 => 0 | 124 => 209 | 21 => 21 | 105 => 231 | 46 => 223 | 119 => 254 | 139 => 257 | 138 => 256 | n => n, fun | 3 => 2 | 4 => 3 | n => n⟩
theorem Tryz.lays160 : Go.Proofs.Lays.n160 Tryz.prog Tryz.lays160_ren := {
  mixed := by kernel_rfl
  f119 := Tryz.func239.trans (congrArg some (by kernel_rfl))
  f120 := Tryz.func227.trans (congrArg some (by kernel_rfl))
  f137 := Tryz.func238.trans (congrArg some (by kernel_rfl))
  f151 := Tryz.func210.trans (congrArg some (by kernel_rfl))
  f152 := Tryz.func226.trans (congrArg some (by kernel_rfl))
  f160 := Tryz.func161.trans (congrArg some (by kernel_rfl))
  f197 := Tryz.func209.trans (congrArg some (by kernel_rfl))
  f217 := Tryz.func204.trans (congrArg some (by kernel_rfl))
  f224 := Tryz.func206.trans (congrArg some (by kernel_rfl))
  f225 := Tryz.func205.trans (congrArg some (by kernel_rfl))
  f227 := Tryz.func183.trans (congrArg some (by kernel_rfl))
  f228 := Tryz.func208.trans (congrArg some (by kernel_rfl))
  f231 := Tryz.func181.trans (congrArg some (by kernel_rfl))
  f232 := Tryz.func182.trans (congrArg some (by kernel_rfl))
  f233 := Tryz.func184.trans (congrArg some (by kernel_rfl))
  f234 := Tryz.func185.trans (congrArg some (by kernel_rfl))
  f235 := Tryz.func186.trans (congrArg some (by kernel_rfl))
  f236 := Tryz.func187.trans (congrArg some (by kernel_rfl))
  f260 := Tryz.func225.trans (congrArg some (by kernel_rfl))
  f266 := Tryz.func223.trans (congrArg some (by kernel_rfl))
  f271 := Tryz.func211.trans (congrArg some (by kernel_rfl))
  t0 := Tryz.underlying0
  a0 := Tryz.isAgg0
  z0 := Tryz.sizeOf0
  v0 := Tryz.zeroValue0
  t3 := Tryz.underlying3
  a3 := Tryz.isAgg3
  z3 := Tryz.sizeOf3
  v3 := Tryz.zeroValue3
  t4 := Tryz.underlying4
  a4 := Tryz.isAgg4
  z4 := Tryz.sizeOf4
  v4 := Tryz.zeroValue4
  t5 := Tryz.underlying5
  a5 := Tryz.isAgg5
  z5 := Tryz.sizeOf5
  v5 := Tryz.zeroValue5
  t9 := Tryz.underlying9
  a9 := Tryz.isAgg9
  z9 := Tryz.sizeOf9
  v9 := Tryz.zeroValue9
  t21 := Tryz.underlying21
  a21 := Tryz.isAgg21
  z21 := Tryz.sizeOf21
  v21 := Tryz.zeroValue21
  t46 := Tryz.underlying223
  a46 := Tryz.isAgg223
  z46 := Tryz.sizeOf223
  v46 := Tryz.zeroValue223
  t105 := Tryz.underlying231
  a105 := Tryz.isAgg231
  z105 := Tryz.sizeOf231
  v105 := Tryz.zeroValue231
  t116 := Tryz.underlying205
  a116 := Tryz.isAgg205
  z116 := Tryz.sizeOf205
  t117 := Tryz.underlying206
  a117 := Tryz.isAgg206
  z117 := Tryz.sizeOf206
  v117 := Tryz.zeroValue206
  t119 := Tryz.underlying254
  a119 := Tryz.isAgg254
  z119 := Tryz.sizeOf254
  t124 := Tryz.underlying209
  a124 := Tryz.isAgg209
  z124 := Tryz.sizeOf209
  v124 := Tryz.zeroValue209
  t138 := Tryz.underlying256
  a138 := Tryz.isAgg256
  z138 := Tryz.sizeOf256
  v138 := Tryz.zeroValue256
  t139 := Tryz.underlying257
  a139 := Tryz.isAgg257
  z139 := Tryz.sizeOf257
  v139 := Tryz.zeroValue257
  g3 := by kernel_rfl
  g4 := by kernel_rfl }
def Tryz.lays103_ren : Go.Shelf.Ren := ⟨fun | 103 => 160 | 210 => 180 | 206 => 172 | n => n, fun | 9 => 9 | 4 => 4 | 24 => 186 | 3 => 3 | n => n, fun | n => n⟩
theorem Tryz.lays103 : Go.Proofs.Lays.n103 Tryz.prog Tryz.lays103_ren := {
  mixed := by kernel_rfl
  f103 := Tryz.func160.trans (congrArg some (by kernel_rfl))
  f206 := Tryz.func172.trans (congrArg some (by kernel_rfl))
  f210 := Tryz.func180.trans (congrArg some (by kernel_rfl))
  t3 := Tryz.underlying3
  a3 := Tryz.isAgg3
  z3 := Tryz.sizeOf3
  v3 := Tryz.zeroValue3
  t4 := Tryz.underlying4
  a4 := Tryz.isAgg4
  z4 := Tryz.sizeOf4
  v4 := Tryz.zeroValue4
  t9 := Tryz.underlying9
  a9 := Tryz.isAgg9
  z9 := Tryz.sizeOf9
  v9 := Tryz.zeroValue9
  t24 := Tryz.underlying186
  a24 := Tryz.isAgg186
  z24 := Tryz.sizeOf186
  v24 := Tryz.zeroValue186 }
open Go.RowKit in
theorem Tryz.strings_CutPrefix (s p : ByteArray) (w : World) :
    Calls Tryz.prog 160 #[.string s, .string p] w fun e w' => e = .returned (.tuple #[.string ⟨(Lib.trimPrefix s.data.toList p.data.toList).toArray⟩, .bool (Lib.hasPrefix s.data.toList p.data.toList)]) ∧ w' = w := Any.strings_CutPrefix Tryz.lays103 s p w
open Go.RowKit in
theorem Tryz.Builder_String_any_k (B b : Nat) (l : List UInt8) (w : World) (h : Lib.IsBuilderF 176 5 B b (Lib.byteCells l) w) (hBw : B ≤ w.heap.size) :
    Calls Tryz.prog 144 #[.pointer (some ⟨b, 0, none⟩)] w fun e w' => e = .returned (.string ⟨l.toArray⟩) ∧ (Lib.IsBuilderF 176 5 B b (Lib.byteCells l) w' ∧ Below B w w' ∧ Lib.OthersKept 5 (some b) w w') := Any.Builder_String_any_k Tryz.lays169 Tryz.Builder_Extra_169 B b l w h hBw
def Tryz.lays283_ren : Go.Shelf.Ren := ⟨fun | 283 => 193 | n => n, fun | 3 => 3 | 9 => 9 | 4 => 4 | n => n, fun | n => n⟩
theorem Tryz.lays283 : Go.Proofs.Lays.n283 Tryz.prog Tryz.lays283_ren := {
  mixed := by kernel_rfl
  f283 := Tryz.func193.trans (congrArg some (by kernel_rfl))
  t3 := Tryz.underlying3
  a3 := Tryz.isAgg3
  z3 := Tryz.sizeOf3
  v3 := Tryz.zeroValue3
  t4 := Tryz.underlying4
  a4 := Tryz.isAgg4
  z4 := Tryz.sizeOf4
  v4 := Tryz.zeroValue4
  t9 := Tryz.underlying9
  a9 := Tryz.isAgg9
  z9 := Tryz.sizeOf9
  v9 := Tryz.zeroValue9 }
open Go.Lib in
theorem Tryz.internal_strconv_small (i : Nat) (h : i < 100) (w : World) :
    Calls Tryz.prog 193 #[.int .i64 i] w fun e w' => e = .returned (.string ⟨(Lib.decDigits i).toArray⟩) ∧ w' = w := Any.internal_strconv_small Tryz.lays283 i h w
def Tryz.laysM284_ren : Go.Shelf.Ren := ⟨fun | 284 => 194 | 129 => 215 | 317 => 214 | 318 => 216 | n => n, fun | 53 => 161 | 3 => 3 | 212 => 236 | 0 => 0 | 4 => 4 | 46 => 223 | 5 => 5 | 9 => 9 | n => n, fun | 17 => 1 | n => n⟩
theorem Tryz.laysM284 : Go.Proofs.LaysM.n284 Tryz.prog Tryz.laysM284_ren := {
  mixed := by kernel_rfl
  f129 := Tryz.func215.trans (congrArg some (by kernel_rfl))
  f284 := Tryz.func194.trans (congrArg some (by kernel_rfl))
  f317 := Tryz.func214.trans (congrArg some (by kernel_rfl))
  f318 := Tryz.func216.trans (congrArg some (by kernel_rfl))
  t0 := Tryz.underlying0
  a0 := Tryz.isAgg0
  z0 := Tryz.sizeOf0
  v0 := Tryz.zeroValue0
  t3 := Tryz.underlying3
  a3 := Tryz.isAgg3
  z3 := Tryz.sizeOf3
  v3 := Tryz.zeroValue3
  t4 := Tryz.underlying4
  a4 := Tryz.isAgg4
  z4 := Tryz.sizeOf4
  v4 := Tryz.zeroValue4
  t5 := Tryz.underlying5
  a5 := Tryz.isAgg5
  z5 := Tryz.sizeOf5
  v5 := Tryz.zeroValue5
  t9 := Tryz.underlying9
  a9 := Tryz.isAgg9
  z9 := Tryz.sizeOf9
  v9 := Tryz.zeroValue9
  t46 := Tryz.underlying223
  a46 := Tryz.isAgg223
  z46 := Tryz.sizeOf223
  v46 := Tryz.zeroValue223
  t53 := Tryz.underlying161
  a53 := Tryz.isAgg161
  z53 := Tryz.sizeOf161
  v53 := Tryz.zeroValue161
  t212 := Tryz.underlying236
  a212 := Tryz.isAgg236
  z212 := Tryz.sizeOf236
  v212 := Tryz.zeroValue236
  g17 := by kernel_rfl
  i0 := by kernel_rfl
  i3 := by kernel_rfl
  i4 := by kernel_rfl
  i5 := by kernel_rfl
  i9 := by kernel_rfl
  i46 := by kernel_rfl
  i53 := by kernel_rfl
  i212 := by kernel_rfl
  m17 := by kernel_rfl }
open Go.Lib in
theorem Tryz.internal_strconv_numDigits (u : Nat) (h1 : 1 ≤ u) (h2 : u < 18446744073709551616) (w : World) (htab : Lib.TabIs Tryz.prog w "internal/strconv.uint64pow10" .u64 Lib.pow10Tab) :
    Calls Tryz.prog 194 #[.int .u64 u] w fun e w' => e = .returned (.int .i64 (Lib.nDigits u)) ∧ w' = w := Any.internal_strconv_numDigits Tryz.laysM284 u h1 h2 w htab
def Tryz.lays285_ren : Go.Shelf.Ren := ⟨fun | 285 => 195 | n => n, fun | 37 => 174 | 53 => 161 | 3 => 3 | 4 => 4 | 51 => 237 | 9 => 9 | 5 => 5 | 0 => 0 | n => n, fun | n => n⟩
theorem Tryz.lays285 : Go.Proofs.Lays.n285 Tryz.prog Tryz.lays285_ren := {
  mixed := by kernel_rfl
  f285 := Tryz.func195.trans (congrArg some (by kernel_rfl))
  t0 := Tryz.underlying0
  a0 := Tryz.isAgg0
  z0 := Tryz.sizeOf0
  v0 := Tryz.zeroValue0
  t3 := Tryz.underlying3
  a3 := Tryz.isAgg3
  z3 := Tryz.sizeOf3
  v3 := Tryz.zeroValue3
  t4 := Tryz.underlying4
  a4 := Tryz.isAgg4
  z4 := Tryz.sizeOf4
  v4 := Tryz.zeroValue4
  t5 := Tryz.underlying5
  a5 := Tryz.isAgg5
  z5 := Tryz.sizeOf5
  v5 := Tryz.zeroValue5
  t9 := Tryz.underlying9
  a9 := Tryz.isAgg9
  z9 := Tryz.sizeOf9
  v9 := Tryz.zeroValue9
  t37 := Tryz.underlying174
  a37 := Tryz.isAgg174
  z37 := Tryz.sizeOf174
  v37 := Tryz.zeroValue174
  t51 := Tryz.underlying237
  a51 := Tryz.isAgg237
  z51 := Tryz.sizeOf237
  v51 := Tryz.zeroValue237
  t53 := Tryz.underlying161
  a53 := Tryz.isAgg161
  z53 := Tryz.sizeOf161
  v53 := Tryz.zeroValue161 }
open Go.RowKit Go.Sort Go.Lib in
theorem Tryz.internal_strconv_formatBase10 (blk off cap : Nat) (u : Nat) (d : Array UInt8) (w : World) (hH : Holds (fun (b : UInt8) => Value.int .u8 (b.toNat : Int)) w blk off d) (hu : u < 10 ^ d.size) (hu64 : u < 18446744073709551616) (hsz : d.size < 4611686018427387904) :
    Calls Tryz.prog 195 #[.slice (some ⟨blk, off, none⟩) d.size cap, .int .u64 u] w fun e w' =>
      e = .returned (.tuple #[]) ∧ ∃ (n v' : Nat) (dk : Array UInt8), w' = (putRow (fun (b : UInt8) => Value.int .u8 (b.toNat : Int)) w blk off dk).drewN n ∧ FmtInv d.size u 0 v' dk := Any.internal_strconv_formatBase10 Tryz.lays285 blk off cap u d w hH hu hu64 hsz
def Tryz.laysPu14_ren : Go.Shelf.Ren := ⟨fun | 14 => 188 | 16 => 212 | 17 => 213 | 19 => 228 | 20 => 229 | 21 => 230 | 22 => 231 | 23 => 232 | 24 => 233 | 25 => 240 | 27 => 96 | 26 => 241 | 28 => 133 | 29 => 168 | 30 => 193 | 31 => 194 | 32 => 195 | 33 => 196 | 35 => 215 | 34 => 214 | 36 => 216 | 37 => 217 | 38 => 218 | 39 => 234 | 40 => 235 | n => n, fun | 9 => 9 | 3 => 3 | 22 => 161 | 24 => 178 | 25 => 210 | 4 => 4 | 34 => 246 | 5 => 5 | 36 => 223 | 37 => 174 | 0 => 0 | 39 => 248 | 21 => 21 | 44 => 260 | 47 => 195 | 50 => 266 | 48 => 264 | 2 => 2 | 52 => 214 | 55 => 217 | 59 => 236 | 60 => 237 | 20 => 20 | 61 => 238 | 65 => 262 | 66 => 263 | 67 => 180 | n => n, fun | 0 => 4 | 1 => 5 | 2 => 1 | 3 => 6 | 4 => 7 | n => n⟩
theorem Tryz.laysPu14 : Go.Proofs.LaysPu.n14 Tryz.prog Tryz.laysPu14_ren := {
  mixed := by kernel_rfl
  f14 := Tryz.func188.trans (congrArg some (by kernel_rfl))
  f16 := Tryz.func212.trans (congrArg some (by kernel_rfl))
  f17 := Tryz.func213.trans (congrArg some (by kernel_rfl))
  f19 := Tryz.func228.trans (congrArg some (by kernel_rfl))
  f20 := Tryz.func229.trans (congrArg some (by kernel_rfl))
  f21 := Tryz.func230.trans (congrArg some (by kernel_rfl))
  f22 := Tryz.func231.trans (congrArg some (by kernel_rfl))
  f23 := Tryz.func232.trans (congrArg some (by kernel_rfl))
  f24 := Tryz.func233.trans (congrArg some (by kernel_rfl))
  f25 := Tryz.func240.trans (congrArg some (by kernel_rfl))
  f26 := Tryz.func241.trans (congrArg some (by kernel_rfl))
  f27 := Tryz.func96.trans (congrArg some (by kernel_rfl))
  f28 := Tryz.func133.trans (congrArg some (by kernel_rfl))
  f29 := Tryz.func168.trans (congrArg some (by kernel_rfl))
  f30 := Tryz.func193.trans (congrArg some (by kernel_rfl))
  f31 := Tryz.func194.trans (congrArg some (by kernel_rfl))
  f32 := Tryz.func195.trans (congrArg some (by kernel_rfl))
  f33 := Tryz.func196.trans (congrArg some (by kernel_rfl))
  f34 := Tryz.func214.trans (congrArg some (by kernel_rfl))
  f35 := Tryz.func215.trans (congrArg some (by kernel_rfl))
  f36 := Tryz.func216.trans (congrArg some (by kernel_rfl))
  f37 := Tryz.func217.trans (congrArg some (by kernel_rfl))
  f38 := Tryz.func218.trans (congrArg some (by kernel_rfl))
  f39 := Tryz.func234.trans (congrArg some (by kernel_rfl))
  f40 := Tryz.func235.trans (congrArg some (by kernel_rfl))
  t0 := Tryz.underlying0
  a0 := Tryz.isAgg0
  z0 := Tryz.sizeOf0
  v0 := Tryz.zeroValue0
  i0 := by kernel_rfl
  t2 := Tryz.underlying2
  a2 := Tryz.isAgg2
  z2 := Tryz.sizeOf2
  v2 := Tryz.zeroValue2
  i2 := by kernel_rfl
  t3 := Tryz.underlying3
  a3 := Tryz.isAgg3
  z3 := Tryz.sizeOf3
  v3 := Tryz.zeroValue3
  i3 := by kernel_rfl
  t4 := Tryz.underlying4
  a4 := Tryz.isAgg4
  z4 := Tryz.sizeOf4
  v4 := Tryz.zeroValue4
  i4 := by kernel_rfl
  t5 := Tryz.underlying5
  a5 := Tryz.isAgg5
  z5 := Tryz.sizeOf5
  v5 := Tryz.zeroValue5
  i5 := by kernel_rfl
  t9 := Tryz.underlying9
  a9 := Tryz.isAgg9
  z9 := Tryz.sizeOf9
  v9 := Tryz.zeroValue9
  i9 := by kernel_rfl
  t20 := Tryz.underlying20
  a20 := Tryz.isAgg20
  z20 := Tryz.sizeOf20
  v20 := Tryz.zeroValue20
  i20 := by kernel_rfl
  t21 := Tryz.underlying21
  a21 := Tryz.isAgg21
  z21 := Tryz.sizeOf21
  v21 := Tryz.zeroValue21
  i21 := by kernel_rfl
  t22 := Tryz.underlying161
  a22 := Tryz.isAgg161
  z22 := Tryz.sizeOf161
  v22 := Tryz.zeroValue161
  i22 := by kernel_rfl
  t24 := Tryz.underlying178
  a24 := Tryz.isAgg178
  z24 := Tryz.sizeOf178
  v24 := Tryz.zeroValue178
  i24 := by kernel_rfl
  t25 := Tryz.underlying210
  a25 := Tryz.isAgg210
  z25 := Tryz.sizeOf210
  v25 := Tryz.zeroValue210
  i25 := by kernel_rfl
  t34 := Tryz.underlying246
  a34 := Tryz.isAgg246
  z34 := Tryz.sizeOf246
  v34 := Tryz.zeroValue246
  i34 := by kernel_rfl
  c34 := by kernel_rfl
  t36 := Tryz.underlying223
  a36 := Tryz.isAgg223
  z36 := Tryz.sizeOf223
  v36 := Tryz.zeroValue223
  i36 := by kernel_rfl
  t37 := Tryz.underlying174
  a37 := Tryz.isAgg174
  z37 := Tryz.sizeOf174
  v37 := Tryz.zeroValue174
  i37 := by kernel_rfl
  t39 := Tryz.underlying248
  a39 := Tryz.isAgg248
  z39 := Tryz.sizeOf248
  v39 := Tryz.zeroValue248
  i39 := by kernel_rfl
  t44 := Tryz.underlying260
  a44 := Tryz.isAgg260
  z44 := Tryz.sizeOf260
  v44 := Tryz.zeroValue260
  i44 := by kernel_rfl
  t47 := Tryz.underlying195
  a47 := Tryz.isAgg195
  z47 := Tryz.sizeOf195
  v47 := Tryz.zeroValue195
  i47 := by kernel_rfl
  t48 := Tryz.underlying264
  a48 := Tryz.isAgg264
  z48 := Tryz.sizeOf264
  v48 := Tryz.zeroValue264
  i48 := by kernel_rfl
  t50 := Tryz.underlying266
  a50 := Tryz.isAgg266
  z50 := Tryz.sizeOf266
  v50 := Tryz.zeroValue266
  i50 := by kernel_rfl
  t52 := Tryz.underlying214
  a52 := Tryz.isAgg214
  z52 := Tryz.sizeOf214
  v52 := Tryz.zeroValue214
  i52 := by kernel_rfl
  t55 := Tryz.underlying217
  a55 := Tryz.isAgg217
  z55 := Tryz.sizeOf217
  v55 := Tryz.zeroValue217
  i55 := by kernel_rfl
  t59 := Tryz.underlying236
  a59 := Tryz.isAgg236
  z59 := Tryz.sizeOf236
  v59 := Tryz.zeroValue236
  i59 := by kernel_rfl
  t60 := Tryz.underlying237
  a60 := Tryz.isAgg237
  z60 := Tryz.sizeOf237
  v60 := Tryz.zeroValue237
  i60 := by kernel_rfl
  t61 := Tryz.underlying238
  a61 := Tryz.isAgg238
  z61 := Tryz.sizeOf238
  t65 := Tryz.underlying262
  a65 := Tryz.isAgg262
  z65 := Tryz.sizeOf262
  v65 := Tryz.zeroValue262
  i65 := by kernel_rfl
  t66 := Tryz.underlying263
  a66 := Tryz.isAgg263
  z66 := Tryz.sizeOf263
  v66 := Tryz.zeroValue263
  i66 := by kernel_rfl
  t67 := Tryz.underlying180
  a67 := Tryz.isAgg180
  z67 := Tryz.sizeOf180
  v67 := Tryz.zeroValue180
  i67 := by kernel_rfl
  g0 := by kernel_rfl
  m0 := by kernel_rfl
  g1 := by kernel_rfl
  m1 := by kernel_rfl
  g2 := by kernel_rfl
  m2 := by kernel_rfl
  g3 := by kernel_rfl
  m3 := by kernel_rfl
  g4 := by kernel_rfl
  m4 := by kernel_rfl }
open Go.RowKit in
theorem Tryz.strconv_ParseUint_10_at64_ok (s : ByteArray) (hmax : s.size ≤ 9223372036854775806) (u : Nat) (h : Lib.parseUintB 64 s.data.toList = .ok u) (w : World) :
    Calls Tryz.prog 188 #[.string s, .int .i64 10, .int .i64 64] w fun e w' => e = .returned (.tuple #[.int .u64 u, .nilIface]) ∧ (w' = w ∨ w' = Lib.bytesWorld w 5 s) := Any.strconv_ParseUint_10_at64_ok Tryz.laysPu14 s hmax u h w
def Tryz.lays145_ren : Go.Shelf.Ren := ⟨fun | 145 => 127 | 220 => 159 | 219 => 179 | 217 => 204 | 225 => 205 | 224 => 206 | 267 => 207 | 266 => 223 | 314 => 224 | n => n, fun | 9 => 9 | 4 => 4 | 59 => 155 | 3 => 3 | 5 => 5 | 46 => 223 | 146 => 240 | 51 => 237 | n => n, fun | 1 => 0 | n => n⟩
theorem Tryz.lays145 : Go.Proofs.Lays.n145 Tryz.prog Tryz.lays145_ren := {
  mixed := by kernel_rfl
  f145 := Tryz.func127.trans (congrArg some (by kernel_rfl))
  f217 := Tryz.func204.trans (congrArg some (by kernel_rfl))
  f219 := Tryz.func179.trans (congrArg some (by kernel_rfl))
  f220 := Tryz.func159.trans (congrArg some (by kernel_rfl))
  f224 := Tryz.func206.trans (congrArg some (by kernel_rfl))
  f225 := Tryz.func205.trans (congrArg some (by kernel_rfl))
  f266 := Tryz.func223.trans (congrArg some (by kernel_rfl))
  f267 := Tryz.func207.trans (congrArg some (by kernel_rfl))
  f314 := Tryz.func224.trans (congrArg some (by kernel_rfl))
  t3 := Tryz.underlying3
  a3 := Tryz.isAgg3
  z3 := Tryz.sizeOf3
  v3 := Tryz.zeroValue3
  t4 := Tryz.underlying4
  a4 := Tryz.isAgg4
  z4 := Tryz.sizeOf4
  v4 := Tryz.zeroValue4
  t5 := Tryz.underlying5
  a5 := Tryz.isAgg5
  z5 := Tryz.sizeOf5
  v5 := Tryz.zeroValue5
  t9 := Tryz.underlying9
  a9 := Tryz.isAgg9
  z9 := Tryz.sizeOf9
  v9 := Tryz.zeroValue9
  t46 := Tryz.underlying223
  a46 := Tryz.isAgg223
  z46 := Tryz.sizeOf223
  v46 := Tryz.zeroValue223
  t51 := Tryz.underlying237
  a51 := Tryz.isAgg237
  z51 := Tryz.sizeOf237
  v51 := Tryz.zeroValue237
  t59 := Tryz.underlying155
  a59 := Tryz.isAgg155
  z59 := Tryz.sizeOf155
  v59 := Tryz.zeroValue155
  t146 := Tryz.underlying240
  a146 := Tryz.isAgg240
  z146 := Tryz.sizeOf240
  v146 := Tryz.zeroValue240
  g1 := by kernel_rfl }
open Go.RowKit Go.Lib in
theorem Tryz.strings_Cut (s sep : ByteArray) (m : Int) (w : World) (hs : s.size < 4294967281) (hm : w.cell? ⟨0, 0, none⟩ = some (.int .i64 m)) :
    Calls Tryz.prog 127 #[.string s, .string sep] w fun e w' => e = .returned (.tuple #[.string ⟨(Lib.cut s.data.toList sep.data.toList).1.toArray⟩, .string ⟨(Lib.cut s.data.toList sep.data.toList).2.1.toArray⟩, .bool (Lib.cut s.data.toList sep.data.toList).2.2]) ∧ ∃ n, w' = w.drewN n := Any.strings_Cut Tryz.lays145 s sep m w hs hm
def Tryz.lays101_ren : Go.Shelf.Ren := ⟨fun | 101 => 142 | 208 => 170 | 206 => 172 | n => n, fun | 9 => 9 | 4 => 4 | 3 => 3 | n => n, fun | n => n⟩
theorem Tryz.lays101 : Go.Proofs.Lays.n101 Tryz.prog Tryz.lays101_ren := {
  mixed := by kernel_rfl
  f101 := Tryz.func142.trans (congrArg some (by kernel_rfl))
  f206 := Tryz.func172.trans (congrArg some (by kernel_rfl))
  f208 := Tryz.func170.trans (congrArg some (by kernel_rfl))
  t3 := Tryz.underlying3
  a3 := Tryz.isAgg3
  z3 := Tryz.sizeOf3
  v3 := Tryz.zeroValue3
  t4 := Tryz.underlying4
  a4 := Tryz.isAgg4
  z4 := Tryz.sizeOf4
  v4 := Tryz.zeroValue4
  t9 := Tryz.underlying9
  a9 := Tryz.isAgg9
  z9 := Tryz.sizeOf9
  v9 := Tryz.zeroValue9 }
open Go.RowKit Go.Lib in
theorem Tryz.strings_TrimPrefix (s p : ByteArray) (w : World) :
    Calls Tryz.prog 142 #[.string s, .string p] w fun e w' => e = .returned (.string ⟨(Lib.trimPrefix s.data.toList p.data.toList).toArray⟩) ∧ w' = w := Any.strings_TrimPrefix Tryz.lays101 s p w
def Tryz.lays105_ren : Go.Shelf.Ren := ⟨fun | 105 => 177 | 212 => 201 | 99 => 145 | 165 => 202 | 166 => 178 | 170 => 203 | 169 => 144 | 263 => 220 | 264 => 221 | 206 => 172 | 240 => 171 | 241 => 222 | 276 => 197 | 277 => 237 | n => n, fun | 9 => 9 | 3 => 3 | 4 => 4 | 20 => 20 | 0 => 0 | 46 => 223 | 109 => 224 | 5 => 5 | 72 => 176 | 76 => 200 | 51 => 237 | 146 => 240 | 53 => 161 | 148 => 242 | 70 => 173 | 37 => 174 | 75 => 178 | 127 => 195 | 164 => 219 | 80 => 180 | n => n, fun | n => n⟩
theorem Tryz.lays105 : Go.Proofs.Lays.n105 Tryz.prog Tryz.lays105_ren := {
  mixed := by kernel_rfl
  f99 := Tryz.func145.trans (congrArg some (by kernel_rfl))
  f105 := Tryz.func177.trans (congrArg some (by kernel_rfl))
  f165 := Tryz.func202.trans (congrArg some (by kernel_rfl))
  f166 := Tryz.func178.trans (congrArg some (by kernel_rfl))
  f169 := Tryz.func144.trans (congrArg some (by kernel_rfl))
  f170 := Tryz.func203.trans (congrArg some (by kernel_rfl))
  f206 := Tryz.func172.trans (congrArg some (by kernel_rfl))
  f212 := Tryz.func201.trans (congrArg some (by kernel_rfl))
  f240 := Tryz.func171.trans (congrArg some (by kernel_rfl))
  f241 := Tryz.func222.trans (congrArg some (by kernel_rfl))
  f263 := Tryz.func220.trans (congrArg some (by kernel_rfl))
  f264 := Tryz.func221.trans (congrArg some (by kernel_rfl))
  f276 := Tryz.func197.trans (congrArg some (by kernel_rfl))
  f277 := Tryz.func237.trans (congrArg some (by kernel_rfl))
  t0 := Tryz.underlying0
  a0 := Tryz.isAgg0
  z0 := Tryz.sizeOf0
  v0 := Tryz.zeroValue0
  t3 := Tryz.underlying3
  a3 := Tryz.isAgg3
  z3 := Tryz.sizeOf3
  v3 := Tryz.zeroValue3
  t4 := Tryz.underlying4
  a4 := Tryz.isAgg4
  z4 := Tryz.sizeOf4
  v4 := Tryz.zeroValue4
  t5 := Tryz.underlying5
  a5 := Tryz.isAgg5
  z5 := Tryz.sizeOf5
  v5 := Tryz.zeroValue5
  t9 := Tryz.underlying9
  a9 := Tryz.isAgg9
  z9 := Tryz.sizeOf9
  v9 := Tryz.zeroValue9
  t20 := Tryz.underlying20
  a20 := Tryz.isAgg20
  z20 := Tryz.sizeOf20
  v20 := Tryz.zeroValue20
  t37 := Tryz.underlying174
  a37 := Tryz.isAgg174
  z37 := Tryz.sizeOf174
  v37 := Tryz.zeroValue174
  t46 := Tryz.underlying223
  a46 := Tryz.isAgg223
  z46 := Tryz.sizeOf223
  v46 := Tryz.zeroValue223
  t51 := Tryz.underlying237
  a51 := Tryz.isAgg237
  z51 := Tryz.sizeOf237
  v51 := Tryz.zeroValue237
  t53 := Tryz.underlying161
  a53 := Tryz.isAgg161
  z53 := Tryz.sizeOf161
  v53 := Tryz.zeroValue161
  t70 := Tryz.underlying173
  a70 := Tryz.isAgg173
  z70 := Tryz.sizeOf173
  v70 := Tryz.zeroValue173
  t72 := Tryz.underlying176
  a72 := Tryz.isAgg176
  z72 := Tryz.sizeOf176
  v72 := Tryz.zeroValue176
  t75 := Tryz.underlying178
  a75 := Tryz.isAgg178
  z75 := Tryz.sizeOf178
  v75 := Tryz.zeroValue178
  t76 := Tryz.underlying200
  a76 := Tryz.isAgg200
  z76 := Tryz.sizeOf200
  v76 := Tryz.zeroValue200
  t109 := Tryz.underlying224
  a109 := Tryz.isAgg224
  z109 := Tryz.sizeOf224
  v109 := Tryz.zeroValue224
  t127 := Tryz.underlying195
  a127 := Tryz.isAgg195
  z127 := Tryz.sizeOf195
  v127 := Tryz.zeroValue195
  t146 := Tryz.underlying240
  a146 := Tryz.isAgg240
  z146 := Tryz.sizeOf240
  v146 := Tryz.zeroValue240
  t148 := Tryz.underlying242
  a148 := Tryz.isAgg242
  z148 := Tryz.sizeOf242
  v148 := Tryz.zeroValue242
  t164 := Tryz.underlying219
  a164 := Tryz.isAgg219
  z164 := Tryz.sizeOf219
  v164 := Tryz.zeroValue219 }
theorem Tryz.Builder_Extra_105 : Builder.Extra Tryz.prog Tryz.lays105_ren := {
  sizeBuilder := by kernel_rfl
  liesBuilder := by kernel_rfl
  t5 := Tryz.underlying5
  a5 := Tryz.isAgg5
  z5 := Tryz.sizeOf5
  v5 := Tryz.zeroValue5
  infoByte := by kernel_rfl
  cellsByte := by kernel_rfl
  sizeByte := by kernel_rfl
  neB5 := by decide }
open Go.RowKit Go.Lib in
theorem Tryz.strings_Repeat (s : ByteArray) (c : Nat) (w : World) (hc : c ≤ 9223372036854775807) (hlen : s.size * c ≤ 140737488355328) :
    Calls Tryz.prog 177 #[.string s, .int .i64 c] w fun e w' => e = .returned (.string ⟨(Lib.repeatL s.data.toList c).toArray⟩) ∧ Below w.heap.size w w' := Any.strings_Repeat Tryz.lays105 Tryz.Builder_Extra_105 s c w hc hlen
end Go.Proofs
namespace Go.Proofs.YtdejgaiocjfhjaaGreatDoor
open Go.Lib (decDigits itoa)
def negS (s : List UInt8) : Bool := s.head? == some 45
def bareS (s : List UInt8) : List UInt8 := if negS s then s.tail else s
def IntS (s : List UInt8) : Prop := CanonL (bareS s) ∧ s ≠ [45, 48]
instance (s : List UInt8) : Decidable (IntS s) := by unfold IntS; infer_instance
def intV (s : List UInt8) : Int := if negS s then -(decV (bareS s) : Int) else decV (bareS s)
def intE (s : List UInt8) : Nat := if ¬ IntS s then 3 else if 60 < (bareS s).length then 11 else 0
theorem intV_abs (s : List UInt8) : (intV s).natAbs = decV (bareS s) := by unfold intV; split <;> omega
theorem canon_pos {s : List UInt8} (h : CanonL s) : negS s = false := by
  unfold negS
  cases s with
  | nil => rfl
  | cons c s =>
    have h1 := h.1 c (List.mem_cons_self ..)
    have h2 : c ≠ 45 := fun e => by rw [e] at h1; simp at h1
    simpa using h2
theorem canon_zero {s : List UInt8} (h : CanonL s) (h0 : decV s = 0) : s = [48] := by
  rw [← canon_back h, h0, digits_small (by omega)]; rfl
theorem bare_pos {s : List UInt8} (h : negS s = false) : bareS s = s := by unfold bareS; rw [h]; rfl
theorem neg_cons {s : List UInt8} (h : negS s = true) : s = 45 :: bareS s := by
  unfold bareS
  rw [if_pos h]
  unfold negS at h
  cases s with
  | nil => cases h
  | cons c s => simp at h; subst h; rfl
theorem int_back {s : List UInt8} (h : IntS s) : itoa (intV s) = s := by
  obtain ⟨h1, h2⟩ := h
  unfold intV
  cases hn : negS s
  · rw [if_neg (by simp), Go.Lib.itoa_nonneg, canon_back h1, bare_pos hn]
  · have h3 := neg_cons hn
    have h4 : decV (bareS s) ≠ 0 := fun e => h2 (by rw [h3, canon_zero h1 e])
    rw [if_pos rfl, Go.Lib.itoa_neg _ (by omega), canon_back h1, ← h3]
theorem itoa_eq (n : Int) : itoa n = if n < 0 then 45 :: decDigits n.natAbs else decDigits n.natAbs := by
  unfold itoa
  split
  · rfl
  · congr 1; omega
theorem itoa_bare (n : Int) : negS (itoa n) = decide (n < 0) ∧ bareS (itoa n) = decDigits n.natAbs := by
  rw [itoa_eq]
  by_cases h : n < 0
  · rw [if_pos h, decide_eq_true h]
    exact ⟨rfl, rfl⟩
  · rw [if_neg h, decide_eq_false h]
    have h1 := canon_pos (canon_digits n.natAbs)
    exact ⟨h1, bare_pos h1⟩
theorem int_of (n : Int) : IntS (itoa n) ∧ intV (itoa n) = n := by
  obtain ⟨h1, h2⟩ := itoa_bare n
  refine ⟨⟨h2 ▸ canon_digits _, ?_⟩, ?_⟩
  · intro e
    rw [e] at h1 h2
    have h3 : n < 0 := by
      have : negS [45, 48] = true := rfl
      rw [this] at h1
      exact of_decide_eq_true h1.symm
    have h4 : decV (bareS [45, 48]) = 0 := by rfl
    rw [h2, (digits_ok _).2.1] at h4
    omega
  · unfold intV
    rw [h1, h2, (digits_ok _).2.1]
    by_cases h : n < 0
    · rw [decide_eq_true h, if_pos rfl]; omega
    · rw [decide_eq_false h, if_neg (by simp)]; omega
def topS (a : List UInt8) : List UInt8 := a.takeWhile (· != 47)
def lowS (a : List UInt8) : List UInt8 := if 47 ∈ a then (a.dropWhile (· != 47)).tail else [49]
def fracE (a : List UInt8) : Nat :=
  if intE (topS a) = 3 ∨ intE (lowS a) = 3 then 3
  else if intE (topS a) ≠ 0 ∨ intE (lowS a) ≠ 0 then 11
  else if 47 ∉ a then 0
  else if negS (lowS a) = true ∨ decV (lowS a) ≤ 1 ∨ Nat.gcd (decV (bareS (topS a))) (decV (lowS a)) ≠ 1 then 3
  else 0
def fracQ (a : List UInt8) : Rat := mkRat (intV (topS a)) (decV (lowS a))
def fracT (q : Rat) : List UInt8 := itoa q.num ++ (if q.den = 1 then [] else 47 :: decDigits q.den)
theorem split_none {a : List UInt8} (h : 47 ∉ a) : topS a = a ∧ lowS a = [49] := by
  refine ⟨?_, by unfold lowS; rw [if_neg h]⟩
  unfold topS
  induction a with
  | nil => rfl
  | cons c a ih =>
    have h1 : c ≠ 47 := fun e => h (by rw [e]; exact List.mem_cons_self ..)
    have h2 : 47 ∉ a := fun e => h (List.mem_cons_of_mem _ e)
    rw [List.takeWhile_cons, if_pos (by simpa using h1), ih h2]
theorem split_app (s t : List UInt8) (h : 47 ∉ s) : topS (s ++ 47 :: t) = s ∧ lowS (s ++ 47 :: t) = t := by
  unfold topS lowS
  rw [if_pos (by simp)]
  induction s with
  | nil => exact ⟨by simp, by simp⟩
  | cons c s ih =>
    have h1 : c ≠ 47 := fun e => h (by rw [e]; exact List.mem_cons_self ..)
    have h2 : 47 ∉ s := fun e => h (List.mem_cons_of_mem _ e)
    obtain ⟨i1, i2⟩ := ih h2
    rw [List.cons_append, List.takeWhile_cons, if_pos (by simpa using h1), List.dropWhile_cons, if_pos (by simpa using h1), i1, i2]
    exact ⟨rfl, rfl⟩
theorem split_some {a : List UInt8} (h : 47 ∈ a) : a = topS a ++ 47 :: lowS a := by
  unfold topS lowS
  rw [if_pos h]
  induction a with
  | nil => cases h
  | cons c a ih =>
    by_cases h1 : c = 47
    · subst h1; simp
    · have h2 : 47 ∈ a := (List.mem_cons.1 h).resolve_left (fun e => h1 e.symm)
      rw [List.takeWhile_cons, if_pos (by simpa using h1), List.dropWhile_cons, if_pos (by simpa using h1), List.cons_append, ← ih h2]
theorem intE_zero {s : List UInt8} (h : intE s = 0) : IntS s ∧ (intV s).natAbs < 10 ^ 60 := by
  unfold intE at h
  split at h
  · cases h
  · rename_i h1
    split at h
    · cases h
    · rename_i h2
      have h1 : IntS s := Decidable.not_not.1 h1
      refine ⟨h1, ?_⟩
      rw [intV_abs]
      exact Nat.lt_of_lt_of_le (decV_lt h1.1.1) (Nat.pow_le_pow_right (by omega) (by omega))
theorem intE_of {n : Int} (h : n.natAbs < 10 ^ 60) : intE (itoa n) = 0 := by
  unfold intE
  rw [if_neg (not_not_intro (int_of n).1), (itoa_bare n).2, if_neg]
  have := (digits_len_le n.natAbs 60 (by omega)).2 h
  omega
theorem intE_ofNat {n : Nat} (h : n < 10 ^ 60) : intE (decDigits n) = 0 := by
  have := intE_of (n := (n : Int)) (by simpa using h)
  rwa [Go.Lib.itoa_nonneg] at this
theorem decV_one : decV [49] = 1 := rfl
theorem frac_parts {a : List UInt8} (h : fracE a = 0) : IntS (topS a) ∧ (intV (topS a)).natAbs < 10 ^ 60 ∧ CanonL (lowS a) ∧
    0 < decV (lowS a) ∧ decV (lowS a) < 10 ^ 60 ∧ Nat.gcd (intV (topS a)).natAbs (decV (lowS a)) = 1 ∧ (47 ∈ a ↔ decV (lowS a) ≠ 1) := by
  unfold fracE at h
  split at h
  · cases h
  · rename_i h1
    split at h
    · cases h
    · rename_i h2
      obtain ⟨h3, h4⟩ := intE_zero (Decidable.not_not.1 fun e => h2 (Or.inl e))
      obtain ⟨h5, h6⟩ := intE_zero (Decidable.not_not.1 fun e => h2 (Or.inr e))
      split at h
      · rename_i h7
        have h8 := (split_none h7).2
        rw [h8]
        refine ⟨h3, h4, by decide, by decide, by decide, by rw [decV_one, Nat.gcd_one_right], ?_⟩
        exact ⟨fun e => absurd e h7, fun e => absurd decV_one e⟩
      · rename_i h7
        split at h
        · cases h
        · rename_i h8
          simp only [not_or, Nat.not_le, Decidable.not_not] at h8 h7
          obtain ⟨k1, k2, k3⟩ := h8
          have k1 : negS (lowS a) = false := by simpa using k1
          have k4 := bare_pos k1
          rw [intV_abs, k4] at h6
          have k5 := h5.1
          rw [k4] at k5
          refine ⟨h3, h4, k5, by omega, h6, by rw [intV_abs]; exact k3, ⟨fun _ => by omega, fun _ => h7⟩⟩
theorem frac_num {a : List UInt8} (h : fracE a = 0) : (fracQ a).num = intV (topS a) ∧ (fracQ a).den = decV (lowS a) := by
  obtain ⟨_, _, _, h4, _, h6, _⟩ := frac_parts h
  unfold fracQ
  rw [Rat.num_mkRat, Rat.den_mkRat, if_neg (by omega), if_neg (by omega), Nat.gcd_comm, h6]
  exact ⟨by simp, by simp⟩
theorem frac_back {a : List UInt8} (h : fracE a = 0) : fracT (fracQ a) = a := by
  obtain ⟨h1, _, h3, _, _, _, h7⟩ := frac_parts h
  obtain ⟨k1, k2⟩ := frac_num h
  unfold fracT
  rw [k1, k2, int_back h1, canon_back h3]
  by_cases hs : 47 ∈ a
  · rw [if_neg (h7.1 hs)]
    exact (split_some hs).symm
  · rw [if_pos (Decidable.not_not.1 fun e => hs (h7.2 e)), List.append_nil]
    exact (split_none hs).1
theorem no_slash (n : Int) : 47 ∉ itoa n := by
  rw [itoa_eq]
  have h1 : (47 : UInt8) ∉ decDigits n.natAbs := fun h => by
    have := (digits_ok n.natAbs).1 47 h
    simp at this
  split
  · intro h
    rcases List.mem_cons.1 h with h | h
    · cases h
    · exact h1 h
  · exact h1
def FitQ (q : Rat) : Prop := q.num.natAbs < 10 ^ 60 ∧ q.den < 10 ^ 60
instance (q : Rat) : Decidable (FitQ q) := by unfold FitQ; infer_instance
theorem frac_fit {a : List UInt8} (h : fracE a = 0) : FitQ (fracQ a) := by
  obtain ⟨_, h2, _, _, h5, _, _⟩ := frac_parts h
  obtain ⟨k1, k2⟩ := frac_num h
  unfold FitQ
  rw [k1, k2]; exact ⟨h2, h5⟩
theorem frac_of {q : Rat} (h : FitQ q) : fracE (fracT q) = 0 ∧ fracQ (fracT q) = q := by
  obtain ⟨h1, h2⟩ := h
  have hr := q.reduced
  have hd := q.den_nz
  have e : topS (fracT q) = itoa q.num ∧ lowS (fracT q) = decDigits q.den ∧ (47 ∈ fracT q ↔ q.den ≠ 1) := by
    unfold fracT
    by_cases h3 : q.den = 1
    · rw [if_pos h3, List.append_nil, h3]
      obtain ⟨a, b⟩ := split_none (no_slash q.num)
      exact ⟨a, b.trans (digits_small (n := 1) (by omega)).symm, ⟨fun e => absurd e (no_slash _), fun e => absurd rfl e⟩⟩
    · rw [if_neg h3]
      obtain ⟨a, b⟩ := split_app (itoa q.num) (decDigits q.den) (no_slash q.num)
      exact ⟨a, b, ⟨fun _ => h3, fun _ => by simp⟩⟩
  obtain ⟨e1, e2, e3⟩ := e
  constructor
  · unfold fracE
    rw [e1, e2, intE_of h1, intE_ofNat h2, if_neg (by simp), if_neg (by simp), (itoa_bare q.num).2, (digits_ok _).2.1, (digits_ok _).2.1]
    split
    · rfl
    · rename_i h4
      rw [if_neg]
      have h5 := e3.1 (Decidable.not_not.1 h4)
      have h6 := canon_pos (canon_digits q.den)
      rintro (h | h | h)
      · rw [h6] at h; cases h
      · omega
      · exact h hr
  · unfold fracQ
    rw [e1, e2, (int_of _).2, (digits_ok _).2.1, Rat.mkRat_self]
theorem frac_inj {a b : List UInt8} (ha : fracE a = 0) (hb : fracE b = 0) (h : fracQ a = fracQ b) : a = b := by
  rw [← frac_back ha, ← frac_back hb, h]
def madeT (q : Rat) : List UInt8 := if FitQ q then fracT q else []
def madeE (q : Rat) : Nat := if FitQ q then 0 else 11
end Go.Proofs.YtdejgaiocjfhjaaGreatDoor
namespace Go.Proofs.YtdejgaiocjfhjaaGreatDoor
open Go.Lib (decDigits itoa)
def sgnI (s : Bool) (t : Nat) : Int := if s then -(t : Int) else t
def numQ (s : Bool) (t d : Nat) : Rat := mkRat (sgnI s t) d
theorem sgnI_abs (s : Bool) (t : Nat) : (sgnI s t).natAbs = t := by unfold sgnI; split <;> omega
theorem num_of {s : Bool} {t d : Nat} (hd : d ≠ 0) : (numQ s t d).num = sgnI s (t / Nat.gcd t d) ∧ (numQ s t d).den = d / Nat.gcd t d := by
  unfold numQ
  rw [Rat.num_mkRat, Rat.den_mkRat, if_neg hd, if_neg hd, sgnI_abs, Nat.gcd_comm d t]
  refine ⟨?_, rfl⟩
  unfold sgnI
  cases s
  · simp
  · have h : ((Nat.gcd t d : Nat) : Int) ∣ (t : Int) := Int.natCast_dvd_natCast.2 (Nat.gcd_dvd_left t d)
    simp only [if_true]
    rw [Int.neg_ediv_of_dvd h, ← Int.natCast_ediv]
theorem num_neg (s : Bool) (t d : Nat) : numQ (!s) t d = -numQ s t d := by
  unfold numQ
  rw [Rat.neg_mkRat]
  congr 1
  unfold sgnI
  cases s <;> simp
theorem num_same (s : Bool) (a b c d : Nat) (hb : b ≠ 0) (hd : d ≠ 0) : numQ s (a * d + c * b) (b * d) = numQ s a b + numQ s c d := by
  unfold numQ
  rw [Rat.mkRat_add_mkRat _ _ hb hd]
  congr 1
  unfold sgnI
  cases s
  · simp
  · simp only [if_true]
    rw [Int.natCast_add, Int.natCast_mul, Int.natCast_mul, Int.neg_mul, Int.neg_mul]
    omega
theorem num_less (s u : Bool) (hsu : s ≠ u) (a b c d : Nat) (hb : b ≠ 0) (hd : d ≠ 0) (h : c * b ≤ a * d) :
    numQ s (a * d - c * b) (b * d) = numQ s a b + numQ u c d := by
  unfold numQ
  rw [Rat.mkRat_add_mkRat _ _ hb hd]
  congr 1
  have hu : u = !s := by cases s <;> cases u <;> simp_all
  subst hu
  unfold sgnI
  cases s
  · simp only [Bool.not_false, if_true, Bool.false_eq_true, if_false]
    rw [Int.ofNat_sub h, Int.natCast_mul, Int.natCast_mul, Int.neg_mul]
    omega
  · simp only [Bool.not_true, if_true, Bool.false_eq_true, if_false]
    rw [Int.ofNat_sub h, Int.natCast_mul, Int.natCast_mul, Int.neg_mul]
    omega
theorem num_more (s u : Bool) (hsu : s ≠ u) (a b c d : Nat) (hb : b ≠ 0) (hd : d ≠ 0) (h : a * d ≤ c * b) :
    numQ u (c * b - a * d) (b * d) = numQ s a b + numQ u c d := by
  rw [Nat.mul_comm b d, num_less u s (fun e => hsu e.symm) c d a b hd hb h, Rat.add_comm]
theorem num_text {s : Bool} {t d : Nat} (hd : d ≠ 0) : fracT (numQ s t d) =
    (if s && decide (t / Nat.gcd t d ≠ 0) then 45 :: decDigits (t / Nat.gcd t d) else decDigits (t / Nat.gcd t d)) ++
      (if d / Nat.gcd t d = 1 then [] else 47 :: decDigits (d / Nat.gcd t d)) := by
  obtain ⟨h1, h2⟩ := num_of (s := s) (t := t) hd
  unfold fracT
  rw [h1, h2, itoa_eq, sgnI_abs]
  generalize t / Nat.gcd t d = x
  congr 1
  unfold sgnI
  cases s
  · simp
  · by_cases h : x = 0
    · subst h; simp
    · rw [if_pos (by simp; omega), if_pos (by simpa using h)]
theorem num_fit {s : Bool} {t d : Nat} (hd : d ≠ 0) : FitQ (numQ s t d) ↔
    (decDigits (t / Nat.gcd t d)).length ≤ 60 ∧ (decDigits (d / Nat.gcd t d)).length ≤ 60 := by
  obtain ⟨h1, h2⟩ := num_of (s := s) (t := t) hd
  unfold FitQ
  rw [h1, h2, sgnI_abs, digits_len_le _ _ (by omega), digits_len_le _ _ (by omega)]
theorem num_sign {s : Bool} {t d : Nat} (hd : d ≠ 0) : (numQ s t d).num.sign = if t = 0 then 0 else if s then -1 else 1 := by
  obtain ⟨h1, _⟩ := num_of (s := s) (t := t) hd
  rw [h1]
  have hg : 0 < Nat.gcd t d := Nat.gcd_pos_of_pos_right t (Nat.pos_of_ne_zero hd)
  by_cases h : t = 0
  · subst h
    rw [if_pos rfl, Nat.zero_div]
    unfold sgnI
    cases s <;> rfl
  · rw [if_neg h]
    have h2 : 0 < t / Nat.gcd t d := Nat.div_pos (Nat.le_of_dvd (by omega) (Nat.gcd_dvd_left t d)) hg
    generalize t / Nat.gcd t d = x at h2
    unfold sgnI
    cases s
    · simp only [Bool.false_eq_true, if_false]
      exact Int.sign_eq_one_of_pos (by omega)
    · simp only [if_true]
      exact Int.sign_eq_neg_one_of_neg (by omega)
abbrev Num := Bool × Nat × Nat
def valQ (x : Num) : Rat := numQ x.1 x.2.1 x.2.2
def sumN (x y : Num) : Num :=
  if x.1 = y.1 then (x.1, x.2.1 * y.2.2 + y.2.1 * x.2.2, x.2.2 * y.2.2)
  else if y.2.1 * x.2.2 ≤ x.2.1 * y.2.2 then (x.1, x.2.1 * y.2.2 - y.2.1 * x.2.2, x.2.2 * y.2.2)
  else (y.1, y.2.1 * x.2.2 - x.2.1 * y.2.2, x.2.2 * y.2.2)
def negN (x : Num) : Num := (!x.1, x.2.1, x.2.2)
theorem sumN_val {x y : Num} (hx : x.2.2 ≠ 0) (hy : y.2.2 ≠ 0) : valQ (sumN x y) = valQ x + valQ y ∧ (sumN x y).2.2 ≠ 0 := by
  obtain ⟨s, a, b⟩ := x
  obtain ⟨u, c, d⟩ := y
  unfold sumN valQ
  dsimp only at *
  have hbd : b * d ≠ 0 := Nat.mul_ne_zero hx hy
  by_cases h : s = u
  · subst h
    rw [if_pos rfl]
    exact ⟨num_same s a b c d hx hy, hbd⟩
  · rw [if_neg h]
    by_cases k : c * b ≤ a * d
    · rw [if_pos k]
      exact ⟨num_less s u h a b c d hx hy k, hbd⟩
    · rw [if_neg k]
      exact ⟨num_more s u h a b c d hx hy (by omega), hbd⟩
theorem negN_val (x : Num) : valQ (negN x) = -valQ x := num_neg _ _ _
def numOf (a : List UInt8) : Num := (negS (topS a), decV (bareS (topS a)), decV (lowS a))
theorem numOf_val (a : List UInt8) : valQ (numOf a) = fracQ a := rfl
end Go.Proofs.YtdejgaiocjfhjaaGreatDoor
namespace Go.Proofs.YtdejgaiocjfhjaaGreatDoor
open Go.Lib (decDigits itoa)
def FitB (K : Nat) (q : Rat) : Prop := q.num.natAbs < 10 ^ K ∧ q.den < 10 ^ K
theorem FitB.mono {K L : Nat} {q : Rat} (h : FitB K q) (hk : K ≤ L) : FitB L q :=
  ⟨Nat.lt_of_lt_of_le h.1 (Nat.pow_le_pow_right (by omega) hk), Nat.lt_of_lt_of_le h.2 (Nat.pow_le_pow_right (by omega) hk)⟩
theorem FitB.fit {K : Nat} {q : Rat} (h : FitB K q) (hk : K ≤ 60) : FitQ q := h.mono hk
theorem pow_mul_lt {a b K L : Nat} (h : a < 10 ^ K) (k : b < 10 ^ L) : a * b < 10 ^ (K + L) := by
  rw [Nat.pow_add]
  exact Nat.mul_lt_mul'' h k
theorem fit_mk {n : Int} {d K : Nat} (hd : d ≠ 0) (hn : n.natAbs < 10 ^ K) (h : d < 10 ^ K) : FitB K (mkRat n d) := by
  unfold FitB
  rw [Rat.num_mkRat, Rat.den_mkRat, if_neg hd, if_neg hd]
  exact ⟨Nat.lt_of_le_of_lt (Int.natAbs_ediv_le_natAbs _ _) hn, Nat.lt_of_le_of_lt (Nat.div_le_self _ _) h⟩
theorem FitB.mul {K L : Nat} {q r : Rat} (h : FitB K q) (k : FitB L r) : FitB (K + L) (q * r) := by
  rw [Rat.mul_def']
  refine fit_mk (Nat.mul_ne_zero q.den_nz r.den_nz) ?_ (pow_mul_lt h.2 k.2)
  rw [Int.natAbs_mul]
  exact pow_mul_lt h.1 k.1
theorem FitB.add {K L : Nat} {q r : Rat} (h : FitB K q) (k : FitB L r) : FitB (K + L + 1) (q + r) := by
  rw [Rat.add_def']
  have h1 := pow_mul_lt h.1 k.2
  have h2 := pow_mul_lt h.2 k.1
  have h3 := pow_mul_lt h.2 k.2
  have e : 10 ^ (K + L + 1) = 10 * 10 ^ (K + L) := by rw [Nat.pow_succ, Nat.mul_comm]
  refine fit_mk (Nat.mul_ne_zero q.den_nz r.den_nz) ?_ (by omega)
  have h4 := Int.natAbs_add_le (q.num * r.den) (r.num * q.den)
  rw [Int.natAbs_mul, Int.natAbs_mul] at h4
  simp only [Int.natAbs_natCast] at h4
  rw [Nat.mul_comm r.num.natAbs] at h4
  omega
theorem FitB.neg {K : Nat} {q : Rat} (h : FitB K q) : FitB K (-q) := by
  unfold FitB
  rw [Rat.neg_num, Rat.neg_den, Int.natAbs_neg]
  exact h
theorem FitB.sub {K L : Nat} {q r : Rat} (h : FitB K q) (k : FitB L r) : FitB (K + L + 1) (q - r) := by
  rw [Rat.sub_eq_add_neg]; exact h.add k.neg
theorem short_fit {a : List UInt8} (h : fracE a = 0) (hl : a.length ≤ 10) : FitB 10 (fracQ a) := by
  obtain ⟨h1, _, h3, _, _, _, h7⟩ := frac_parts h
  obtain ⟨k1, k2⟩ := frac_num h
  have hlt : (topS a).length ≤ 10 ∧ (lowS a).length ≤ 10 := by
    by_cases hs : 47 ∈ a
    · have e := congrArg List.length (split_some hs)
      rw [List.length_append, List.length_cons] at e
      omega
    · obtain ⟨a1, a2⟩ := split_none hs
      rw [a1, a2]
      exact ⟨hl, by simp⟩
  have hb : (bareS (topS a)).length ≤ (topS a).length := by
    unfold bareS
    split
    · rw [List.length_tail]; omega
    · exact Nat.le_refl _
  unfold FitB
  rw [k1, k2, intV_abs]
  exact ⟨Nat.lt_of_lt_of_le (decV_lt h1.1.1) (Nat.pow_le_pow_right (by omega) (by omega)),
    Nat.lt_of_lt_of_le (decV_lt h3.1) (Nat.pow_le_pow_right (by omega) (by omega))⟩
theorem made_fit {q : Rat} (h : FitQ q) : madeE q = 0 ∧ madeT q = fracT q := by
  unfold madeE madeT
  rw [if_pos h, if_pos h]
  exact ⟨rfl, rfl⟩
theorem fracT_int (n : Int) : fracT (n : Rat) = itoa n := by
  unfold fracT
  rw [Rat.num_intCast, Rat.den_intCast, if_pos rfl, List.append_nil]
theorem fit_int {n : Int} {K : Nat} (hK : 0 < K) (h : n.natAbs < 10 ^ K) : FitB K (n : Rat) := by
  unfold FitB
  rw [Rat.num_intCast, Rat.den_intCast]
  refine ⟨h, ?_⟩
  have := Nat.pow_le_pow_right (n := 10) (by omega) (show 1 ≤ K by omega)
  omega
end Go.Proofs.YtdejgaiocjfhjaaGreatDoor
namespace Go.Proofs.YtdejgaiocjfhjaaGreatDoor
open Go.Lib (decDigits itoa)
theorem num_neg_iff {q : Rat} : q.num < 0 ↔ q < 0 := by
  rw [← Rat.not_le, ← Rat.num_nonneg]; omega
theorem sgn_zero {q r : Rat} : (q - r).num.sign = 0 ↔ q = r := by
  rw [Int.sign_eq_zero_iff_zero, Rat.num_eq_zero]
  constructor
  · intro h
    have := congrArg (· + r) h
    simp only [Rat.sub_add_cancel, Rat.zero_add] at this
    exact this
  · rintro rfl; exact Rat.sub_self
theorem sgn_lt {q r : Rat} : (q - r).num.sign < 0 ↔ q < r := by
  have h : q - r < 0 ↔ q < r := by
    rw [Rat.sub_lt_iff, Rat.zero_add]
  rw [← h, ← num_neg_iff]
  constructor
  · intro k
    exact Int.sign_neg_iff.1 k
  · intro k
    exact Int.sign_neg_iff.2 k
theorem sgn_le {q r : Rat} : (q - r).num.sign ≤ 0 ↔ q ≤ r := by
  rw [Rat.le_iff_lt_or_eq, ← sgn_lt, ← sgn_zero]
  omega
theorem sgn_swap (q r : Rat) : (r - q).num.sign = -(q - r).num.sign := by
  rw [← Rat.neg_sub, Rat.neg_num, Int.sign_neg]
end Go.Proofs.YtdejgaiocjfhjaaGreatDoor
namespace Go.Proofs.YtdejgaiocjfhjaaGreatDoor
open Go.Lib (decDigits itoa)
abbrev Txt := List UInt8
abbrev Res := Txt × Nat
def resQ (q : Rat) : Res := (madeT q, madeE q)
def ifOk {α : Type} (e : Nat) (bad : Nat → α) (good : α) : α := if e = 0 then good else bad e
def bothE (a b : Txt) : Nat := if fracE a = 0 then fracE b else fracE a
def badR (e : Nat) : Res := ([], e)
def addS (a b : Txt) : Res := ifOk (bothE a b) badR (resQ (fracQ a + fracQ b))
def subS (a b : Txt) : Res := ifOk (bothE a b) badR (resQ (fracQ a - fracQ b))
def mulS (a b : Txt) : Res := ifOk (bothE a b) badR (resQ (fracQ a * fracQ b))
def cmpS (a b : Txt) : Int × Nat := ifOk (bothE a b) (fun e => (0, e)) ((fracQ a - fracQ b).num.sign, 0)
def signS (a : Txt) : Int × Nat := ifOk (fracE a) (fun e => (0, e)) ((fracQ a).num.sign, 0)
def negR (a : Txt) : Res := ifOk (fracE a) badR (fracT (-fracQ a), 0)
end Go.Proofs.YtdejgaiocjfhjaaGreatDoor
namespace Go.Proofs.YtdejgaiocjfhjaaGreatDoor
open Go.RowKit
structure Glob (w : World) : Prop where
  len : ∃ m : Int, w.cell? ⟨0, 0, none⟩ = some (.int .i64 m)
  tab : Lib.TabIs Tryz.prog w "internal/strconv.uint64pow10" .u64 Lib.pow10Tab
  syn : ∃ tp p, w.var? Tryz.prog "strconv.ErrSyntax" = some #[.iface tp p]
  rng : ∃ tp p, w.var? Tryz.prog "strconv.ErrRange" = some #[.iface tp p]
theorem var_ext {A B : World} (h : Ext A B) {n : String} {x : Array Value} (hv : A.var? Tryz.prog n = some x) : B.var? Tryz.prog n = some x := by
  unfold World.var? at hv ⊢
  cases hg : Tryz.prog.globalNamed n with
  | none => rw [hg] at hv; cases hv
  | some g =>
    rw [hg] at hv
    simp only [Option.bind_some] at hv ⊢
    cases ho : A.heap[g]? with
    | none => rw [ho] at hv; cases hv
    | some o => rw [Below.block h g (Array.getElem?_eq_some_iff.1 ho).1]; exact hv
theorem Glob.ext {A B : World} (g : Glob A) (h : Ext A B) : Glob B := by
  obtain ⟨⟨m, h1⟩, h2, ⟨a, b, h3⟩, ⟨c, d, h4⟩⟩ := g
  exact ⟨⟨m, h.cell h1⟩, var_ext h h2, ⟨a, b, var_ext h h3⟩, ⟨c, d, var_ext h h4⟩⟩
abbrev txt (s : Txt) : Value := .string ⟨s.toArray⟩
theorem trimP_bare (s : Txt) : Lib.trimPrefix s [45] = bareS s ∧ Lib.hasPrefix s [45] = negS s := by
  unfold Lib.trimPrefix Lib.hasPrefix bareS negS
  cases s with
  | nil => exact ⟨rfl, rfl⟩
  | cons c s =>
    by_cases h : c = 45
    · subst h; exact ⟨rfl, rfl⟩
    · have h1 : ((45 : UInt8) == c) = false := by rw [beq_eq_false_iff_ne]; exact fun e => h e.symm
      have h2 : (c == (45 : UInt8)) = false := by rw [beq_eq_false_iff_ne]; exact h
      simp [h1, h2, List.isPrefixOf]
def digitsC : Txt := [48, 49, 50, 51, 52, 53, 54, 55, 56, 57]
set_option maxRecDepth 100000 in
theorem digitsC_iff (c : UInt8) : digitsC.contains c = decide (48 ≤ c.toNat ∧ c.toNat ≤ 57) := by
  have key : ∀ n : Fin 256, digitsC.contains (UInt8.ofNat n.val) = decide (48 ≤ (UInt8.ofNat n.val).toNat ∧ (UInt8.ofNat n.val).toNat ≤ 57) := by decide
  have := key ⟨c.toNat, c.toNat_lt⟩
  rwa [UInt8.ofNat_toNat] at this
theorem dropWhile_nil {α : Type} (p : α → Bool) (l : List α) : l.dropWhile p = [] ↔ ∀ c ∈ l, p c = true := by
  induction l with
  | nil => simp
  | cons a l ih =>
    rw [List.dropWhile_cons]
    by_cases h : p a = true
    · rw [if_pos h, ih]; simp [h]
    · rw [if_neg h]; simp [h]
theorem trimS_digits (d : Txt) : Lib.trimS d digitsC = [] ↔ DigitL d := by
  have e : ∀ l : Txt, (∀ c ∈ l, digitsC.contains c = true) ↔ DigitL l := fun l => by
    unfold DigitL
    constructor
    · intro h c hc
      have := h c hc
      rw [digitsC_iff] at this
      exact of_decide_eq_true this
    · intro h c hc
      rw [digitsC_iff]
      exact decide_eq_true (h c hc)
  unfold Lib.trimS Lib.trimLeftS
  rw [dropWhile_nil, e]
  constructor
  · intro h
    have h1 : Lib.trimRightS d digitsC = [] := by
      have h2 := (e _).2 h
      unfold Lib.trimRightS at h2 ⊢
      cases hr : d.reverse.dropWhile (digitsC.contains ·) with
      | nil => rfl
      | cons c l =>
        rw [hr] at h2
        have h3 := h2 c (by simp)
        have h4 : (d.reverse.dropWhile (digitsC.contains ·)).head? = some c := by rw [hr]; rfl
        have h5 := List.head?_dropWhile_not (digitsC.contains ·) d.reverse
        rw [h4] at h5
        simp only at h5
        rw [h3] at h5
        cases h5
    unfold Lib.trimRightS at h1
    rw [List.reverse_eq_nil_iff, dropWhile_nil] at h1
    exact (e d).1 (fun c hc => h1 c (by simpa using hc))
  · intro h
    have h1 : Lib.trimRightS d digitsC = [] := by
      unfold Lib.trimRightS
      rw [List.reverse_eq_nil_iff, dropWhile_nil]
      exact fun c hc => (e d).2 h c (by simpa using hc)
    rw [h1]
    intro c hc
    cases hc
end Go.Proofs.YtdejgaiocjfhjaaGreatDoor
namespace Go.Proofs.YtdejgaiocjfhjaaGreatDoor
open Go.RowKit
theorem Trim_digits (d : Txt) (w : World) (hl : d.length ≤ 1000) :
    Calls Tryz.prog 161 #[txt d, txt digitsC] w fun e w' => e = .returned (txt (Lib.trimS d digitsC)) ∧ Ext w w' :=
  (Any.strings_Trim_laid Tryz.lays160 (by kernel_rfl) ⟨d.toArray⟩ ⟨digitsC.toArray⟩ w (by show d.toArray.size ≤ _; simp; omega) (by decide) (ascii_of_all (by decide))).mono fun e w' h => h
theorem CutPrefix_any (s : Txt) (w : World) :
    Calls Tryz.prog 160 #[txt s, txt [45]] w fun e w' => e = .returned (.tuple #[txt (bareS s), .bool (negS s)]) ∧ w' = w :=
  (Tryz.strings_CutPrefix ⟨s.toArray⟩ ⟨#[45]⟩ w).mono fun e w' h => by
    have := trimP_bare s
    rw [← this.1, ← this.2]; exact h
theorem TrimPrefix_any (s : Txt) (w : World) :
    Calls Tryz.prog 142 #[txt s, txt [45]] w fun e w' => e = .returned (txt (bareS s)) ∧ w' = w :=
  (Tryz.strings_TrimPrefix ⟨s.toArray⟩ ⟨#[45]⟩ w).mono fun e w' h => by
    have := trimP_bare s
    rw [← this.1]; exact h
set_option maxHeartbeats 2000000 in
theorem long_any (s : Txt) (w : World) :
    Calls Tryz.prog 129 #[txt s] w fun e w' => e = .returned (.bool (decide (60 < (bareS s).length))) ∧ Ext w w' := by
  have HT := Lib.hid (fun W => TrimPrefix_any s W)
  go_enter Tryz.func129, Tryz.ntmps129
  go_wp2_with (go_at_call 142; refine (HT.out _).mono ?_; rintro e w' ⟨rfl, rfl⟩)
  go_ret
  exact ⟨ret_bool (decide_eq_decide.2 (by omega)), Ext.refl _⟩
set_option maxHeartbeats 2000000 in
theorem integer_any (s : Txt) (w : World) (hl : s.length ≤ 1000) :
    Calls Tryz.prog 128 #[txt s] w fun e w' => e = .returned (.bool (decide (IntS s))) ∧ Ext w w' := by
  have HT := Lib.hid (fun W => CutPrefix_any s W)
  have HI : Hid (∀ b : Bool, (b = true ↔ IntS s) → decide (IntS s) = b) := fun b h => by
    by_cases k : IntS s
    · rw [decide_eq_true k, (h.2 k)]
    · rw [decide_eq_false k]
      cases b
      · rfl
      · exact absurd (h.1 rfl) k
  have HIN := Lib.hid (show IntS s ↔ CanonL (bareS s) ∧ s ≠ [45, 48] from Iff.rfl)
  have HD : Hid (∀ W, Calls Tryz.prog 161 #[txt (bareS s), txt digitsC] W fun e w' => e = .returned (txt (Lib.trimS (bareS s) digitsC)) ∧ Ext W w') := fun W => Trim_digits _ W (by
    have : (bareS s).length ≤ s.length := by unfold bareS; split; rw [List.length_tail]; omega; exact Nat.le_refl _
    omega)
  obtain ⟨f, hf⟩ : ∃ f, f = decide (IntS s) := ⟨_, rfl⟩
  rw [← hf]
  have HF := Lib.hid hf
  clear hf
  have HN : Hid (negS s = false → bareS s = s) := fun h => bare_pos h
  have HN2 : Hid (negS s = true → s = 45 :: bareS s) := fun h => neg_cons h
  generalize bareS s = d at *
  generalize negS s = ng at *
  by_cases hd : d = []
  · subst hd
    have hF : Hid (f = false) := HF.out.trans (HI.out false ⟨(fun h => by cases h), fun h => absurd rfl (HIN.out.1 h).1.2.1⟩)
    clear HI HF HIN HN HN2
    go_enter Tryz.func128, Tryz.ntmps128
    go_wp2_with (go_at_call 160; refine (HT.out _).mono ?_; rintro e w' ⟨rfl, rfl⟩)
    go_ret
    exact ⟨ret_bool hF.out.symm, Ext.refl _⟩
  · obtain ⟨c, m, rfl⟩ := List.exists_cons_of_ne_nil hd
    clear hd
    by_cases hdig : DigitL (c :: m)
    · have e0 : Lib.trimS (c :: m) digitsC = [] := (trimS_digits _).2 hdig
      rw [e0] at HD
      have hc : (48 ≤ c.toNat ∧ c.toNat ≤ 57) := hdig c (List.mem_cons_self ..)
      have hget : ∀ h, (⟨(c :: m).toArray⟩ : ByteArray)[0]'h = c := fun _ => rfl
      by_cases h48 : c = 48
      · subst h48
        cases m with
        | nil =>
          have hF : Hid (f = !ng) := HF.out.trans (HI.out (!ng) (by
            rw [HIN.out]
            cases ng
            · refine ⟨fun _ => ⟨⟨hdig, by simp, .inr rfl⟩, ?_⟩, fun _ => rfl⟩
              rw [← HN.out rfl]; decide
            · refine ⟨(fun h => by cases h), fun h => absurd (HN2.out rfl) h.2⟩))
          clear HI HF HIN HN HN2
          go_enter Tryz.func128, Tryz.ntmps128
          go_wp2_with (first
            | (go_at_call 160; refine (HT.out _).mono ?_; rintro e w' ⟨rfl, rfl⟩)
            | (go_at_call 161; refine (HD.out _).mono ?_; rintro e w' ⟨rfl, hE⟩))
          trace_state
          go_ret
          exact ⟨ret_bool hF.out.symm, hE⟩
        | cons k m =>
          have hF : Hid (f = false) := HF.out.trans (HI.out false (by
            rw [HIN.out]
            refine ⟨(fun h => by cases h), fun h => ?_⟩
            rcases h.1.2.2 with h | h
            · exact absurd rfl h
            · simp at h))
          clear HI HF HIN HN HN2
          go_enter Tryz.func128, Tryz.ntmps128
          go_wp2_with (first
            | (go_at_call 160; refine (HT.out _).mono ?_; rintro e w' ⟨rfl, rfl⟩)
            | (go_at_call 161; refine (HD.out _).mono ?_; rintro e w' ⟨rfl, hE⟩))
          trace_state
          go_ret
          exact ⟨ret_bool hF.out.symm, hE⟩
      · have hF : Hid (f = true) := HF.out.trans (HI.out true (by
          rw [HIN.out]
          refine ⟨fun _ => ⟨⟨hdig, by simp, .inl (by simpa using h48)⟩, ?_⟩, fun _ => rfl⟩
          intro e
          cases ng
          · rw [← HN.out rfl] at e
            simp only [List.cons.injEq] at e
            rw [e.1] at hc; simp at hc
          · have := HN2.out rfl
            rw [this] at e
            simp only [List.cons.injEq] at e
            exact h48 e.2.1))
        have hne : ((c.toNat : Int) != 48) = true := by
          rw [bne_iff_ne]
          intro e
          have e2 : c.toNat = 48 := by omega
          exact h48 (UInt8.toNat_inj.1 e2)
        clear HI HF HIN HN HN2
        go_enter Tryz.func128, Tryz.ntmps128
        go_wp2_with (first
          | (go_at_call 160; refine (HT.out _).mono ?_; rintro e w' ⟨rfl, rfl⟩)
          | (go_at_call 161; refine (HD.out _).mono ?_; rintro e w' ⟨rfl, hE⟩))
        go_ret
        exact ⟨ret_bool hF.out.symm, hE⟩
    · have hF : Hid (f = false) := HF.out.trans (HI.out false ⟨(fun h => by cases h), fun h => absurd (HIN.out.1 h).1.1 hdig⟩)
      have e0 : Lib.trimS (c :: m) digitsC ≠ [] := fun e => hdig ((trimS_digits _).1 e)
      generalize Lib.trimS (c :: m) digitsC = t at e0 HD
      obtain ⟨t0, t1, rfl⟩ := List.exists_cons_of_ne_nil e0
      clear HI HF HIN HN HN2
      go_enter Tryz.func128, Tryz.ntmps128
      go_wp2_with (first
        | (go_at_call 160; refine (HT.out _).mono ?_; rintro e w' ⟨rfl, rfl⟩)
        | (go_at_call 161; refine (HD.out _).mono ?_; rintro e w' ⟨rfl, hE⟩))
      go_ret
      exact ⟨ret_bool hF.out.symm, hE⟩
end Go.Proofs.YtdejgaiocjfhjaaGreatDoor
