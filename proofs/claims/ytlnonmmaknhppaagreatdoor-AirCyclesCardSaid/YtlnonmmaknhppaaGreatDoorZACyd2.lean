/- Steps of the proof: QSameF, QFew, AWrd, ACyP, ACyc, ACyQ, ACon, ALCy, AOpnB, AOpnS. No conditions. -/
import Derived.Deep.Strs
import Derived.ProofKit
import Derived.OpenShut
import Derived.Lib.SmallJoins
import Derived.Deep.Slices
import Derived.Test.YtlnonmmaknhppaaGreatDoorZAC1
import Derived.Test.YtlnonmmaknhppaaGreatDoorZAC2
import Derived.Test.YtlnonmmaknhppaaGreatDoorZAC3
import Derived.Test.YtlnonmmaknhppaaGreatDoorZAC4
import Derived.Test.YtlnonmmaknhppaaGreatDoorZAC5
import Derived.Test.YtlnonmmaknhppaaGreatDoorZAC6
import Derived.Test.YtlnonmmaknhppaaGreatDoorZAC7
import Derived.Test.YtlnonmmaknhppaaGreatDoorZAC8
import Derived.Test.YtlnonmmaknhppaaGreatDoorZAC9
import Derived.Test.YtlnonmmaknhppaaGreatDoorZACyd1
namespace Go.Proofs.YtlnonmmaknhppaaGreatDoor
open Go.RowKit
def sq0 : Sq := (0, [])
def CellsQ (w : World) (a : Option Addr) (l : List Sq) : Prop :=
  ∀ i, i < l.length → ∃ b off v, a = some ⟨b, off, none⟩ ∧ w.cell? ⟨b, off + i * 2, none⟩ = some (.int .i64 (l.getD i sq0).1) ∧ w.cell? ⟨b, off + i * 2 + 1, none⟩ = some v ∧ SliceP w v (l.getD i sq0).2
theorem CellsQ.ext {w w' : World} {a : Option Addr} {l : List Sq} (h : CellsQ w a l) (he : Ext w w') : CellsQ w' a l := fun i hi => by
  obtain ⟨b, off, v, h1, h2, h3, h4⟩ := h i hi
  exact ⟨b, off, v, h1, he.cell h2, he.cell h3, h4.ext he⟩
end Go.Proofs.YtlnonmmaknhppaaGreatDoor
namespace Go.Proofs.YtlnonmmaknhppaaGreatDoor
open Go.RowKit
def fewSt (l : List Stp) : Bool := l.all fun x => decide (x.1.length ≤ 40)
def fewB (l : List Stp) : Bool := decide (l.length ≤ 128) && fewSt l
theorem fewSt_drop {l : List Stp} {k : Nat} (h : k < l.length) {b : Bool} (e : fewSt (l.drop k) = b) : (40 < (l.getD k stp0).1.length ∧ b = false) ∨ ((l.getD k stp0).1.length ≤ 40 ∧ fewSt (l.drop (k + 1)) = b) := by
  rw [drop_cons l stp0 h] at e
  unfold fewSt at e
  rw [List.all_cons] at e
  by_cases c : (l.getD k stp0).1.length ≤ 40
  · rw [decide_eq_true c, Bool.true_and] at e; exact .inr ⟨c, e⟩
  · rw [decide_eq_false c, Bool.false_and] at e; exact .inl ⟨by omega, e.symm⟩
set_option maxHeartbeats 2000000 in
theorem Few_any (n : Value) (l : List Stp) (a : Option Addr) (cap : Nat) (w : World) (hl : l.length ≤ maxLen) (hc : CellsP w a l) :
    Calls Tryz.prog 40 #[.agg #[n, .slice a l.length cap]] w fun r w' => r = .returned (.bool (fewB l)) ∧ Ext w w' := by
  have HC := Lib.hid hc
  clear hc
  unfold maxLen at hl
  by_cases h1 : 128 < l.length
  · have HR : Hid (fewB l = false) := by show _ = _; unfold fewB; rw [decide_eq_false (by omega)]; rfl
    go_enter Tryz.func40, Tryz.ntmps40
    go_wp2
    all_goals go_ret
    all_goals exact ⟨ret_bool HR.out.symm, extA⟩
  · have HR : Hid (fewB l = fewSt l) := by show _ = _; unfold fewB; rw [decide_eq_true (by omega)]; rfl
    go_enter Tryz.func40, Tryz.ntmps40
    go_wp2
    have E1 : Ext w (w.alloc (.cells #[n, .slice a l.length cap] 71)) := extA
    have e1 : (w.alloc (.cells #[n, .slice a l.length cap] 71)).cell? ⟨w.heap.size, 1, none⟩ = some (.slice a l.length cap) := by go_simp
    generalize w.alloc (.cells #[n, .slice a l.length cap] 71) = W at E1 e1 ⊢
    go_loopw [3] (fun i wr => ∃ k : Nat, k ≤ l.length ∧ i = .int .i64 k ∧ Hid (fewSt (l.drop k) = fewSt l) ∧ Ext W wr) (fun i _ => l.length - (intOf i).toNat)
    case atStart => exact ⟨0, Nat.zero_le _, rfl, by show _ = _; rfl, Ext.refl _⟩
    case round =>
      obtain ⟨k, hk, rfl, hz, he⟩ := hrel
      have d1 := he.cell e1
      by_cases hlt : k < l.length
      · obtain ⟨b, off, v, ha, p1, hv, p2⟩ := HC.out.ext (E1.trans he) k hlt
        subst ha
        obtain ⟨sa, sc, rfl, hcs, hls⟩ := hv
        unfold maxLen at hls
        have HZ := fewSt_drop hlt hz.out
        clear hz hcs
        generalize l.getD k stp0 = y at p1 p2 hls HZ
        obtain ⟨st, wait⟩ := y
        dsimp only at p1 p2 hls HZ
        rcases HZ with ⟨g1, g2⟩ | ⟨g1, g2⟩
        · have G2 := Lib.hid g2
          clear g2
          go_wp2
          go_ret
          exact ⟨ret_bool (by rw [HR.out, G2.out]), extA⟩
        · have G2 := Lib.hid g2
          clear g2
          go_wp2
          refine ⟨⟨k + 1, by omega, by go_num, G2, extA⟩, by simp [intOf]; omega⟩
      · have hz1 := hz.out
        rw [List.drop_eq_nil_of_le (by omega)] at hz1
        have H2 := Lib.hid hz1
        clear hz1 hz
        go_wp2
        go_ret
        exact ⟨ret_bool (by rw [HR.out, ← H2.out]; rfl), extA⟩
end Go.Proofs.YtlnonmmaknhppaaGreatDoor
namespace Go.Proofs.YtlnonmmaknhppaaGreatDoor
open Go.RowKit
theorem ckSeq_zero {n : Int} {l : List Stp} (h : ckSeq (n, l) = 0) : 1 ≤ n ∧ n ≤ 6 ∧ 0 < l.length ∧ l.length ≤ 64 ∧ ckWalk n none6 l = 0 ∧ (ints n).any (behAll none6 l) = false ∧ (ints n).any (fun a => !movedIn a l) = false := by
  unfold ckSeq at h
  by_cases h1 : n < 1 ∨ 6 < n
  · rw [if_pos h1] at h; cases h
  · rw [if_neg h1] at h
    by_cases h2 : l.length = 0
    · rw [if_pos h2] at h; cases h
    · rw [if_neg h2] at h
      by_cases h3 : 64 < l.length
      · rw [if_pos h3] at h; cases h
      · rw [if_neg h3] at h
        dsimp only at h
        by_cases h4 : ckWalk n none6 l ≠ 0
        · rw [if_pos h4] at h; exact absurd h h4
        · rw [if_neg h4] at h
          cases h5 : (ints n).any (behAll none6 l)
          · rw [h5] at h
            cases h6 : (ints n).any (fun a => !movedIn a l)
            · refine ⟨by omega, by omega, by omega, by omega, by omega, rfl, rfl⟩
            · rw [h6] at h; cases h
          · rw [h5] at h; cases h
def wordL (l : List Stp) : List Stk := l.flatMap (·.1)
theorem wordL_succ {l : List Stp} {k : Nat} (h : k < l.length) : wordL (l.take (k + 1)) = wordL (l.take k) ++ (l.getD k stp0).1 := by
  unfold wordL
  rw [List.take_succ_eq_append_getElem h, List.flatMap_append, List.getD_eq_getElem?_getD, List.getElem?_eq_getElem h]
  simp
theorem wordL_len {n : Int} {l : List Stp} (h : Fine n l) : ∀ k, k ≤ l.length → (wordL (l.take k)).length ≤ 6 * k := by
  intro k
  induction k with
  | zero => intro _; simp [wordL]
  | succ k ih =>
    intro hk
    have := ih (by omega)
    have h2 := (ckStep_strokes (h k (by omega)).1).2.1
    rw [wordL_succ (by omega), List.length_append]
    omega
theorem ownsK_app {w : World} {v : Value} {l m : List Stk} (h : w.ownsRow 0 84 2 v (l.length + m.length) (flatK l ++ flatK m)) : OwnsK w v (l ++ m) := by
  unfold OwnsK
  rw [List.length_append, flatK_append]; exact h
set_option maxHeartbeats 8000000 in
set_option maxRecDepth 100000 in
theorem Word_any (n : Int) (l : List Stp) (a : Option Addr) (cap : Nat) (w : World) (hl : l.length ≤ maxLen) (hc : CellsP w a l) :
    Calls Tryz.prog 87 #[.agg #[.int .i64 n, .slice a l.length cap]] w fun e w' => ∃ v, e = .returned (.tuple #[v, .int .i64 (ckSeq (n, l))]) ∧ OwnsK w' v (if ckSeq (n, l) = 0 then wordL l else []) ∧ (∀ b, v.ownBlock = some b → w.heap.size ≤ b) ∧ Ext w w' := by
  have HC := Lib.hid hc
  have HL := Lib.hid hl
  obtain ⟨er, her⟩ : ∃ er, er = ckSeq (n, l) := ⟨_, rfl⟩
  obtain ⟨R, hR⟩ : ∃ R, R = if er = 0 then wordL l else [] := ⟨_, rfl⟩
  rw [← her, ← hR]
  have HER := Lib.hid her
  have HR := Lib.hid hR
  clear hc her hR hl
  obtain ⟨i0, hi, hi0, hi1, hi2⟩ := info_parts infoStk
  go_enter Tryz.func87, Tryz.ntmps87
  go_wp2_with fail
  have E1 : Ext w (w.alloc (.cells #[.int .i64 n, .slice a l.length cap] 71)) := extA
  have c0 : ((w.alloc (.cells #[.int .i64 n, .slice a l.length cap] 71))).cell? ⟨w.heap.size, 0, none⟩ = some (.int .i64 n) := by go_simp
  have c1 : ((w.alloc (.cells #[.int .i64 n, .slice a l.length cap] 71))).cell? ⟨w.heap.size, 1, none⟩ = some (.slice a l.length cap) := by go_simp
  generalize (w.alloc (.cells #[.int .i64 n, .slice a l.length cap] 71)) = W at E1 c0 c1 ⊢
  refine (Check_any n l a cap _ HL.out (HC.out.ext E1)).mono ?_
  rintro e w1 ⟨rfl, hE⟩
  rw [← HER.out]
  have E2 := E1.trans hE
  have c0 := (hE).cell c0
  have c1 := (hE).cell c1
  clear hE
  by_cases h0 : er = 0
  · subst h0
    have hck := HER.out.symm
    obtain ⟨hN1, hN6, hl0, hl64, hwk, _, _⟩ := ckSeq_zero hck
    have HFI := Lib.hid (ckWalk_fine hwk)
    have hR := HR.out
    rw [if_pos rfl] at hR
    have HRR : Hid (wordL (l.take l.length) = R) := by show _ = _; rw [List.take_length]; exact hR.symm
    have zw := cell_lt c0
    dsimp only at zw
    clear hck hwk HER HR hR
    go_wp2
    go_loopw [16, 5] (fun i v wr => ∃ k : Nat, k ≤ l.length ∧ i = .int .i64 k ∧ (∃ vv, v = vv ∧ Hid (OwnsK wr vv (wordL (l.take k)) ∧ ∀ b, vv.ownBlock = some b → w1.heap.size ≤ b)) ∧ Ext w1 wr) (fun i _ _ => l.length - (intOf i).toNat)
    case atStart => exact ⟨0, Nat.zero_le _, rfl, ⟨_, rfl, OwnsK.nil _, fun b hb => by cases hb⟩, Ext.refl _⟩
    case round =>
      obtain ⟨k, hk, rfl, ⟨vv, hvv, hO⟩, he⟩ := hrel
      obtain rfl := hvv.symm
      have E3 := E2.trans he
      by_cases hlt : k < l.length
      · obtain ⟨b, off, v, ha, p1, hv, p2⟩ := HC.out k hlt
        subst ha
        have HFK := HFI.out k hlt
        have hst := ckStep_strokes HFK.1
        have hst6 := hst.2.1
        have hst0 := hst.2.2.1
        have HWS := Lib.hid (wordL_succ hlt)
        have hwl := wordL_len HFI.out k (by omega)
        obtain ⟨sa, sc, rfl, hcs, hls⟩ := hv
        have p1 := E3.cell p1
        have p2 := E3.cell p2
        generalize l.getD k stp0 = x at p1 p2 hcs hls HWS hst6 hst0
        obtain ⟨st, wj⟩ := x
        dsimp only at p1 p2 hcs hls HWS hst6 hst0
        obtain ⟨kb, ko, ha, _, _⟩ := hcs 0 hst0
        subst ha
        have HCS := Lib.hid hcs
        have O2 := Lib.hid hO.out.1
        have OB := Lib.hid hO.out.2
        have hsz := he.size
        have zb := cell_lt p1
        dsimp only at zb
        clear hcs hls hO HFK hst
        generalize wordL (l.take k) = P at O2 HWS hwl
        have ES : Ext wr (wr.alloc (.cells #[.slice (some ⟨kb, ko, none⟩) st.length sc, .int .i64 wj] 128)) := extA
        have hO5 : Hid (OwnsK (wr.alloc (.cells #[.slice (some ⟨kb, ko, none⟩) st.length sc, .int .i64 wj] 128)) vv P) := O2.out.ext ES
        have hfl : Hid (∀ j u, (flatK st)[j]? = some u → (wr.alloc (.cells #[.slice (some ⟨kb, ko, none⟩) st.length sc, .int .i64 wj] 128)).cell? ((⟨kb, ko, none⟩ : Addr).add j) = some u) := fun j u hu => (HCS.out.ext (E3.trans ES)).flat j u hu
        go_wp2_with (at_builtin; refine wpList_append1 _ rfl _ _ 81 rfl 84 i0 (.agg #[.int .i64 0, .bool false]) 2 16 Tryz.underlying81 hi hi0 hi1 hi2 rfl (by decide) vv P.length (flatK P) rfl hO5.out ⟨kb, ko, none⟩ st.length sc hst0 (flatK st) rfl (flatK_length st) hfl.out (flatK_one st) ?c2 ?c3 ?c4)
        case c2 => unfold maxLen; omega
        case c3 => omega
        case c4 =>
          intro v' w5 hown5 hend5
          have O5 : Hid (OwnsK w5 v' (wordL (l.take (k + 1)))) := by show OwnsK _ _ _; rw [HWS.out]; exact ownsK_app hown5
          have B5 : Ext w1 w5 := (he.trans ES).trans' (hend5.below (n := w1.heap.size) (by simp; omega) OB.out) (Nat.le_refl _)
          have OB5 : Hid (∀ b, v'.ownBlock = some b → w1.heap.size ≤ b) := hend5.ge (n := w1.heap.size) (by simp; omega) OB.out
          clear hown5 hend5 O2 OB HWS hO5 hfl
          go_wp2
          refine ⟨⟨k + 1, by omega, by go_num, ⟨v', rfl, O5.out, OB5.out⟩, B5⟩, by simp [intOf]; omega⟩
      · have hke : k = l.length := by omega
        subst hke
        have hO1 := hO.out.1
        rw [HRR.out] at hO1
        have HO1 := Lib.hid hO1
        have HO2 := Lib.hid hO.out.2
        have hsz := E2.size
        clear hO hO1
        go_wp2
        go_ret2
        exact ⟨_, rfl, HO1.out, fun b hb => by have := HO2.out b hb; omega, E3⟩
  · have hn : (er != 0) = true := by simp [h0]
    have hR := HR.out
    rw [if_neg h0] at hR
    subst hR
    clear h0 HER HR
    go_wp2
    go_ret2
    exact ⟨.slice none 0 0, rfl, OwnsK.nil _, (fun b hb => by cases hb), E2⟩
set_option maxHeartbeats 8000000 in
set_option maxRecDepth 100000 in
theorem First_any (n : Int) (l : List Stp) (a : Option Addr) (cap : Nat) (w : World) (hl64 : l.length ≤ 64) (hf : Fine n l) (hc : CellsP w a l) :
    Calls Tryz.prog 47 #[.agg #[.int .i64 n, .slice a l.length cap]] w fun e w' => ∃ v, e = .returned v ∧ OwnsK w' v (wordL l) ∧ (∀ b, v.ownBlock = some b → w.heap.size ≤ b) ∧ Ext w w' := by
  have HC := Lib.hid hc
  have HFI := Lib.hid hf
  have HRR : Hid (wordL (l.take l.length) = wordL l) := by show _ = _; rw [List.take_length]
  obtain ⟨R, hR⟩ : ∃ R, R = wordL l := ⟨_, rfl⟩
  rw [← hR] at HRR ⊢
  clear hc hf hR
  obtain ⟨i0, hi, hi0, hi1, hi2⟩ := info_parts infoStk
  go_enter Tryz.func47, Tryz.ntmps47
  go_wp2_with fail
  have E1 : Ext w (w.alloc (.cells #[.int .i64 n, .slice a l.length cap] 71)) := extA
  have c1 : ((w.alloc (.cells #[.int .i64 n, .slice a l.length cap] 71))).cell? ⟨w.heap.size, 1, none⟩ = some (.slice a l.length cap) := by go_simp
  generalize (w.alloc (.cells #[.int .i64 n, .slice a l.length cap] 71)) = w1 at E1 c1 ⊢
  have E2 := E1
  go_loopw [4, 3] (fun i v wr => ∃ k : Nat, k ≤ l.length ∧ i = .int .i64 k ∧ (∃ vv, v = vv ∧ Hid (OwnsK wr vv (wordL (l.take k)) ∧ ∀ b, vv.ownBlock = some b → w1.heap.size ≤ b)) ∧ Ext w1 wr) (fun i _ _ => l.length - (intOf i).toNat)
  case atStart => exact ⟨0, Nat.zero_le _, rfl, ⟨_, rfl, OwnsK.nil _, fun b hb => by cases hb⟩, Ext.refl _⟩
  case round =>
    obtain ⟨k, hk, rfl, ⟨vv, hvv, hO⟩, he⟩ := hrel
    obtain rfl := hvv.symm
    have E3 := E2.trans he
    have c1 := he.cell c1
    have z1 := cell_lt c1
    dsimp only at z1
    by_cases hlt : k < l.length
    · obtain ⟨b, off, v, ha, p1, hv, p2⟩ := HC.out k hlt
      subst ha
      have HFK := HFI.out k hlt
      have hst := ckStep_strokes HFK.1
      have hst6 := hst.2.1
      have hst0 := hst.2.2.1
      have HWS := Lib.hid (wordL_succ hlt)
      have hwl := wordL_len HFI.out k (by omega)
      obtain ⟨sa, sc, rfl, hcs, hls⟩ := hv
      have p1 := E3.cell p1
      have p2 := E3.cell p2
      generalize l.getD k stp0 = x at p1 p2 hcs hls HWS hst6 hst0
      obtain ⟨st, wj⟩ := x
      dsimp only at p1 p2 hcs hls HWS hst6 hst0
      obtain ⟨kb, ko, ha, _, _⟩ := hcs 0 hst0
      subst ha
      have HCS := Lib.hid hcs
      have O2 := Lib.hid hO.out.1
      have OB := Lib.hid hO.out.2
      have hsz := he.size
      have zb := cell_lt p1
      dsimp only at zb
      clear hcs hls hO HFK hst
      generalize wordL (l.take k) = P at O2 HWS hwl
      have hO5 : Hid (OwnsK wr vv P) := O2.out
      have hfl : Hid (∀ j u, (flatK st)[j]? = some u → wr.cell? ((⟨kb, ko, none⟩ : Addr).add j) = some u) := fun j u hu => (HCS.out.ext E3).flat j u hu
      go_wp2_with (at_builtin; refine wpList_append1 _ rfl _ _ 81 rfl 84 i0 (.agg #[.int .i64 0, .bool false]) 2 16 Tryz.underlying81 hi hi0 hi1 hi2 rfl (by decide) vv P.length (flatK P) rfl hO5.out ⟨kb, ko, none⟩ st.length sc hst0 (flatK st) rfl (flatK_length st) hfl.out (flatK_one st) ?c2 ?c3 ?c4)
      case c2 => unfold maxLen; omega
      case c3 => omega
      case c4 =>
        intro v' w5 hown5 hend5
        have O5 : Hid (OwnsK w5 v' (wordL (l.take (k + 1)))) := by show OwnsK _ _ _; rw [HWS.out]; exact ownsK_app hown5
        have B5 : Ext w1 w5 := he.trans' (hend5.below (n := w1.heap.size) (by omega) OB.out) (Nat.le_refl _)
        have OB5 : Hid (∀ b, v'.ownBlock = some b → w1.heap.size ≤ b) := hend5.ge (n := w1.heap.size) (by omega) OB.out
        clear hown5 hend5 O2 OB HWS hO5 hfl
        go_wp2
        refine ⟨⟨k + 1, by omega, by go_num, ⟨v', rfl, O5.out, OB5.out⟩, B5⟩, by simp [intOf]; omega⟩
    · have hke : k = l.length := by omega
      subst hke
      have hO1 := hO.out.1
      rw [HRR.out] at hO1
      have HO1 := Lib.hid hO1
      have HO2 := Lib.hid hO.out.2
      have hsz := E1.size
      clear hO hO1
      go_wp2
      go_ret
      exact ⟨_, rfl, HO1.out, fun b hb => by have := HO2.out b hb; omega, E3⟩
end Go.Proofs.YtlnonmmaknhppaaGreatDoor
namespace Go.Proofs.YtlnonmmaknhppaaGreatDoor
open Go.RowKit
def cylsE : List Cyl → Nat
  | [] => 0
  | c :: l => if cylE c ≠ 0 then cylE c else cylsE l
def strN (l : List Cyl) (p : Int) : List Stk → Int
  | [] => 0
  | x :: r => litN (l.getD x.1.toNat cyl0) x.2 p + strN l p r
def cycS (l : List Cyl) (n : Int) (st : List Stp) (p : Int) : Enc × Int :=
  if ckSeq (n, st) ≠ 0 then (([], []), ckSeq (n, st)) else if (l.length : Int) ≠ n then (([], []), 8) else if cylsE l ≠ 0 then (([], []), (cylsE l : Nat)) else if presE1 p ≠ 0 then (([], []), (presE1 p : Nat)) else (sumT (strN l p (wordL st)), 0)
def CycP (r : Enc × Int) (w : World) (e : Ending) (w' : World) : Prop := e = .returned (.tuple #[encV r.1, .int .i64 r.2]) ∧ Ext w w'
theorem cylsE_drop {l : List Cyl} {k : Nat} (h : k < l.length) : cylsE (l.drop k) = if cylE (l.getD k cyl0) ≠ 0 then cylE (l.getD k cyl0) else cylsE (l.drop (k + 1)) := by
  conv => lhs; rw [drop_consA l cyl0 h]
  rfl
theorem cylsE_zero {l : List Cyl} (h : cylsE l = 0) : ∀ c ∈ l, CylOk c := by
  induction l with
  | nil => intro c hc; cases hc
  | cons d l ih =>
    unfold cylsE at h
    split at h
    · rename_i h1; exact absurd h h1
    · rename_i h1
      intro c hc
      rcases List.mem_cons.1 hc with rfl | hc
      · exact cylOk_of (by omega)
      · exact ih h c hc
theorem strN_append (l : List Cyl) (p : Int) (a b : List Stk) : strN l p (a ++ b) = strN l p a + strN l p b := by
  induction a with
  | nil => simp [strN]
  | cons x a ih => simp only [List.cons_append, strN, ih]; omega
theorem strN_take (l : List Cyl) (p : Int) {w : List Stk} {k : Nat} (h : k < w.length) : strN l p (w.take (k + 1)) = strN l p (w.take k) + litN (l.getD (w.getD k stk0).1.toNat cyl0) (w.getD k stk0).2 p := by
  rw [take_snoc stk0 h, strN_append]
  simp [strN]
theorem strN_bd {l : List Cyl} {p : Int} (hc : ∀ c ∈ l, CylOk c) (h1 : 1 ≤ p) (h2 : p ≤ 2000) : ∀ w : List Stk, (∀ x ∈ w, x.1.toNat < l.length) → 0 ≤ strN l p w ∧ strN l p w ≤ w.length * 1575750000000 := by
  intro w
  induction w with
  | nil => intro _; simp [strN]
  | cons x w ih =>
    intro h
    obtain ⟨g1, g2⟩ := ih fun y hy => h y (List.mem_cons_of_mem _ hy)
    have hx := h x (by simp)
    obtain ⟨b1, b2⟩ := litN_bd (hc (l.getD x.1.toNat cyl0) (getD_inA hx)) x.2 h1 h2
    unfold strN
    rw [List.length_cons]
    push_cast
    omega
theorem word_in {n : Int} {st : List Stp} (h : Fine n st) : ∀ x ∈ wordL st, 0 ≤ x.1 ∧ x.1 < n := by
  intro x hx
  unfold wordL at hx
  obtain ⟨s, hs, hxs⟩ := List.mem_flatMap.1 hx
  obtain ⟨k, hk, rfl⟩ := List.mem_iff_getElem.1 hs
  have h1 := (h k hk).2
  obtain ⟨j, hj, rfl⟩ := List.mem_iff_getElem.1 hxs
  have e : st.getD k stp0 = st[k] := by rw [List.getD_eq_getElem?_getD, List.getElem?_eq_getElem hk]; rfl
  rw [e] at h1
  have h2 := h1 j hj
  rw [List.getD_eq_getElem?_getD, List.getElem?_eq_getElem hj] at h2
  exact h2
theorem word_len {n : Int} {st : List Stp} (h : Fine n st) (hl : st.length ≤ 64) : (wordL st).length ≤ 384 := by
  have := wordL_len h st.length (Nat.le_refl _)
  rw [List.take_length] at this
  omega
structure CycOk (l : List Cyl) (n : Int) (st : List Stp) (p : Int) : Prop where
  len : (l.length : Int) = n
  n1 : 1 ≤ n
  n6 : n ≤ 6
  s64 : st.length ≤ 64
  fine : Fine n st
  cyl : ∀ c ∈ l, CylOk c
  p1 : 1 ≤ p
  p2 : p ≤ 2000
theorem CycOk.at {l : List Cyl} {n : Int} {st : List Stp} {p : Int} (h : CycOk l n st p) {k : Nat} (hk : k < (wordL st).length) :
    ∃ i : Nat, ((wordL st).getD k stk0).1 = (i : Int) ∧ i < l.length ∧ CylOk (l.getD i cyl0) ∧ (∀ o, 0 ≤ litN (l.getD i cyl0) o p ∧ litN (l.getD i cyl0) o p ≤ 1575750000000) := by
  have h1 := word_in h.fine _ (getD_inA (d := stk0) hk)
  have h2 := h.len
  have hi : ((wordL st).getD k stk0).1.toNat < l.length := by omega
  have hc := h.cyl _ (getD_inA (d := cyl0) hi)
  exact ⟨_, (Int.toNat_of_nonneg h1.1).symm, hi, hc, fun o => litN_bd hc o h.p1 h.p2⟩
theorem CycOk.bd {l : List Cyl} {n : Int} {st : List Stp} {p : Int} (h : CycOk l n st p) (k : Nat) : 0 ≤ strN l p ((wordL st).take k) ∧ strN l p ((wordL st).take k) ≤ 384 * 1575750000000 := by
  obtain ⟨g1, g2⟩ := strN_bd h.cyl h.p1 h.p2 ((wordL st).take k) (fun x hx => by
    have h1 := word_in h.fine x (List.mem_of_mem_take hx)
    have h2 := h.len
    omega)
  have h3 := word_len h.fine h.s64
  have h4 : ((wordL st).take k).length ≤ 384 := by rw [List.length_take]; omega
  refine ⟨g1, ?_⟩
  have : (((wordL st).take k).length : Int) * 1575750000000 ≤ 384 * 1575750000000 := Int.mul_le_mul_of_nonneg_right (by omega) (by omega)
  omega
end Go.Proofs.YtlnonmmaknhppaaGreatDoor
namespace Go.Proofs.YtlnonmmaknhppaaGreatDoor
open Go.RowKit
set_option maxHeartbeats 16000000 in
set_option maxRecDepth 100000 in
theorem aCycle_any (l : List Cyl) (n : Int) (st : List Stp) (p : Int) (ca : Option Addr) (cc : Nat) (a : Option Addr) (cap : Nat) (w : World) (hG : Glob w) (hl : l.length ≤ 9223372036854775807) (hc : CellsC w ca l) (hs : CellsP w a st) (hsl : st.length ≤ maxLen) :
    Calls Tryz.prog 41 #[.slice ca l.length cc, .agg #[.int .i64 n, .slice a st.length cap], .int .i64 p] w (CycP (cycS l n st p) w) := by
  have HG := Lib.hid hG
  have HC := Lib.hid hc
  have HWD := Lib.hid (fun W (g : Ext w W) => Word_any n st a cap W hsl (hs.ext g))
  have HCK := Lib.hid (fun c W => aCheck_any c W)
  have HPR := Lib.hid (fun W => aPress_any p W)
  have HPT : Hid (∀ W, Ext w W → Calls Tryz.prog 88 #[txt [48]] W (EncP (([48], [48]), 0) W)) := fun W g => by
    have h := ePoint_any [48] W (HG.out.ext g) (by decide)
    rwa [show pointE [48] = (([48], [48]), 0) by decide +kernel] at h
  have HLI := fun c o (W : World) (g : Ext w W) (hk : CylOk c) h1 h2 => aLitres_any c o p W (HG.out.ext g) hk h1 h2
  simp only [litT_is] at HLI
  replace HLI := Lib.hid HLI
  have HAD := Lib.hid (fun (M N : Int) (W : World) (g : Ext w W) (hM : 0 ≤ M) (hN : 0 ≤ N) (h : M + N ≤ 10 ^ 20) => by
    have hh := sum_add hM hN h
    have h1 := eAdd_any (sumT M) (sumT N) W (HG.out.ext g) hh.2.1 hh.2.2.1
    rw [hh.1] at h1
    exact h1)
  obtain ⟨R, hR⟩ : ∃ R, R = cycS l n st p := ⟨_, rfl⟩
  rw [← hR]
  unfold cycS at hR
  obtain ⟨er, her⟩ : ∃ er, er = ckSeq (n, st) := ⟨_, rfl⟩
  rw [← her] at HWD hR
  have HER := Lib.hid her
  obtain ⟨wd, hwd⟩ : ∃ wd, wd = wordL st := ⟨_, rfl⟩
  rw [← hwd] at HWD hR
  have HWE := Lib.hid hwd
  clear hwd
  unfold CycP
  clear hG hc hs her
  have c0 : (((w.alloc (.cells #[.int .i64 n, .slice a st.length cap] 71)).alloc (.cells #[.string ⟨#[]⟩, .string ⟨#[]⟩] 35))).cell? ⟨w.heap.size, 0, none⟩ = some (.int .i64 n) := by go_simp
  have c1 : (((w.alloc (.cells #[.int .i64 n, .slice a st.length cap] 71)).alloc (.cells #[.string ⟨#[]⟩, .string ⟨#[]⟩] 35))).cell? ⟨w.heap.size, 1, none⟩ = some (.slice a st.length cap) := by go_simp
  have X : EncAt (w.heap.size + 1) ((w.alloc (.cells #[.int .i64 n, .slice a st.length cap] 71)).alloc (.cells #[.string ⟨#[]⟩, .string ⟨#[]⟩] 35)) [] [] := ⟨by go_simp, by go_simp, by go_simp, by go_simp⟩
  have E : Ext w ((w.alloc (.cells #[.int .i64 n, .slice a st.length cap] 71)).alloc (.cells #[.string ⟨#[]⟩, .string ⟨#[]⟩] 35)) := extA
  go_enter Tryz.func41, Tryz.ntmps41
  go_wp2_with fail
  generalize ((w.alloc (.cells #[.int .i64 n, .slice a st.length cap] 71)).alloc (.cells #[.string ⟨#[]⟩, .string ⟨#[]⟩] 35)) = w0 at c0 c1 X E ⊢
  refine (HWD.out _ E).mono ?_
  rintro e w1 ⟨v, rfl, hO, _, hE⟩
  replace X := X.ext hE
  replace E := E.trans hE
  have c0 := (hE).cell c0
  have c1 := (hE).cell c1
  clear hE HWD
  by_cases h0 : er = 0
  rotate_left
  · rw [if_pos h0] at hR
    have HR := Lib.hid hR
    have hne : (er != 0) = true := by simp [h0]
    obtain ⟨d0, d1, g0, g1⟩ := X
    have zd := cell_lt d0
    dsimp only at zd
    clear hR h0 HER hO
    go_wp2
    refine bodyPost_ret (v := .tuple #[.agg #[txt [], txt []], .int .i64 er]) (by rw [results_cell_tmp1 rfl]; go_simp) rfl ?_
    exact ⟨by rw [HR.out], extA⟩
  subst h0
  rw [if_pos rfl] at hO
  rw [if_neg (not_not_intro rfl)] at hR
  obtain ⟨wa, wc, rfl, hcw, hlw, _⟩ := hO.reads
  have HCW := Lib.hid hcw
  clear hcw hO
  have z0 := cell_lt c0
  have zd := cell_lt X.c0
  dsimp only at z0 zd
  by_cases hn : (l.length : Int) = n
  rotate_left
  · rw [if_pos hn] at hR
    have HR := Lib.hid hR
    have hne : ((l.length : Int) != n) = true := by simp [hn]
    obtain ⟨d0, d1, g0, g1⟩ := X
    clear hR hn HER
    go_wp2
    refine bodyPost_ret (v := .tuple #[.agg #[txt [], txt []], .int .i64 8]) (by rw [results_cell_tmp1 rfl]; go_simp) rfl ?_
    exact ⟨by rw [HR.out], extA⟩
  rw [if_neg (not_not_intro hn)] at hR
  have hne : ((l.length : Int) != n) = false := by simp [hn]
  have HN := Lib.hid hn
  have HRR := Lib.hid hR
  obtain ⟨ce, hce⟩ : ∃ ce, ce = cylsE l := ⟨_, rfl⟩
  rw [← hce] at hR
  have M0 : Hid (ce = cylsE (l.drop 0)) := hce
  have HCE := Lib.hid hce
  have HR := Lib.hid hR
  clear hR hn hce HRR
  go_wp2
  clear hne z0 zd
  go_loopw [35] (fun x wr => ∃ k : Nat, k ≤ l.length ∧ x = .int .i64 k ∧ Hid (ce = cylsE (l.drop k)) ∧ Ext w1 wr) (fun x _ => l.length - (intOf x).toNat)
  case atStart => exact ⟨0, Nat.zero_le _, rfl, M0.out, Ext.refl _⟩
  case round =>
    obtain ⟨k, hk, rfl, hz, he⟩ := hrel
    have X2 := X.ext he
    have E2 := E.trans he
    by_cases hlt : k < l.length
    · obtain ⟨b, off, ha, p0, p1, p2⟩ := HC.out.ext E2 k hlt
      subst ha
      have hz2 := hz.out.trans (cylsE_drop hlt)
      have HCc := Lib.hid (HCK.out (l.getD k cyl0))
      obtain ⟨qe, hqe⟩ : ∃ qe, qe = cylE (l.getD k cyl0) := ⟨_, rfl⟩
      rw [← hqe] at hz2 HCc
      clear hqe hz
      generalize l.getD k cyl0 = c at p0 p1 p2 HCc
      obtain ⟨x, y, z⟩ := c
      dsimp only [cylV] at p0 p1 p2 HCc
      have z0 := cell_lt p0
      dsimp only at z0
      by_cases hq : qe = 0
      · rw [if_neg (not_not_intro hq)] at hz2
        have HZ := Lib.hid hz2
        subst hq
        clear hz2
        go_wp2_with fail
        have EB : Ext wr (wr.alloc (.cells #[.int .i64 x, .int .i64 y, .int .i64 z] 49)) := extA
        refine (HCc.out _).mono ?_
        rintro e w5 ⟨rfl, hE⟩
        have E5 := he.trans (EB.trans hE)
        clear EB hE
        go_wp2
        refine ⟨⟨k + 1, by omega, by go_num, HZ.out, E5⟩, by simp [intOf]; omega⟩
      · rw [if_pos hq] at hz2
        have h1 := HR.out
        rw [if_pos (by omega)] at h1
        have HRQ : Hid (R = (([], []), (qe : Int))) := by show _ = _; rw [h1, hz2]
        have hne : (((qe : Nat) : Int) != 0) = true := by rw [bne_iff_ne]; omega
        clear hz2 h1 hq
        go_wp2_with fail
        have EB : Ext wr (wr.alloc (.cells #[.int .i64 x, .int .i64 y, .int .i64 z] 49)) := extA
        refine (HCc.out _).mono ?_
        rintro e w5 ⟨rfl, hE⟩
        have E5 := E2.trans (EB.trans hE)
        obtain ⟨d0, d1, g0, g1⟩ := X2.ext (EB.trans hE)
        have zd := cell_lt d0
        dsimp only at zd
        clear EB hE
        go_wp2
        refine bodyPost_ret (v := .tuple #[.agg #[txt [], txt []], .int .i64 (qe : Nat)]) (by rw [results_cell_tmp1 rfl]; go_simp) rfl ?_
        exact ⟨by rw [HRQ.out], extA⟩
    · have hke : k = l.length := by omega
      subst hke
      have hz2 := hz.out
      rw [List.drop_length] at hz2
      have hce0 : ce = 0 := hz2
      have h1 := HR.out
      rw [if_neg (by omega)] at h1
      obtain ⟨pe, hpe⟩ : ∃ pe, pe = presE1 p := ⟨_, rfl⟩
      rw [← hpe] at HPR h1
      have HPE := Lib.hid hpe
      clear hz hz2 hpe
      go_wp2_with fail
      refine (HPR.out _).mono ?_
      rintro e w5 ⟨rfl, hw⟩; obtain rfl := hw.symm; clear hw
      by_cases hp : pe = 0
      rotate_left
      · rw [if_pos hp] at h1
        have HRQ := Lib.hid h1
        have hne : (((pe : Nat) : Int) != 0) = true := by rw [bne_iff_ne]; omega
        obtain ⟨d0, d1, g0, g1⟩ := X2
        have zd := cell_lt d0
        dsimp only at zd
        clear h1 hp
        go_wp2
        refine bodyPost_ret (v := .tuple #[.agg #[txt [], txt []], .int .i64 (pe : Nat)]) (by rw [results_cell_tmp1 rfl]; go_simp) rfl ?_
        exact ⟨by rw [HRQ.out], extA⟩
      rw [if_neg (not_not_intro hp)] at h1
      have HRQ := Lib.hid h1
      subst hp
      have hck := HER.out.symm
      obtain ⟨hN1, hN6, _, hl64, hwk, _, _⟩ := ckSeq_zero hck
      have hpr : 1 ≤ p ∧ p ≤ 2000 := by
        have h2 := HPE.out
        unfold presE1 presB at h2
        split at h2
        · cases h2
        · rename_i h3
          simp only [Bool.or_eq_true, decide_eq_true_eq, not_or] at h3
          omega
      have HOK : Hid (CycOk l n st p) := ⟨HN.out, hN1, hN6, hl64, ckWalk_fine hwk, cylsE_zero (HCE.out.symm.trans hce0), hpr.1, hpr.2⟩
      have hwd := HWE.out
      have hwl := word_len HOK.out.fine hl64
      rw [← hwd] at hwl
      have HAT : Hid (∀ k, k < wd.length → ∃ i : Nat, (wd.getD k stk0).1 = (i : Int) ∧ i < l.length ∧ CylOk (l.getD i cyl0) ∧ (∀ o, 0 ≤ litN (l.getD i cyl0) o p ∧ litN (l.getD i cyl0) o p ≤ 1575750000000)) := fun k hk => by
        have := HOK.out.at (k := k) (by rw [← hwd]; exact hk)
        rw [← hwd] at this
        exact this
      have HBD : Hid (∀ k, 0 ≤ strN l p (wd.take k) ∧ strN l p (wd.take k) ≤ 384 * 1575750000000) := fun k => by
        have := HOK.out.bd k
        rw [← hwd] at this
        exact this
      have HTK : Hid (∀ k, k < wd.length → strN l p (wd.take (k + 1)) = strN l p (wd.take k) + litN (l.getD (wd.getD k stk0).1.toNat cyl0) (wd.getD k stk0).2 p) := fun k hk => strN_take l p hk
      have HS0 : Hid (sumT (strN l p (wd.take 0)) = ([48], [48])) := by show _ = _; rw [List.take_zero]; exact sum_zero
      have HEND : Hid (strN l p (wd.take wd.length) = strN l p wd) := by show _ = _; rw [List.take_length]
      have HLI2 := Lib.hid (fun c o W g hk => HLI.out c o W g hk hpr.1 hpr.2)
      clear h1 hwk hck hwd HWE HOK hpr HLI hce0 hN1 hN6 hl64 HR HCE HN HER M0
      have zd := cell_lt X2.c0
      dsimp only at zd
      go_wp2_with fail
      refine (HPT.out _ E2).mono ?_
      rintro e w4 ⟨rfl, hE4⟩
      have X4 := X2.ext hE4
      have E4 := E2.trans hE4
      have HC4 := Lib.hid (HC.out.ext E4)
      have HCW4 := Lib.hid (HCW.out.ext (he.trans hE4))
      clear X2 E2 hE4 HC HCW
      have EB : Ext w4 (w4.alloc (.cells #[txt [48], txt [48]] 35)) := extA
      have S0 : EncAt w4.heap.size (w4.alloc (.cells #[txt [48], txt [48]] 35)) [48] [48] := ⟨by go_simp, by go_simp, by go_simp, by go_simp⟩
      go_wp2_with fail
      obtain ⟨sb, hsb⟩ : ∃ b, b = w4.heap.size := ⟨_, rfl⟩
      rw [← hsb] at S0 ⊢
      have hsb4 : w4.heap.size ≤ sb := by omega
      have hsb5 : sb < (w4.alloc (.cells #[txt [48], txt [48]] 35)).heap.size := cell_lt S0.c0
      clear hsb
      generalize (w4.alloc (.cells #[txt [48], txt [48]] 35)) = w6 at EB S0 hsb5 ⊢
      go_loopw [58, 9] (fun x y wr => ∃ k : Nat, k ≤ wd.length ∧ x = .int .i64 k ∧ y = .int .i64 0 ∧ (∃ s1 s2, EncAt sb wr s1 s2 ∧ Hid ((s1, s2) = sumT (strN l p (wd.take k)))) ∧ Ext w4 wr) (fun x _ _ => wd.length - (intOf x).toNat)
      case atStart => exact ⟨0, Nat.zero_le _, rfl, rfl, ⟨_, _, S0, HS0.out.symm⟩, EB⟩
      case round =>
        obtain ⟨k, hk, rfl, rfl, ⟨s1, s2, S, hS12⟩, he4⟩ := hrel
        have X5 := X4.ext he4
        have E5 := E4.trans he4
        by_cases hlt : k < wd.length
        · obtain ⟨wb, wo, hwa, q1, q2⟩ := HCW4.out.ext he4 k hlt
          subst hwa
          obtain ⟨i, hi1, hi2, hi3, hi4⟩ := HAT.out k hlt
          have htk := HTK.out k hlt
          rw [hi1, Int.toNat_natCast] at htk
          obtain ⟨cb, co, hca, r0, r1, r2⟩ := HC4.out.ext he4 i hi2
          subst hca
          rw [hi1] at q1
          have hbd := HBD.out k
          have hbd1 := HBD.out (k + 1)
          have HL := HLI2.out (l.getD i cyl0) (wd.getD k stk0).2
          have hn4 := hi4 (wd.getD k stk0).2
          have HA2 := fun W g => HAD.out (strN l p (wd.take k)) (litN (l.getD i cyl0) (wd.getD k stk0).2 p) W g hbd.1 hn4.1 (by omega)
          rw [← htk, ← hS12.out] at HA2
          generalize (wd.getD k stk0).2 = o at q2 HL HA2
          obtain ⟨N, hN⟩ : ∃ N, N = sumT (litN (l.getD i cyl0) o p) := ⟨_, rfl⟩
          rw [← hN] at HL HA2
          obtain ⟨T, hT⟩ : ∃ T, T = sumT (strN l p (wd.take (k + 1))) := ⟨_, rfl⟩
          rw [← hT] at HA2
          have HT := Lib.hid hT
          unfold EncP at HL HA2
          have HL' := fun W g => HL W g hi3
          generalize l.getD i cyl0 = c at r0 r1 r2 HL'
          obtain ⟨cx, cy, cz⟩ := c
          obtain ⟨n1, n2⟩ := N
          obtain ⟨t1, t2⟩ := T
          dsimp only [encV, cylV] at HL' HA2 r0 r1 r2
          replace HL := Lib.hid HL'
          replace HA2 := Lib.hid HA2
          clear HL' hN hT hi1 hi3 hi4 htk hbd hbd1 hn4 hS12
          have z1 := cell_lt q1
          have zs := cell_lt S.c0
          dsimp only at z1 zs
          have hiI : (i : Int) < (l.length : Int) := by omega
          go_wp2_with fail
          have d0 : (((wr.alloc (.cells #[.int .i64 i, .bool o] 84)).alloc (.cells #[.string ⟨#[]⟩, .string ⟨#[]⟩] 35))).cell? ⟨wr.heap.size, 0, none⟩ = some (.int .i64 i) := by go_simp
          have d1 : (((wr.alloc (.cells #[.int .i64 i, .bool o] 84)).alloc (.cells #[.string ⟨#[]⟩, .string ⟨#[]⟩] 35))).cell? ⟨wr.heap.size, 1, none⟩ = some (.bool o) := by go_simp
          have Y : EncAt (wr.heap.size + 1) ((wr.alloc (.cells #[.int .i64 i, .bool o] 84)).alloc (.cells #[.string ⟨#[]⟩, .string ⟨#[]⟩] 35)) [] [] := ⟨by go_simp, by go_simp, by go_simp, by go_simp⟩
          have EWB : Ext wr ((wr.alloc (.cells #[.int .i64 i, .bool o] 84)).alloc (.cells #[.string ⟨#[]⟩, .string ⟨#[]⟩] 35)) := extA
          have hyb : w4.heap.size ≤ wr.heap.size + 1 := by have := he4.size; omega
          have hys : sb ≠ wr.heap.size + 1 := by omega
          have r0 := EWB.cell r0
          have r1 := EWB.cell r1
          have r2 := EWB.cell r2
          obtain ⟨kb, hkb⟩ : ∃ b, b = wr.heap.size := ⟨_, rfl⟩
          rw [← hkb] at d0 d1 Y hyb hys ⊢
          clear q1 q2 z1 zs hkb
          have hS : Ext ((wr.alloc (.cells #[.int .i64 i, .bool o] 84)).alloc (.cells #[.string ⟨#[]⟩, .string ⟨#[]⟩] 35)) (((wr.alloc (.cells #[.int .i64 i, .bool o] 84)).alloc (.cells #[.string ⟨#[]⟩, .string ⟨#[]⟩] 35))).drew := extA
          generalize ((wr.alloc (.cells #[.int .i64 i, .bool o] 84)).alloc (.cells #[.string ⟨#[]⟩, .string ⟨#[]⟩] 35)) = W6 at d0 d1 Y EWB r0 r1 r2 hS ⊢
          refine wp_region_heldE 12 (Ext W6) (by kernel_rfl) ?_
          generalize W6.drew = v0 at hS ⊢
          ((refine ePu 0 ?_); (refine ePu 1 ?_))
          (refine wpAnyE_take (oi := ?_) (v := ?_) (i := 2) ?_ (by kernel_rfl) ?_ ?_ (by assumption) ?_; rotate_left 2; (focus ((simp only [List.getElem?_toArray, List.getElem?_cons_succ, List.getElem?_cons_zero]; exact rfl))); (focus (exact fun _ _ _ h => h)); (focus (refine Or.inl ⟨by rfl, ?_⟩; intro w hSw; have hd0 := hSw.cell d0; have zd0 := cell_lt hd0; dsimp only at zd0; (first | (go_simp; done) | (go_simp; with_reducible rfl)))); (try simp only [Act.put, List.setIfInBounds_toArray, List.set_cons_zero, List.set_cons_succ]))
          (refine ePu 3 ?_)
          (refine wpAnyE_take (oi := ?_) (v := ?_) (i := 4) ?_ (by kernel_rfl) ?_ ?_ (by assumption) ?_; rotate_left 2; (focus ((simp only [List.getElem?_toArray, List.getElem?_cons_succ, List.getElem?_cons_zero]; exact rfl))); (focus (exact fun _ _ _ h => h)); (focus (refine Or.inl ⟨by rfl, ?_⟩; intro w hSw; have hr0 := hSw.cell r0; have zr0 := cell_lt hr0; dsimp only at zr0; have hr1 := hSw.cell r1; have zr1 := cell_lt hr1; dsimp only at zr1; have hr2 := hSw.cell r2; have zr2 := cell_lt hr2; dsimp only at zr2; (first | (go_simp; done) | (go_simp; with_reducible rfl)))); (try simp only [Act.put, List.setIfInBounds_toArray, List.set_cons_zero, List.set_cons_succ]))
          (refine ePu 5 ?_)
          (refine wpAnyE_take (oi := ?_) (v := ?_) (i := 6) ?_ (by kernel_rfl) ?_ ?_ (by assumption) ?_; rotate_left 2; (focus ((simp only [List.getElem?_toArray, List.getElem?_cons_succ, List.getElem?_cons_zero]; exact rfl))); (focus (exact fun _ _ _ h => h)); (focus (refine Or.inl ⟨by rfl, ?_⟩; intro w hSw; have hd1 := hSw.cell d1; have zd1 := cell_lt hd1; dsimp only at zd1; (first | (go_simp; done) | (go_simp; with_reducible rfl)))); (try simp only [Act.put, List.setIfInBounds_toArray, List.set_cons_zero, List.set_cons_succ]))
          (refine ePu 7 ?_)
          (refine wpAnyE_one (i := 8) (o := ?_) ?_ (by kernel_rfl) (fun K hK => ?_); rotate_left; (focus ((simp only [List.getElem?_toArray, List.getElem?_cons_succ, List.getElem?_cons_zero]; exact rfl))); go_simp; refine (HL.out _ (E5.trans (EWB.trans hS))).mono ?_; rintro e v9 ⟨rfl, hE⟩; go_wp2_with fail; refine hK.out _ _ (hS.trans hE) (fun hHeld => ?_); clear hK K hHeld; (try simp only [Act.put, List.setIfInBounds_toArray, List.set_cons_zero, List.set_cons_succ]); replace hS := hS.trans hE; clear hE)
          ((refine ePu 9 ?_); (refine ePu 10 ?_); (refine ePu 11 ?_))
          have Y7 := ((Y.ext hS).set0 n1).set1 n2
          have S7 := (S.ext (EWB.trans hS)).two (c := kb + 1) (o1 := 0) (v := txt n1) (o2 := 1) (u := txt n2) hys
          have E47 := ((he4.trans (EWB.trans hS)).set (b := kb + 1) (o := 0) hyb (txt n1)).set (b := kb + 1) (o := 1) hyb (txt n2)
          obtain ⟨y0, y1, fy0, fy1⟩ := Y.ext hS
          have zy := cell_lt y0
          dsimp only at zy
          (refine wpAnyE_free (i := 12) (o := ?_) ?_ (by kernel_rfl) (by kernel_rfl) (fun K hK => ?_); rotate_left; (focus ((simp only [List.getElem?_toArray, List.getElem?_cons_succ, List.getElem?_cons_zero]; exact rfl))); go_simp; refine hK.out _ _ ?_; clear hK K; (try simp only [Act.put, List.setIfInBounds_toArray, List.set_cons_zero, List.set_cons_succ]))
          (refine ePu 13 ?_)
          refine wpAnyE_done (by kernel_rfl) ?_ _
          clear y0 y1 fy0 fy1 zy
          generalize ((v9.setCell ⟨kb + 1, 0, none⟩ (txt n1)).setCell ⟨kb + 1, 1, none⟩ (txt n2)) = W7 at Y7 S7 E47 ⊢
          have S7' := S7
          obtain ⟨e0, e1, _, _⟩ := S7'
          obtain ⟨y0, y1, _, _⟩ := Y7
          have ze := cell_lt e0
          have zy := cell_lt y0
          dsimp only at ze zy
          go_wp2_with fail
          refine (HA2.out _ (E4.trans E47)).mono ?_
          rintro e w8 ⟨rfl, hE8⟩
          have S8 := ((S7.ext hE8).set0 t1).set1 t2
          have E48 := ((E47.trans hE8).set (b := sb) (o := 0) hsb4 (txt t1)).set (b := sb) (o := 1) hsb4 (txt t2)
          obtain ⟨g0, g1, fg0, fg1⟩ := S7.ext hE8
          have zg := cell_lt g0
          dsimp only at zg
          clear e0 e1 y0 y1 ze zy hE8
          go_wp2
          exact ⟨⟨k + 1, by omega, by go_num, rfl, ⟨_, _, S8, HT.out⟩, E48⟩, by simp [intOf]; omega⟩
        · have hke : k = wd.length := by omega
          subst hke
          have h5 := hS12.out
          rw [HEND.out] at h5
          have HF : Hid (R = ((s1, s2), 0)) := by show _ = _; rw [HRQ.out, h5]
          obtain ⟨d0, d1, g0, g1⟩ := X5
          obtain ⟨e0, e1, f0, f1⟩ := S
          have zd := cell_lt d0
          have ze := cell_lt e0
          dsimp only at zd ze
          clear h5 hS12
          go_wp2
          refine bodyPost_ret (v := .tuple #[.agg #[txt s1, txt s2], .int .i64 0]) (by rw [results_cell_tmp1 rfl]; go_simp) rfl ?_
          exact ⟨by rw [HF.out], extA⟩
end Go.Proofs.YtlnonmmaknhppaaGreatDoor
namespace Go.Proofs.YtlnonmmaknhppaaGreatDoor
def cntK : List Stk → Int → Bool → Int
  | [], _, _ => 0
  | x :: l, a, o => (if x.1 = a ∧ x.2 = o then 1 else 0) + cntK l a o
def b2i (b : Bool) : Int := if b = true then 1 else 0
theorem cntK_cons (x : Stk) (l : List Stk) (a : Int) (o : Bool) : cntK (x :: l) a o = (if x.1 = a ∧ x.2 = o then 1 else 0) + cntK l a o := rfl
theorem cntK_append (l m : List Stk) (a : Int) (o : Bool) : cntK (l ++ m) a o = cntK l a o + cntK m a o := by
  induction l with
  | nil => simp [cntK]
  | cons x l ih => simp only [List.cons_append, cntK, ih]; omega
theorem cntK_nn (l : List Stk) (a : Int) (o : Bool) : 0 ≤ cntK l a o ∧ cntK l a o ≤ l.length := by
  induction l with
  | nil => simp [cntK]
  | cons x l ih => unfold cntK; rw [List.length_cons]; split <;> omega
theorem cntK_take {w : List Stk} {k : Nat} (h : k < w.length) (a : Int) (o : Bool) : cntK (w.take (k + 1)) a o = cntK (w.take k) a o + if (w.getD k stk0).1 = a ∧ (w.getD k stk0).2 = o then 1 else 0 := by
  rw [take_snoc stk0 h, cntK_append]
  simp [cntK]
theorem strokes_gt : ∀ (l : List Stk) (last : Int), ckStrokes last l = 0 → ∀ y ∈ l, last < y.1 := by
  intro l
  induction l with
  | nil => intro _ _ y hy; cases hy
  | cons x l ih =>
    intro last h y hy
    unfold ckStrokes at h
    split at h
    · cases h
    · split at h
      · cases h
      · split at h
        · cases h
        · rename_i h1 h2 h3
          rcases List.mem_cons.1 hy with rfl | hy
          · omega
          · have := ih _ h y hy; omega
theorem beh_cons (e : Int → Bool) (y : Stk) (l : List Stk) : beh e (y :: l) = beh (fun i => if i = y.1 then y.2 else e i) l := rfl
theorem same_cons (e : Int → Bool) (y : Stk) (l : List Stk) : anySame e (y :: l) = ((e y.1 == y.2) || anySame e l) := rfl
theorem step_cnt : ∀ (l : List Stk) (last : Int) (e : Int → Bool), ckStrokes last l = 0 → anySame e l = false → ∀ a, b2i (beh e l a) = b2i (e a) + cntK l a true - cntK l a false := by
  intro l
  induction l with
  | nil => intro _ e _ _ a; simp [beh, cntK]
  | cons y l ih =>
    intro last e h hs a
    have hgt := strokes_gt _ _ h
    have h' : ckStrokes y.1 l = 0 := by
      unfold ckStrokes at h
      split at h
      · cases h
      · split at h
        · cases h
        · split at h
          · cases h
          · exact h
    have hg2 := strokes_gt _ _ h'
    rw [same_cons, Bool.or_eq_false_iff] at hs
    have hs2 : anySame (fun i => if i = y.1 then y.2 else e i) l = false := by
      unfold anySame at hs ⊢
      rw [List.any_eq_false] at hs ⊢
      intro z hz
      have h1 := hs.2 z hz
      have h2 := hg2 z hz
      dsimp only
      rw [if_neg (by omega)]
      exact h1
    rw [beh_cons, ih _ _ h' hs2 a, cntK_cons, cntK_cons]
    have h3 := hs.1
    by_cases ha : y.1 = a
    · subst ha
      rw [if_pos rfl]
      cases hy : y.2
      · rw [hy] at h3
        have : e y.1 = true := by cases he : e y.1 <;> simp_all
        rw [this, if_neg (by simp), if_pos ⟨rfl, rfl⟩]
        first | (simp [b2i]; done) | (simp [b2i]; omega)
      · rw [hy] at h3
        have : e y.1 = false := by cases he : e y.1 <;> simp_all
        rw [this, if_pos ⟨rfl, rfl⟩, if_neg (by simp)]
        first | (simp [b2i]; done) | (simp [b2i]; omega)
    · rw [if_neg (fun h => ha h.symm), if_neg (fun h => ha h.1), if_neg (fun h => ha h.1)]
      omega
theorem wordL_cons (x : Stp) (l : List Stp) : wordL (x :: l) = x.1 ++ wordL l := rfl
theorem walk_cnt {n : Int} : ∀ (l : List Stp) (e : Int → Bool), ckWalk n e l = 0 → ∀ a, b2i (behAll e l a) = b2i (e a) + cntK (wordL l) a true - cntK (wordL l) a false := by
  intro l
  induction l with
  | nil => intro e _ a; simp [behAll, wordL, cntK]
  | cons x l ih =>
    intro e h a
    have hf : ckFit n x e = 0 := by
      by_cases hf : ckFit n x e = 0
      · exact hf
      · unfold ckWalk at h; rw [if_pos hf] at h; exact h
    have hw : ckWalk n (beh e x.1) l = 0 := by unfold ckWalk at h; rw [if_neg (not_not_intro hf)] at h; exact h
    obtain ⟨h1, _, h3⟩ := ckFit_ok hf
    have h4 := (ckStep_strokes h1).1
    have h5 := step_cnt x.1 (-1) e h4 h3 a
    have h6 := ih (beh e x.1) hw a
    rw [wordL_cons, cntK_append, cntK_append]
    show b2i (behAll (beh e x.1) l a) = _
    omega
theorem word_even {n : Int} {st : List Stp} (h : ckSeq (n, st) = 0) {i : Nat} (hi : (i : Int) < n) : cntK (wordL st) i false = cntK (wordL st) i true := by
  obtain ⟨_, _, _, _, hwk, hend, _⟩ := ckSeq_zero h
  have h1 := walk_cnt st none6 hwk (i : Int)
  have h2 : behAll none6 st (i : Int) = false := by
    rw [List.any_eq_false] at hend
    have := hend (i : Int) (by unfold ints; exact List.mem_map.2 ⟨i, List.mem_range.2 (by omega), rfl⟩)
    simpa using this
  rw [h2] at h1
  have h3 : b2i (none6 (i : Int)) = 0 := rfl
  have h4 : b2i false = 0 := rfl
  omega
def wordM (l : List Stk) : List (Nat × Bool) := l.map fun x => (x.1.toNat, x.2)
theorem cnt_wordM {l : List Stk} (h : ∀ x ∈ l, 0 ≤ x.1) (i : Nat) (o : Bool) : cntN (wordM l) i o = cntK l (i : Int) o := by
  induction l with
  | nil => rfl
  | cons x l ih =>
    have h1 := h x (by simp)
    show (if x.1.toNat = i ∧ x.2 = o then 1 else 0) + cntN (wordM l) i o = (if x.1 = (i : Int) ∧ x.2 = o then 1 else 0) + cntK l i o
    rw [ih fun y hy => h y (List.mem_cons_of_mem _ hy)]
    congr 1
    by_cases hx : x.1 = (i : Int) ∧ x.2 = o
    · rw [if_pos hx, if_pos ⟨by omega, hx.2⟩]
    · rw [if_neg hx, if_neg (fun g => hx ⟨by omega, g.2⟩)]
theorem str_wordM (l : List Cyl) (p : Int) (w : List Stk) : strN l p w = wordN (fun i o => litN (l.getD i cyl0) o p) (wordM w) := by
  induction w with
  | nil => rfl
  | cons x w ih => show _ + _ = _ + _; rw [ih]; rfl
def bothN (l : List Cyl) (p : Int) (i : Nat) : Int := litN (l.getD i cyl0) true p + litN (l.getD i cyl0) false p
def needN (l : List Cyl) (p : Int) (w : List Stk) (i : Nat) : Int := cntK w (i : Int) true * bothN l p i
theorem cyc_acts {l : List Cyl} {n : Int} {st : List Stp} {p : Int} (h : CycOk l n st p) (hk : ckSeq (n, st) = 0) : strN l p (wordL st) = actN (needN l p (wordL st)) l.length := by
  have hl := h.len
  have hin := word_in h.fine
  rw [str_wordM, word_both (m := l.length)]
  · refine actN_congr _ fun i _ => ?_
    rw [cnt_wordM fun x hx => (hin x hx).1]
    rfl
  · intro x hx
    unfold wordM at hx
    obtain ⟨y, hy, rfl⟩ := List.mem_map.1 hx
    have := hin y hy
    dsimp only
    omega
  · intro i hi
    rw [cnt_wordM (fun x hx => (hin x hx).1), cnt_wordM (fun x hx => (hin x hx).1)]
    exact word_even hk (by omega)
theorem both_bd {l : List Cyl} {n : Int} {st : List Stp} {p : Int} (h : CycOk l n st p) {i : Nat} (hi : i < l.length) : 0 ≤ bothN l p i ∧ bothN l p i ≤ 3151500000000 ∧ CylOk (l.getD i cyl0) := by
  have hc := h.cyl _ (getD_inA (d := cyl0) hi)
  have h1 := litN_bd hc true h.p1 h.p2
  have h2 := litN_bd hc false h.p1 h.p2
  unfold bothN
  exact ⟨by omega, by omega, hc⟩
theorem need_bd {l : List Cyl} {n : Int} {st : List Stp} {p : Int} (h : CycOk l n st p) {i : Nat} (hi : i < l.length) {j : Int} (h0 : 0 ≤ j) (h1 : j ≤ cntK (wordL st) (i : Int) true) : 0 ≤ j * bothN l p i ∧ j * bothN l p i ≤ 1210176000000000 := by
  obtain ⟨b1, b2, _⟩ := both_bd h hi
  have h2 := (cntK_nn (wordL st) (i : Int) true).2
  have h3 := word_len h.fine h.s64
  have h4 : j * bothN l p i ≤ 384 * 3151500000000 := Int.mul_le_mul (by omega) b2 b1 (by omega)
  exact ⟨Int.mul_nonneg h0 b1, by omega⟩
theorem act_bd {l : List Cyl} {n : Int} {st : List Stp} {p : Int} (h : CycOk l n st p) : ∀ k, k ≤ l.length → 0 ≤ actN (needN l p (wordL st)) k ∧ actN (needN l p (wordL st)) k ≤ k * 1210176000000000 := by
  intro k
  induction k with
  | zero => intro _; simp [actN]
  | succ k ih =>
    intro hk
    obtain ⟨g1, g2⟩ := ih (by omega)
    obtain ⟨n1, n2⟩ := need_bd h (i := k) (by omega) (cntK_nn (wordL st) (k : Int) true).1 (Int.le_refl _)
    unfold actN
    have e : needN l p (wordL st) k = cntK (wordL st) (k : Int) true * bothN l p k := rfl
    rw [e]
    push_cast
    omega
end Go.Proofs.YtlnonmmaknhppaaGreatDoor
namespace Go.Proofs.YtlnonmmaknhppaaGreatDoor
open Go.RowKit
def badC (l : List Cyl) : Bool := decide (cylsE l ≠ 0)
set_option maxHeartbeats 2000000 in
theorem cyc1_any (c : Cyl) (w : World) (h : Cyl64 c) : Calls Tryz.prog 46 #[cylV c] w fun e w' => e = .returned (.bool (decide (cylE c ≠ 0))) ∧ Ext w w' := by
  have HK := Lib.hid (fun W => rCheck5_any c W h)
  have HB : Hid ((((cylE c : Nat) : Int) != 0) = decide (cylE c ≠ 0)) := by
    show _ = _
    rw [Bool.eq_iff_iff, bne_iff_ne, decide_eq_true_eq]
    omega
  generalize decide (cylE c ≠ 0) = b at HB ⊢
  generalize cylE c = n at HK HB
  obtain ⟨x, y, z⟩ := c
  dsimp only [cylV] at HK ⊢
  clear h
  have E : Ext w (w.alloc (.cells #[.int .i64 x, .int .i64 y, .int .i64 z] 46)) := extA
  go_enter Tryz.func46, Tryz.ntmps46
  go_wp2_with fail
  refine (HK.out _).mono ?_
  rintro e w1 ⟨rfl, hE⟩
  have hx := HB.out
  go_wp2
  go_ret
  exact ⟨rfl, E.trans hE⟩
def PostB (b : Bool) (w : World) (e : Ending) (w' : World) : Prop := ∃ r : Int, e = .returned (.int .i64 r) ∧ decide (0 ≤ r) = b ∧ Ext w w'
set_option maxHeartbeats 4000000 in
set_option maxRecDepth 100000 in
theorem IndexC_any (l : List Cyl) (a : Option Addr) (cap : Nat) (w : World) (hl : l.length ≤ 100) (hc : CellsC w a l) (h64 : ∀ c ∈ l, Cyl64 c) :
    Calls Tryz.prog 92 #[.slice a l.length cap, .func (.func 46) #[] #[]] w (PostB (badC l) w) := by
  have HC := Lib.hid hc
  have HK := Lib.hid (fun c W (h : c ∈ l) => cyc1_any c W (h64 c h))
  obtain ⟨R, hR⟩ : ∃ R, R = badC l := ⟨_, rfl⟩
  rw [← hR]
  have HR : Hid (R = decide (cylsE (l.drop 0) ≠ 0)) := hR
  unfold PostB
  clear hc h64 hR
  go_enter Tryz.func92, Tryz.ntmps92
  go_wp2
  go_loopw [8] (fun x wr => ∃ k : Nat, k ≤ l.length ∧ x = .int .i64 k ∧ Hid (R = decide (cylsE (l.drop k) ≠ 0)) ∧ Ext w wr) (fun x _ => l.length - (intOf x).toNat)
  case atStart => exact ⟨0, Nat.zero_le _, rfl, HR.out, Ext.refl _⟩
  case round =>
    obtain ⟨k, hk, rfl, hz, he⟩ := hrel
    by_cases hlt : k < l.length
    · obtain ⟨b, off, ha, p0, p1, p2⟩ := HC.out.ext he k hlt
      subst ha
      have hz2 := hz.out
      rw [cylsE_drop hlt] at hz2
      have HKc := Lib.hid (fun W => HK.out (l.getD k cyl0) W (getD_inA hlt))
      generalize l.getD k cyl0 = c at p0 p1 p2 HKc hz2
      by_cases hq : cylE c = 0
      · rw [if_neg (not_not_intro hq)] at hz2
        have HZ := Lib.hid hz2
        rw [decide_eq_false (not_not_intro hq)] at HKc
        obtain ⟨x, y, z⟩ := c
        dsimp only [cylV] at p0 p1 p2 HKc
        have z0 := cell_lt p0
        dsimp only at z0
        clear hz2 hz hq
        go_wp2_with fail
        refine (HKc.out _).mono ?_
        rintro e w5 ⟨rfl, hE⟩
        go_wp2
        exact ⟨⟨k + 1, by omega, by go_num, HZ.out, he.trans hE⟩, by simp [intOf]; omega⟩
      · rw [if_pos hq, decide_eq_true hq] at hz2
        have HZ := Lib.hid hz2
        rw [decide_eq_true hq] at HKc
        obtain ⟨x, y, z⟩ := c
        dsimp only [cylV] at p0 p1 p2 HKc
        have z0 := cell_lt p0
        dsimp only at z0
        clear hz2 hz hq
        go_wp2_with fail
        refine (HKc.out _).mono ?_
        rintro e w5 ⟨rfl, hE⟩
        go_wp2
        go_ret
        exact ⟨_, rfl, by rw [HZ.out]; exact decide_eq_true (by omega), he.trans hE⟩
    · have hke : k = l.length := by omega
      subst hke
      have hz2 := hz.out
      rw [List.drop_length] at hz2
      have HZ : Hid (R = false) := hz2
      clear hz hz2
      go_wp2
      go_ret
      exact ⟨_, rfl, by rw [HZ.out]; rfl, he⟩
set_option maxHeartbeats 2000000 in
theorem ContainsC_any (l : List Cyl) (a : Option Addr) (cap : Nat) (w : World) (hl : l.length ≤ 100) (hc : CellsC w a l) (h64 : ∀ c ∈ l, Cyl64 c) :
    Calls Tryz.prog 45 #[.slice a l.length cap, .func (.func 46) #[] #[]] w fun e w' => e = .returned (.bool (badC l)) ∧ Ext w w' := by
  have HI := Lib.hid (IndexC_any l a cap w hl hc h64)
  unfold PostB at HI
  generalize badC l = b at HI ⊢
  clear hc h64
  go_enter Tryz.func45, Tryz.ntmps45
  go_wp2_with fail
  refine HI.out.mono ?_
  rintro e w1 ⟨r, rfl, hr, hE⟩
  go_wp2
  go_ret
  exact ⟨rfl, hE⟩
end Go.Proofs.YtlnonmmaknhppaaGreatDoor
namespace Go.Proofs.YtlnonmmaknhppaaGreatDoor
open Go.RowKit
theorem wp_keyA {P : Program} {C : Code} {a0 : Act} {w : World} {Q : Exit → Act → World → Prop} (X : Act → Act → World → Prop) (h1 : ∀ a W, X a0 a W → Q .normal a W) (h2 : (∀ a W, X a0 a W → Q .normal a W) → C.wp P Q a0 w) : C.wp P Q a0 w := h2 h1
def CycX (w1 : World) (r1 r2 : Txt) (v65 v67 v68 : Value) (N : Nat) (a0 a : Act) (W : World) : Prop :=
  ∃ xb ca2 cc2, a = (((((((((a0.put (some 65) v65).put (some 66) (.slice ca2 N cc2)).put (some 67) v67).put (some 68) v68).put (some 69) (.tuple #[.agg #[txt r1, txt r2], .int .i64 0])).put (some 64) (.tuple #[.agg #[txt r1, txt r2], .int .i64 0])).put (some 70) (.agg #[txt r1, txt r2])).put (some 71) (.int .i64 0)).put (some 7) (.pointer (some ⟨xb, 0, none⟩))).put (some 8) (.int .i64 0) ∧
    EncAt xb W r1 r2 ∧ w1.heap.size ≤ xb ∧ Ext w1 W
theorem badC_no {l : List Cyl} (h : badC l = false) : cylsE l = 0 := by
  unfold badC at h
  rw [decide_eq_false_iff_not] at h
  omega
theorem stroke_lit {c : Cyl} (h : CylOk c) (o : Bool) {p : Int} (h1 : 1 ≤ p) (h2 : p ≤ 2000) : strokeS c o p = (sumT (litN c o p), 0) := by
  unfold strokeS
  rw [if_neg (not_not_intro (pres_of h h1 h2)), litT_is]
set_option maxHeartbeats 64000000 in
set_option maxRecDepth 100000 in
theorem lawCycles_any (l : List Cyl) (ca : Option Addr) (cc : Nat) (n : Int) (st : List Stp) (a : Option Addr) (cap : Nat) (p : Int) (w : World) (hG : Glob w) (hc : CellsC w ca l) (h64 : ∀ c ∈ l, Cyl64 c) (hs : CellsP w a st) (hsl : st.length ≤ maxLen) :
    Calls Tryz.prog 11 #[.slice ca l.length cc, .agg #[.int .i64 n, .slice a st.length cap], .int .i64 p] w fun e w' => e = .returned (.bool true) ∧ Ext w w' := by
  have HG := Lib.hid hG
  have HC := Lib.hid hc
  have HA := Lib.hid (fun W (g : Ext w W) => awake5_any W (HG.out.ext g))
  have HFW := Lib.hid (fun W (g : Ext w W) => Few_any (.int .i64 n) st a cap W hsl (hs.ext g))
  have HKR := Lib.hid (fun W (g : Ext w W) => CheckR_any n st a cap W hsl (hs.ext g))
  have HCN := Lib.hid (fun W (g : Ext w W) (hl : l.length ≤ 100) => ContainsC_any l ca cc W hl (hc.ext g) h64)
  have HAL := Lib.hid (fun W (g : Ext w W) (hl : l.length ≤ 100) => all_any l ca cc W hl (hc.ext g))
  have HX := fun ca' cc' W (g : Ext w W) (hl : l.length ≤ 100) (hcc : CellsC W ca' l) => aCycle_any l n st p ca' cc' a cap W (HG.out.ext g) (by omega) hcc (hs.ext g) hsl
  have HFR := Lib.hid (fun W (g : Ext w W) h64 hf => First_any n st a cap W h64 hf (hs.ext g))
  have HSE := Lib.hid (fun (c : Cyl) W => sent_any c W)
  have HSR := fun (c : Cyl) o W (g : Ext w W) => aStroke_any c o p W (HG.out.ext g)
  have HAD := Lib.hid (fun (M N : Int) (W : World) (g : Ext w W) (hM : 0 ≤ M) (hN : 0 ≤ N) (h : M + N ≤ 10 ^ 20) => by
    have hh := sum_add hM hN h
    have h1 := eAdd_any (sumT M) (sumT N) W (HG.out.ext g) hh.2.1 hh.2.2.1
    rw [hh.1] at h1
    exact h1)
  unfold CycP at HX
  replace HX := Lib.hid HX
  replace HSR := Lib.hid HSR
  clear hG hc hs
  have c0 : ((w.alloc (.cells #[.int .i64 n, .slice a st.length cap] 71))).cell? ⟨w.heap.size, 0, none⟩ = some (.int .i64 n) := by go_simp
  have c1 : ((w.alloc (.cells #[.int .i64 n, .slice a st.length cap] 71))).cell? ⟨w.heap.size, 1, none⟩ = some (.slice a st.length cap) := by go_simp
  have E : Ext w (w.alloc (.cells #[.int .i64 n, .slice a st.length cap] 71)) := extA
  unfold maxLen at hsl
  by_cases h1 : 6 < l.length
  · have k1 : (6 : Int) < (l.length : Int) := by omega
    go_enter Tryz.func11, Tryz.ntmps11
    go_wp2_with (go_at_call 13; refine (HA.out _ E).mono ?_; rintro e wz ⟨rfl, hE⟩)
    go_ret
    exact ⟨rfl, E.trans hE⟩
  have k1 : ¬ (6 : Int) < (l.length : Int) := by omega
  have hl100 : l.length ≤ 100 := by omega
  generalize fewB st = fw at HFW
  obtain ⟨er, her⟩ : ∃ er, er = ckSeq (n, st) := ⟨_, rfl⟩
  rw [← her] at HKR
  have HER := Lib.hid her
  obtain ⟨bd, hbd⟩ : ∃ bd, bd = badC l := ⟨_, rfl⟩
  rw [← hbd] at HCN
  have HBD := Lib.hid hbd
  clear her hbd
  go_enter Tryz.func11, Tryz.ntmps11
  go_wp2_with fail
  generalize (w.alloc (.cells #[.int .i64 n, .slice a st.length cap] 71)) = w0 at c0 c1 E ⊢
  refine (HFW.out _ E).mono ?_
  rintro e w1 ⟨rfl, hE⟩
  replace E := E.trans hE
  have c0 := (hE).cell c0
  have c1 := (hE).cell c1
  have z0 := cell_lt c0
  dsimp only at z0
  clear hE
  cases fw
  · skip
    go_wp2_with (go_at_call 13; refine (HA.out _ E).mono ?_; rintro e wz ⟨rfl, hE⟩)
    go_ret
    exact ⟨rfl, E.trans hE⟩
  by_cases h2 : 10 < st.length
  · have k2 : (10 : Int) < (st.length : Int) := by omega
    go_wp2_with (go_at_call 13; refine (HA.out _ E).mono ?_; rintro e wz ⟨rfl, hE⟩)
    go_ret
    exact ⟨rfl, E.trans hE⟩
  have k2 : ¬ (10 : Int) < (st.length : Int) := by omega
  go_wp2_with fail
  refine (HKR.out _ E).mono ?_
  rintro e w2 ⟨rfl, hE⟩
  replace E := E.trans hE
  have c0 := (hE).cell c0
  have c1 := (hE).cell c1
  have z0 := cell_lt c0
  dsimp only at z0
  clear hE
  by_cases h3 : er = 0
  rotate_left
  · clear HER
    go_wp2_with (go_at_call 13; refine (HA.out _ E).mono ?_; rintro e wz ⟨rfl, hE⟩)
    go_ret
    exact ⟨rfl, E.trans hE⟩
  subst h3
  by_cases h4 : (l.length : Int) = n
  rotate_left
  · skip
    go_wp2_with (go_at_call 13; refine (HA.out _ E).mono ?_; rintro e wz ⟨rfl, hE⟩)
    go_ret
    exact ⟨rfl, E.trans hE⟩
  have HN := Lib.hid h4
  by_cases h5 : p < 1
  · skip
    go_wp2_with (go_at_call 13; refine (HA.out _ E).mono ?_; rintro e wz ⟨rfl, hE⟩)
    go_ret
    exact ⟨rfl, E.trans hE⟩
  by_cases h6 : 2000 < p
  · skip
    go_wp2_with (go_at_call 13; refine (HA.out _ E).mono ?_; rintro e wz ⟨rfl, hE⟩)
    go_ret
    exact ⟨rfl, E.trans hE⟩
  go_wp2_with fail
  refine (HCN.out _ E hl100).mono ?_
  rintro e w3 ⟨rfl, hE⟩
  replace E := E.trans hE
  have c0 := (hE).cell c0
  have c1 := (hE).cell c1
  have z0 := cell_lt c0
  dsimp only at z0
  clear hE
  cases bd
  rotate_left
  · skip
    go_wp2_with (go_at_call 13; refine (HA.out _ E).mono ?_; rintro e wz ⟨rfl, hE⟩)
    go_ret
    exact ⟨rfl, E.trans hE⟩
  obtain ⟨hN1, hN6, _, hl64, hwk, _, _⟩ := ckSeq_zero HER.out.symm
  have HOK : Hid (CycOk l n st p) := ⟨HN.out, hN1, hN6, hl64, ckWalk_fine hwk, cylsE_zero (badC_no HBD.out.symm), by omega, by omega⟩
  have hp : 1 ≤ p ∧ p ≤ 2000 := by omega
  obtain ⟨wd, hwd⟩ : ∃ wd, wd = wordL st := ⟨_, rfl⟩
  have hwl := word_len HOK.out.fine hl64
  rw [← hwd] at hwl
  have HFR2 := Lib.hid (fun W g => HFR.out W g hl64 HOK.out.fine)
  rw [← hwd] at HFR2
  have hR : cycS l n st p = (sumT (strN l p wd), 0) := by
    unfold cycS
    rw [if_neg (not_not_intro HER.out.symm), if_neg (not_not_intro HN.out), if_neg (not_not_intro (badC_no HBD.out.symm)), if_neg, hwd]
    unfold presE1 presB
    rw [if_neg (by simp only [Bool.or_eq_true, decide_eq_true_eq]; omega)]
    decide
  have hacts := cyc_acts HOK.out HER.out.symm
  rw [← hwd] at hacts
  rw [hR, hacts] at HX
  have HAB : Hid (∀ k, k ≤ l.length → 0 ≤ actN (needN l p wd) k ∧ actN (needN l p wd) k ≤ k * 1210176000000000) := fun k hk => by
    have := act_bd HOK.out k hk
    rw [← hwd] at this
    exact this
  have HNB : Hid (∀ (i : Nat), i < l.length → ∀ j : Int, 0 ≤ j → j ≤ cntK wd (i : Int) true → 0 ≤ j * bothN l p i ∧ j * bothN l p i ≤ 1210176000000000) := fun i hi j h0 h1 => by
    rw [hwd] at h1
    exact need_bd HOK.out hi h0 h1
  have HBB : Hid (∀ (i : Nat), i < l.length → CylOk (l.getD i cyl0)) := fun i hi => (both_bd HOK.out hi).2.2
  have HCK : Hid (∀ M : Int, 0 ≤ M → M ≤ 10 ^ 20 → ∀ W, Calls Tryz.prog 17 #[encV (sumT M)] W fun e w' => e = .returned (.int .i64 0) ∧ Ext W w') := fun M h0 h1 W => by
    have hg := (sum_good h0 h1).1
    have h := rCheck2_any (sumT M) W hg.len
    rw [hg.ok] at h
    exact h
  have hAL := HAB.out l.length (Nat.le_refl _)
  have HCU := Lib.hid (HCK.out (actN (needN l p wd) l.length) hAL.1 (by omega))
  obtain ⟨U, hU⟩ : ∃ U, U = sumT (actN (needN l p wd) l.length) := ⟨_, rfl⟩
  rw [← hU] at HX HCU
  have HU := Lib.hid hU
  obtain ⟨r1, r2⟩ := U
  dsimp only [encV] at HX HCU
  clear hwk hwd hR hacts hU hAL HCK HFR HCN HKR HFW HOK HER HBD h1 h2 hl64 hN1 hN6
  have k5 : ¬ p < 1 := by omega
  have k6 : ¬ 2000 < p := by omega
  go_wp2_with fail
  refine wp_keyA (CycX w3 r1 r2 (.slice ca l.length cc) (.agg #[.int .i64 n, .slice a st.length cap]) (.int .i64 p) l.length) ?tail ?reg
  case reg =>
    intro hQ
    have hS : Ext w3 w3.drew := extA
    refine wp_region_heldE 9 (Ext w3) (by kernel_rfl) ?_
    generalize w3.drew = v0 at hS ⊢
    ((refine ePu 0 ?_); (refine ePu 3 ?_))
    (refine wpAnyE_take (oi := ?_) (v := ?_) (i := 2) ?_ (by kernel_rfl) ?_ ?_ (by assumption) ?_; rotate_left 2; (focus ((simp only [List.getElem?_toArray, List.getElem?_cons_succ, List.getElem?_cons_zero]; exact rfl))); (focus (exact fun _ _ _ h => h)); (focus (refine Or.inl ⟨by rfl, ?_⟩; intro w hSw; have hc0 := hSw.cell c0; have zc0 := cell_lt hc0; dsimp only at zc0; have hc1 := hSw.cell c1; have zc1 := cell_lt hc1; dsimp only at zc1; (first | (go_simp; done) | (go_simp; with_reducible rfl)))); (try simp only [Act.put, List.setIfInBounds_toArray, List.set_cons_zero, List.set_cons_succ]))
    refine wpAnyE_two (i := 1) (j := 8) (o := ?_) (p := ?_) (by (simp only [List.getElem?_toArray, List.getElem?_cons_succ, List.getElem?_cons_zero]; exact rfl)) (by (simp only [List.getElem?_toArray, List.getElem?_cons_succ, List.getElem?_cons_zero]; exact rfl)) (by kernel_rfl) (fun K hK => ?_) (fun K hK => ?_)
    · skip
      go_simp
      refine (HAL.out _ (E.trans hS) hl100).mono ?_
      rintro e v0 ⟨v, rfl, hO, hE⟩
      obtain ⟨ca2, cc2, rfl, hcc, _⟩ := hO.reads
      replace hcc := Lib.hid hcc
      clear hO
      go_wp2_with fail
      refine hK.out _ _ (hS.trans hE) (fun hHeld => ?_)
      clear hK K hHeld
      (try simp only [Act.put, List.setIfInBounds_toArray, List.set_cons_zero, List.set_cons_succ])
      replace hS := hS.trans hE
      clear hE
      refine wpAnyE_two (i := 4) (j := 8) (o := ?_) (p := ?_) (by (simp only [List.getElem?_toArray, List.getElem?_cons_succ, List.getElem?_cons_zero]; exact rfl)) (by (simp only [List.getElem?_toArray, List.getElem?_cons_succ, List.getElem?_cons_zero]; exact rfl)) (by kernel_rfl) (fun K hK => ?_) (fun K hK => ?_)
      · skip
        go_simp
        refine (HX.out _ _ _ (E.trans hS) hl100 hcc.out).mono ?_
        clear hcc
        rintro e v0 ⟨rfl, hE⟩
        go_wp2_with fail
        refine hK.out _ _ (hS.trans hE) (fun hHeld => ?_)
        clear hK K hHeld
        (try simp only [Act.put, List.setIfInBounds_toArray, List.set_cons_zero, List.set_cons_succ])
        replace hS := hS.trans hE
        clear hE
        ((refine ePu 5 ?_); (refine ePu 6 ?_); (refine ePu 7 ?_))
        refine wpAnyE_one (i := 8) (o := ?_) ?_ (by kernel_rfl) (fun K hK => ?_)
        rotate_left
        · (simp only [List.getElem?_toArray, List.getElem?_cons_succ, List.getElem?_cons_zero]; exact rfl)
        have hE : Ext v0 (v0.alloc (.cells #[.string ⟨#[]⟩, .string ⟨#[]⟩] 35)) := extA
        have X : EncAt v0.heap.size (v0.alloc (.cells #[.string ⟨#[]⟩, .string ⟨#[]⟩] 35)) [] [] := ⟨by go_simp, by go_simp, by go_simp, by go_simp⟩
        obtain ⟨xb, hxb⟩ : ∃ q, q = v0.heap.size := ⟨_, rfl⟩
        have hxw : w3.heap.size ≤ xb := by rw [hxb]; exact hS.size
        go_simp
        refine hK.out _ _ (hS.trans hE) (fun hHeld => ?_)
        clear hK K hHeld
        (try simp only [Act.put, List.setIfInBounds_toArray, List.set_cons_zero, List.set_cons_succ])
        rw [← hxb] at X ⊢
        clear hxb
        replace hS := hS.trans hE
        clear hE
        generalize (v0.alloc (.cells #[.string ⟨#[]⟩, .string ⟨#[]⟩] 35)) = v0 at X hS ⊢
        have X2 := (X.set0 r1).set1 r2
        have E3 := (hS.set (b := xb) (o := 0) hxw (txt r1)).set (b := xb) (o := 1) hxw (txt r2)
        obtain ⟨x0, x1, f0, f1⟩ := X
        have zx := cell_lt x0
        dsimp only at zx
        (refine wpAnyE_free (i := 9) (o := ?_) ?_ (by kernel_rfl) (by kernel_rfl) (fun K hK => ?_); rotate_left; (focus ((simp only [List.getElem?_toArray, List.getElem?_cons_succ, List.getElem?_cons_zero]; exact rfl))); go_simp; refine hK.out _ _ ?_; clear hK K; (try simp only [Act.put, List.setIfInBounds_toArray, List.set_cons_zero, List.set_cons_succ]))
        (refine ePu 10 ?_)
        refine wpAnyE_done (by kernel_rfl) ?_ _
        refine hQ _ _ ⟨xb, ca2, cc2, ?_, X2, hxw, E3⟩
        simp only [Act.put, List.setIfInBounds_toArray, List.set_cons_zero, List.set_cons_succ]
      · skip
        have hE : Ext v0 (v0.alloc (.cells #[.string ⟨#[]⟩, .string ⟨#[]⟩] 35)) := extA
        have X : EncAt v0.heap.size (v0.alloc (.cells #[.string ⟨#[]⟩, .string ⟨#[]⟩] 35)) [] [] := ⟨by go_simp, by go_simp, by go_simp, by go_simp⟩
        obtain ⟨xb, hxb⟩ : ∃ q, q = v0.heap.size := ⟨_, rfl⟩
        have hxw : w3.heap.size ≤ xb := by rw [hxb]; exact hS.size
        go_simp
        refine hK.out _ _ (hS.trans hE) (fun hHeld => ?_)
        clear hK K hHeld
        (try simp only [Act.put, List.setIfInBounds_toArray, List.set_cons_zero, List.set_cons_succ])
        replace hcc := Lib.hid (hcc.out.ext hE)
        rw [← hxb] at X ⊢
        clear hxb
        replace hS := hS.trans hE
        clear hE
        generalize (v0.alloc (.cells #[.string ⟨#[]⟩, .string ⟨#[]⟩] 35)) = v0 at X hS hcc ⊢
        refine wpAnyE_one (i := 4) (o := ?_) ?_ (by kernel_rfl) (fun K hK => ?_)
        rotate_left
        · (simp only [List.getElem?_toArray, List.getElem?_cons_succ, List.getElem?_cons_zero]; exact rfl)
        go_simp
        refine (HX.out _ _ _ (E.trans hS) hl100 hcc.out).mono ?_
        clear hcc
        rintro e v0 ⟨rfl, hE⟩
        go_wp2_with fail
        refine hK.out _ _ (hS.trans hE) (fun hHeld => ?_)
        clear hK K hHeld
        (try simp only [Act.put, List.setIfInBounds_toArray, List.set_cons_zero, List.set_cons_succ])
        replace X := X.ext hE
        replace hS := hS.trans hE
        clear hE
        ((refine ePu 5 ?_); (refine ePu 6 ?_); (refine ePu 7 ?_))
        have X2 := (X.set0 r1).set1 r2
        have E3 := (hS.set (b := xb) (o := 0) hxw (txt r1)).set (b := xb) (o := 1) hxw (txt r2)
        obtain ⟨x0, x1, f0, f1⟩ := X
        have zx := cell_lt x0
        dsimp only at zx
        (refine wpAnyE_free (i := 9) (o := ?_) ?_ (by kernel_rfl) (by kernel_rfl) (fun K hK => ?_); rotate_left; (focus ((simp only [List.getElem?_toArray, List.getElem?_cons_succ, List.getElem?_cons_zero]; exact rfl))); go_simp; refine hK.out _ _ ?_; clear hK K; (try simp only [Act.put, List.setIfInBounds_toArray, List.set_cons_zero, List.set_cons_succ]))
        (refine ePu 10 ?_)
        refine wpAnyE_done (by kernel_rfl) ?_ _
        refine hQ _ _ ⟨xb, ca2, cc2, ?_, X2, hxw, E3⟩
        simp only [Act.put, List.setIfInBounds_toArray, List.set_cons_zero, List.set_cons_succ]
    · skip
      have hE : Ext v0 (v0.alloc (.cells #[.string ⟨#[]⟩, .string ⟨#[]⟩] 35)) := extA
      have X : EncAt v0.heap.size (v0.alloc (.cells #[.string ⟨#[]⟩, .string ⟨#[]⟩] 35)) [] [] := ⟨by go_simp, by go_simp, by go_simp, by go_simp⟩
      obtain ⟨xb, hxb⟩ : ∃ q, q = v0.heap.size := ⟨_, rfl⟩
      have hxw : w3.heap.size ≤ xb := by rw [hxb]; exact hS.size
      go_simp
      refine hK.out _ _ (hS.trans hE) (fun hHeld => ?_)
      clear hK K hHeld
      (try simp only [Act.put, List.setIfInBounds_toArray, List.set_cons_zero, List.set_cons_succ])
      rw [← hxb] at X ⊢
      clear hxb
      replace hS := hS.trans hE
      clear hE
      generalize (v0.alloc (.cells #[.string ⟨#[]⟩, .string ⟨#[]⟩] 35)) = v0 at X hS ⊢
      refine wpAnyE_one (i := 1) (o := ?_) ?_ (by kernel_rfl) (fun K hK => ?_)
      rotate_left
      · (simp only [List.getElem?_toArray, List.getElem?_cons_succ, List.getElem?_cons_zero]; exact rfl)
      go_simp
      refine (HAL.out _ (E.trans hS) hl100).mono ?_
      rintro e v0 ⟨v, rfl, hO, hE⟩
      obtain ⟨ca2, cc2, rfl, hcc, _⟩ := hO.reads
      replace hcc := Lib.hid hcc
      clear hO
      go_wp2_with fail
      refine hK.out _ _ (hS.trans hE) (fun hHeld => ?_)
      clear hK K hHeld
      (try simp only [Act.put, List.setIfInBounds_toArray, List.set_cons_zero, List.set_cons_succ])
      replace X := X.ext hE
      replace hS := hS.trans hE
      clear hE
      refine wpAnyE_one (i := 4) (o := ?_) ?_ (by kernel_rfl) (fun K hK => ?_)
      rotate_left
      · (simp only [List.getElem?_toArray, List.getElem?_cons_succ, List.getElem?_cons_zero]; exact rfl)
      go_simp
      refine (HX.out _ _ _ (E.trans hS) hl100 hcc.out).mono ?_
      clear hcc
      rintro e v0 ⟨rfl, hE⟩
      go_wp2_with fail
      refine hK.out _ _ (hS.trans hE) (fun hHeld => ?_)
      clear hK K hHeld
      (try simp only [Act.put, List.setIfInBounds_toArray, List.set_cons_zero, List.set_cons_succ])
      replace X := X.ext hE
      replace hS := hS.trans hE
      clear hE
      ((refine ePu 5 ?_); (refine ePu 6 ?_); (refine ePu 7 ?_))
      have X2 := (X.set0 r1).set1 r2
      have E3 := (hS.set (b := xb) (o := 0) hxw (txt r1)).set (b := xb) (o := 1) hxw (txt r2)
      obtain ⟨x0, x1, f0, f1⟩ := X
      have zx := cell_lt x0
      dsimp only at zx
      (refine wpAnyE_free (i := 9) (o := ?_) ?_ (by kernel_rfl) (by kernel_rfl) (fun K hK => ?_); rotate_left; (focus ((simp only [List.getElem?_toArray, List.getElem?_cons_succ, List.getElem?_cons_zero]; exact rfl))); go_simp; refine hK.out _ _ ?_; clear hK K; (try simp only [Act.put, List.setIfInBounds_toArray, List.set_cons_zero, List.set_cons_succ]))
      (refine ePu 10 ?_)
      refine wpAnyE_done (by kernel_rfl) ?_ _
      refine hQ _ _ ⟨xb, ca2, cc2, ?_, X2, hxw, E3⟩
      simp only [Act.put, List.setIfInBounds_toArray, List.set_cons_zero, List.set_cons_succ]
  case tail =>
    rintro a4 w4 ⟨xb, ca2, cc2, rfl, X, hxw, hE⟩
    simp only [Act.put, List.setIfInBounds_toArray, List.set_cons_zero, List.set_cons_succ]
    replace E := E.trans hE
    have c0 := (hE).cell c0
    have c1 := (hE).cell c1
    clear hE hxw HAL HX z0
    have X' := X
    obtain ⟨x0, x1, _, _⟩ := X'
    have zx := cell_lt x0
    have z0 := cell_lt c0
    dsimp only at zx z0
    go_wp2_with fail
    refine (HCU.out _).mono ?_
    rintro e w5 ⟨rfl, hE⟩
    replace X := X.ext hE
    replace E := E.trans hE
    have c0 := (hE).cell c0
    have c1 := (hE).cell c1
    clear hE HCU x0 x1 zx z0
    have EB : Ext w5 (w5.alloc (.cells #[txt [48], txt [48]] 35)) := extA
    have S0 : EncAt w5.heap.size (w5.alloc (.cells #[txt [48], txt [48]] 35)) [48] [48] := ⟨by go_simp, by go_simp, by go_simp, by go_simp⟩
    go_wp2_with fail
    obtain ⟨sb, hsb⟩ : ∃ b, b = w5.heap.size := ⟨_, rfl⟩
    rw [← hsb] at S0 ⊢
    have hsb4 : w5.heap.size ≤ sb := by omega
    clear hsb
    generalize (w5.alloc (.cells #[txt [48], txt [48]] 35)) = w6 at EB S0 ⊢
    have hS0 : Hid ((([48], [48]) : Enc) = sumT (actN (needN l p wd) 0)) := sum_zero.symm
    go_loopw [82] (fun x wr => ∃ k : Nat, k ≤ l.length ∧ x = .int .i64 k ∧ (∃ s1 s2, EncAt sb wr s1 s2 ∧ Hid ((s1, s2) = sumT (actN (needN l p wd) k))) ∧ Ext w5 wr) (fun x _ => l.length - (intOf x).toNat)
    case atStart => exact ⟨0, Nat.zero_le _, rfl, ⟨_, _, S0, hS0.out⟩, EB⟩
    case round =>
      obtain ⟨k, hk, rfl, ⟨s1, s2, S, hS12⟩, he⟩ := hrel
      clear hS0 S0 EB
      have X5 := X.ext he
      have E5 := E.trans he
      by_cases hlt : k < l.length
      · obtain ⟨cb, co, hca, q0, q1, q2⟩ := HC.out.ext E5 k hlt
        subst hca
        have hcok := HBB.out k hlt
        have hA := HAB.out k (by omega)
        have hNB := HNB.out k hlt
        obtain ⟨CN, hCN⟩ : ∃ CN : Nat, (CN : Int) = cntK wd (k : Int) true := ⟨(cntK wd (k : Int) true).toNat, Int.toNat_of_nonneg (cntK_nn _ _ _).1⟩
        have hCN2 := (cntK_nn wd (k : Int) true).2
        rw [← hCN] at hNB hCN2
        have hAk : actN (needN l p wd) (k + 1) = actN (needN l p wd) k + (CN : Int) * bothN l p k := by rw [hCN]; rfl
        have hlo := litN_bd hcok true hp.1 hp.2
        have hli := litN_bd hcok false hp.1 hp.2
        have hB : bothN l p k = litN (l.getD k cyl0) true p + litN (l.getD k cyl0) false p := rfl
        have hSR1 := HSR.out (l.getD k cyl0) true
        have hSR2 := HSR.out (l.getD k cyl0) false
        rw [stroke_lit hcok true hp.1 hp.2] at hSR1
        rw [stroke_lit hcok false hp.1 hp.2] at hSR2
        have hord := lit_order hcok hp.1 hp.2
        rw [litT_is, litT_is] at hord
        have g1 := (sum_good hlo.1 (by omega)).1
        have g2 := (sum_good hli.1 (by omega)).1
        have hCM := fun W (g : Ext w W) => compareF_any (sumT (litN (l.getD k cyl0) false p)).2 (sumT (litN (l.getD k cyl0) true p)).2 W (HG.out.ext g) g2.len.2 g1.len.2
        rw [cmp_good (bothE_zero g2.hi.ok g1.hi.ok)] at hCM
        have hBO := fun W g => HAD.out (litN (l.getD k cyl0) true p) (litN (l.getD k cyl0) false p) W g hlo.1 hli.1 (by omega)
        rw [← hB] at hBO
        have hJ : ∀ (j : Nat), j < CN → ∀ W, Ext w W → Calls Tryz.prog 48 #[encV (sumT (actN (needN l p wd) k + (j : Int) * bothN l p k)), encV (sumT (bothN l p k))] W (EncP (sumT (actN (needN l p wd) k + ((j + 1 : Nat) : Int) * bothN l p k), 0) W) := fun j hj W g => by
          have n1 := hNB (j : Int) (by omega) (by omega)
          have n2 := hNB ((j + 1 : Nat) : Int) (by omega) (by omega)
          have n3 := hNB 1 (by omega) (by omega)
          have e1 : ((j + 1 : Nat) : Int) * bothN l p k = (j : Int) * bothN l p k + bothN l p k := by push_cast; rw [Int.add_mul, Int.one_mul]
          rw [e1] at n2 ⊢
          have h := HAD.out (actN (needN l p wd) k + (j : Int) * bothN l p k) (bothN l p k) W g (by omega) (by omega) (by omega)
          rw [Int.add_assoc] at h
          exact h
        have hJ0 : (s1, s2) = sumT (actN (needN l p wd) k + ((0 : Nat) : Int) * bothN l p k) := by rw [hS12.out]; congr 1; simp
        have hJE : sumT (actN (needN l p wd) (k + 1)) = sumT (actN (needN l p wd) k + (CN : Int) * bothN l p k) := by rw [hAk]
        have HHE := Lib.hid hJE
        have HJ0 := Lib.hid hJ0
        have HCNT : Hid (∀ j, j < wd.length → cntK (wd.take (j + 1)) (k : Int) true = cntK (wd.take j) (k : Int) true + if (wd.getD j stk0).1 = (k : Int) ∧ (wd.getD j stk0).2 = true then 1 else 0) := fun j hj => cntK_take hj _ _
        have HCNB : Hid (∀ j, 0 ≤ cntK (wd.take j) (k : Int) true ∧ cntK (wd.take j) (k : Int) true ≤ 384) := fun j => by
          have h1 := cntK_nn (wd.take j) (k : Int) true
          have h2 : (wd.take j).length ≤ 384 := by rw [List.length_take]; omega
          omega
        have HCNE : Hid (cntK (wd.take wd.length) (k : Int) true = (CN : Int)) := by show _ = _; rw [List.take_length, hCN]
        obtain ⟨J, hJd⟩ : ∃ J : Nat → Enc, J = fun (j : Nat) => sumT (actN (needN l p wd) k + (j : Int) * bothN l p k) := ⟨_, rfl⟩
        have HJA : Hid (∀ (j : Nat), j < CN → ∀ W, Ext w W → Calls Tryz.prog 48 #[encV (J j), encV (sumT (bothN l p k))] W (EncP (J (j + 1), 0) W)) := by rw [hJd]; exact hJ
        have HJ00 : Hid ((s1, s2) = J 0) := by rw [hJd]; exact hJ0
        have HJEE : Hid (J CN = sumT (actN (needN l p wd) (k + 1))) := by rw [hJd]; exact hJE.symm
        generalize sumT (litN (l.getD k cyl0) true p) = O1 at hSR1 hCM hBO hord
        generalize sumT (litN (l.getD k cyl0) false p) = I1 at hSR2 hCM hBO hord
        generalize sumT (bothN l p k) = B1 at hBO HJA
        generalize ordQ I1.2 O1.2 = ord at hCM hord
        have HSEc := HSE.out (l.getD k cyl0)
        generalize l.getD k cyl0 = c at q0 q1 q2 hSR1 hSR2 HSEc
        obtain ⟨o1, o2⟩ := O1
        obtain ⟨i1, i2⟩ := I1
        obtain ⟨b1, b2⟩ := B1
        obtain ⟨cx, cy, cz⟩ := c
        unfold EncP at hSR1 hSR2 hBO HJA
        unfold IntP at hCM
        dsimp only [encV, cylV] at q0 q1 q2 hSR1 hSR2 HSEc hBO hCM HJA
        replace hSR1 := Lib.hid hSR1
        replace hSR2 := Lib.hid hSR2
        replace HSEc := Lib.hid HSEc
        replace hBO := Lib.hid hBO
        replace hCM := Lib.hid hCM
        clear g1 g2 hNB hB hA hlo hli hcok hS12 hJ hJ0 hJE hJd HHE HJ0 hAk hCN HSR HSE
        have c0 := he.cell c0
        have c1 := he.cell c1
        have z0 := cell_lt c0
        have zq := cell_lt q0
        dsimp only at z0 zq
        go_wp2_with fail
        have C : CylAt wr.heap.size (wr.alloc (.cells #[.int .i64 cx, .int .i64 cy, .int .i64 cz] 46)) cx cy cz := ⟨by go_simp, by go_simp, by go_simp⟩
        have EC : Ext wr (wr.alloc (.cells #[.int .i64 cx, .int .i64 cy, .int .i64 cz] 46)) := extA
        refine (HFR2.out _ (E5.trans EC)).mono ?_
        rintro e w7 ⟨v, rfl, hO, _, hE7⟩
        obtain ⟨wa, wc, rfl, hcw, hlw, _⟩ := hO.reads
        have HCW := Lib.hid hcw
        replace C := C.ext hE7
        have E7 := EC.trans hE7
        obtain ⟨kb, hkb⟩ : ∃ b, b = wr.heap.size := ⟨_, rfl⟩
        rw [← hkb] at C ⊢
        clear hO hcw hkb z0 zq q0 q1 q2 EC hE7 c0 c1
        go_wp2_with fail
        go_loopw [90, 12] (fun x y wr2 => ∃ j : Nat, j ≤ wd.length ∧ x = .int .i64 j ∧ (∃ z : Int, y = .int .i64 z ∧ Hid (z = cntK (wd.take j) (k : Int) true)) ∧ Ext w7 wr2) (fun x _ _ => wd.length - (intOf x).toNat)
        case atStart => exact ⟨0, Nat.zero_le _, rfl, ⟨0, rfl, rfl⟩, Ext.refl _⟩
        case round =>
          obtain ⟨j, hj, rfl, ⟨z, rfl, hz⟩, he2⟩ := hrel
          by_cases hjl : j < wd.length
          · obtain ⟨wb, wo, hwa, y1, y2⟩ := HCW.out.ext he2 j hjl
            subst hwa
            have hct := HCNT.out j hjl
            have hcb := HCNB.out j
            rw [← hz.out] at hct hcb
            generalize wd.getD j stk0 = s at y1 y2 hct
            obtain ⟨sa, so⟩ := s
            dsimp only at y1 y2 hct
            have zy := cell_lt y1
            dsimp only at zy
            have u1 : IntKind.i64.wrap (z + 1) = z + 1 := IntWalk.i64_in _ (by omega)
            have ES : Ext wr (wr.alloc (.cells #[.int .i64 sa, .bool so] 84)) := extA
            have E8 := he2.trans ES
            clear ES hz
            by_cases hsa : sa = (k : Int)
            · subst hsa
              cases so
              · rw [if_neg (by simp)] at hct
                have HZ : Hid (z = cntK (wd.take (j + 1)) (k : Int) true) := by show _ = _; omega
                clear hct hcb u1
                go_wp2
                exact ⟨⟨j + 1, by omega, by go_num, ⟨z, rfl, HZ.out⟩, E8⟩, by simp [intOf]; omega⟩
              · rw [if_pos ⟨rfl, rfl⟩] at hct
                have HZ : Hid (z + 1 = cntK (wd.take (j + 1)) (k : Int) true) := hct.symm
                clear hct hcb
                go_wp2
                exact ⟨⟨j + 1, by omega, by go_num, ⟨z + 1, rfl, HZ.out⟩, E8⟩, by simp [intOf]; omega⟩
            · rw [if_neg (fun h => hsa h.1)] at hct
              have HZ : Hid (z = cntK (wd.take (j + 1)) (k : Int) true) := by show _ = _; omega
              have hsb : (sa == (k : Int)) = false := beq_eq_false_iff_ne.2 hsa
              clear hct hcb u1
              go_wp2
              exact ⟨⟨j + 1, by omega, by go_num, ⟨z, rfl, HZ.out⟩, E8⟩, by simp [intOf]; omega⟩
          · have hje : j = wd.length := by omega
            subst hje
            have hz2 := hz.out
            rw [HCNE.out] at hz2
            subst hz2
            have C2 := C.ext he2
            have E8 := E5.trans (E7.trans he2)
            have E58 := he.trans (E7.trans he2)
            have S8 := S.ext (E7.trans he2)
            clear hz HCW HCNT HCNB HCNE C E7 S E5
            have C' := C2
            obtain ⟨m0, m1, m2⟩ := C'
            have zm := cell_lt m0
            dsimp only at zm
            go_wp2_with fail
            refine (HSEc.out _).mono ?_
            rintro e w8 ⟨rfl, hE⟩
            replace C2 := C2.ext hE
            replace E8 := E8.trans hE
            replace E58 := E58.trans hE
            replace S8 := S8.ext hE
            clear hE m0 m1 m2 zm
            go_wp2_with fail
            refine (hSR1.out _ E8).mono ?_
            rintro e w9 ⟨rfl, hE⟩
            replace C2 := C2.ext hE
            replace E8 := E8.trans hE
            replace E58 := E58.trans hE
            replace S8 := S8.ext hE
            clear hE hSR1
            have C' := C2
            obtain ⟨m0, m1, m2⟩ := C'
            have zm := cell_lt m0
            dsimp only at zm
            have P := (⟨by go_simp, by go_simp, by go_simp, by go_simp⟩ : EncAt w9.heap.size (w9.alloc (.cells #[txt o1, txt o2] 35)) o1 o2)
            have EA : Ext w9 (w9.alloc (.cells #[txt o1, txt o2] 35)) := extA
            go_wp2_with fail
            replace C2 := C2.ext EA
            replace E8 := E8.trans EA
            replace E58 := E58.trans EA
            replace S8 := S8.ext EA
            obtain ⟨pb, hpb⟩ : ∃ b, b = w9.heap.size := ⟨_, rfl⟩
            rw [← hpb] at P ⊢
            clear hpb EA m0 m1 m2 zm
            generalize (w9.alloc (.cells #[txt o1, txt o2] 35)) = w10 at P C2 E8 E58 S8 ⊢
            refine (HSEc.out _).mono ?_
            rintro e w11 ⟨rfl, hE⟩
            replace P := P.ext hE
            replace E8 := E8.trans hE
            replace E58 := E58.trans hE
            replace S8 := S8.ext hE
            clear hE HSEc C2
            go_wp2_with fail
            refine (hSR2.out _ E8).mono ?_
            rintro e w12 ⟨rfl, hE⟩
            replace P := P.ext hE
            replace E8 := E8.trans hE
            replace E58 := E58.trans hE
            replace S8 := S8.ext hE
            clear hE hSR2
            have Q := (⟨by go_simp, by go_simp, by go_simp, by go_simp⟩ : EncAt w12.heap.size (w12.alloc (.cells #[txt i1, txt i2] 35)) i1 i2)
            have EA : Ext w12 (w12.alloc (.cells #[txt i1, txt i2] 35)) := extA
            have P' := P.ext EA
            obtain ⟨p0, p1, _, _⟩ := P'
            have Q' := Q
            obtain ⟨n0, n1, _, _⟩ := Q'
            have zp := cell_lt p0
            have zn := cell_lt n0
            dsimp only at zp zn
            go_wp2_with fail
            replace P := P.ext EA
            replace E8 := E8.trans EA
            replace E58 := E58.trans EA
            replace S8 := S8.ext EA
            obtain ⟨qb, hqb⟩ : ∃ b, b = w12.heap.size := ⟨_, rfl⟩
            rw [← hqb] at Q ⊢
            clear hqb EA p0 p1 n0 n1 zp zn
            generalize (w12.alloc (.cells #[txt i1, txt i2] 35)) = w13 at P Q E8 E58 S8 ⊢
            refine (hCM.out _ E8).mono ?_
            rintro e w14 ⟨rfl, hE⟩
            replace P := P.ext hE
            replace Q := Q.ext hE
            replace E8 := E8.trans hE
            replace E58 := E58.trans hE
            replace S8 := S8.ext hE
            clear hE hCM
            obtain ⟨p0, p1, _, _⟩ := P
            obtain ⟨n0, n1, _, _⟩ := Q
            have zp := cell_lt p0
            have zn := cell_lt n0
            dsimp only at zp zn
            go_wp2_with fail
            refine (hBO.out _ E8).mono ?_
            rintro e w15 ⟨rfl, hE⟩
            replace E8 := E8.trans hE
            replace E58 := E58.trans hE
            replace S8 := S8.ext hE
            clear hE hBO p0 p1 n0 n1 zp zn
            have T := (⟨by go_simp, by go_simp, by go_simp, by go_simp⟩ : EncAt w15.heap.size (w15.alloc (.cells #[txt b1, txt b2] 35)) b1 b2)
            have EA : Ext w15 (w15.alloc (.cells #[txt b1, txt b2] 35)) := extA
            have hs15 : sb < w15.heap.size := cell_lt S8.c0
            have hng : ¬ (0 < ord) := by omega
            have u0 : IntKind.i64.wrap 0 = 0 := IntWalk.i64_in _ (by omega)
            go_wp2_with fail
            replace E8 := E8.trans EA
            replace E58 := E58.trans EA
            replace S8 := S8.ext EA
            have hsn : sb ≠ w15.heap.size := by omega
            obtain ⟨tb, htb⟩ : ∃ b, b = w15.heap.size := ⟨_, rfl⟩
            rw [← htb] at T hsn ⊢
            clear htb EA hs15 hng u0
            generalize (w15.alloc (.cells #[txt b1, txt b2] 35)) = w16 at T E8 E58 S8 ⊢
            have hcn : CN ≤ 384 := by omega
            clear hord hCN2 he2 X5 hlt
            go_loopw [146] (fun x wr3 => ∃ j : Nat, j ≤ CN ∧ x = .int .i64 j ∧ (∃ t1 t2, EncAt sb wr3 t1 t2 ∧ Hid ((t1, t2) = J j)) ∧ EncAt tb wr3 b1 b2 ∧ Ext w5 wr3) (fun x _ => CN - (intOf x).toNat)
            case atStart => exact ⟨0, Nat.zero_le _, rfl, ⟨_, _, S8, HJ00.out⟩, T, E58⟩
            case round =>
              obtain ⟨j, hj, rfl, ⟨t1, t2, S9, hz⟩, T9, he3⟩ := hrel
              have E9 := E.trans he3
              by_cases hjl : j < CN
              · have hA := HJA.out j hjl
                rw [← hz.out] at hA
                obtain ⟨JJ, hJJ⟩ : ∃ JJ, JJ = J (j + 1) := ⟨_, rfl⟩
                rw [← hJJ] at hA
                have HJJ := Lib.hid hJJ
                obtain ⟨t3, t4⟩ := JJ
                dsimp only [encV] at hA
                replace hA := Lib.hid hA
                have S9' := S9
                obtain ⟨g0, g1, _, _⟩ := S9'
                have T9' := T9
                obtain ⟨n0, n1, _, _⟩ := T9'
                have zg := cell_lt g0
                have zn := cell_lt n0
                dsimp only at zg zn
                clear hz hJJ
                go_wp2_with fail
                refine (hA.out _ E9).mono ?_
                rintro e w17 ⟨rfl, hE⟩
                have S10 := S9.ext hE
                have T10 := T9.ext hE
                have E10 := he3.trans hE
                have S11 := (S10.set0 t3).set1 t4
                have T11 := T10.two (c := sb) (o1 := 0) (v := txt t3) (o2 := 1) (u := txt t4) (Ne.symm hsn)
                have E11 := (E10.set (b := sb) (o := 0) hsb4 (txt t3)).set (b := sb) (o := 1) hsb4 (txt t4)
                have EA : Ext ((w17.setCell ⟨sb, 0, none⟩ (txt t3)).setCell ⟨sb, 1, none⟩ (txt t4)) (((w17.setCell ⟨sb, 0, none⟩ (txt t3)).setCell ⟨sb, 1, none⟩ (txt t4)).alloc (.cells #[txt t3, txt t4] 35)) := (Ext.refl _).alloc _
                have S12 := S11.ext EA
                have T12 := T11.ext EA
                have E12 := E11.trans EA
                clear S9 T9 g0 g1 n0 n1 zg zn hA hE EA S11 T11 E11 T10 E10
                obtain ⟨g0, g1, f0, f1⟩ := S10
                have zg := cell_lt g0
                dsimp only at zg
                go_wp2
                exact ⟨⟨j + 1, by omega, by go_num, ⟨_, _, S12, HJJ.out⟩, T12, E12⟩, by simp [intOf]; omega⟩
              · have hje : j = CN := by omega
                subst hje
                have HF : Hid ((t1, t2) = sumT (actN (needN l p wd) (k + 1))) := hz.out.trans HJEE.out
                clear hz HJA HJ00 HJEE T9
                go_wp2
                exact ⟨⟨k + 1, by omega, by go_num, ⟨_, _, S9, HF.out⟩, he3⟩, by simp [intOf]; omega⟩
      · have hke : k = l.length := by omega
        subst hke
        have h9 := hS12.out.trans HU.out.symm
        have hr : s1 = r1 ∧ s2 = r2 := by cases h9; exact ⟨rfl, rfl⟩
        obtain ⟨rfl, rfl⟩ := hr
        obtain ⟨g0, g1, _, _⟩ := S
        obtain ⟨n0, n1, _, _⟩ := X5
        have zg := cell_lt g0
        have zn := cell_lt n0
        dsimp only at zg zn
        clear h9 hS12
        go_wp2_with (go_at_call 13; refine (HA.out _ E5).mono ?_; rintro e wz ⟨rfl, hE⟩)
        go_ret
        exact ⟨rfl, E5.trans hE⟩
end Go.Proofs.YtlnonmmaknhppaaGreatDoor
namespace Go.Proofs.YtlnonmmaknhppaaGreatDoor
open Go.RowKit Go.ChangeShapes Go.WideShapes Go.Joins Go.Deep
theorem cellsOfInt : Tryz.prog.cellsOf 3 = 1 := by kernel_rfl
theorem cellsOfCyl : Tryz.prog.cellsOf 46 = 3 := by kernel_rfl
theorem list3 {α : Type} {l : List α} (h : l.length = 3) : ∃ a b c, l = [a, b, c] := by
  match l, h with
  | [a, b, c], _ => exact ⟨a, b, c, rfl⟩
section
variable {H : Type} {enc : TypeId × Value → H} {w : World} {base : Nat} {spare : Nat → Bool} {held : Bool}
theorem open_cy {fuel : Nat} {cs : List Value} {x : DataW H × List MemPlace} (h : DataW.trod enc Tryz.prog w base spare held fuel 46 cs = some x) : ∃ c : Cyl, cs = [.int .i64 c.bore, .int .i64 c.rod, .int .i64 c.stroke] ∧ Cyl64 c := by
  obtain ⟨y0, y1, y2, n, _, hl, h0, h1, h2⟩ := trod_struct3 Tryz.underlying46 h
  rw [cellsOfCyl] at hl
  obtain ⟨a, b, c, rfl⟩ := list3 hl
  rw [cellsOfInt] at h0 h1 h2
  obtain ⟨i, e0, _, k0⟩ := DataW.trod_int Tryz.underlying3 h0
  obtain ⟨j, e1, _, _⟩ := DataW.trod_int Tryz.underlying3 h1
  obtain ⟨k, e2, _, _⟩ := DataW.trod_int Tryz.underlying3 h2
  simp at e0 e1 e2
  subst e0; subst e1; subst e2
  exact ⟨⟨i, j, k⟩, rfl, i64_bd k0⟩
theorem open_cellsC {a : Addr} {len : Nat} (h : ∀ i, i < len → ∃ cs' n x, w.cells? base (a.add (i * 3)) 3 = some cs' ∧ DataW.trod enc Tryz.prog w base spare held n 46 cs' = some x) : ∃ l : List Cyl, l.length = len ∧ CellsC w (some a) l ∧ ∀ c ∈ l, Cyl64 c := by
  have key : ∀ i, i < len → ∃ y : Cyl, w.cell? (a.add (i * 3)) = some (.int .i64 y.bore) ∧ w.cell? ((a.add (i * 3)).add 1) = some (.int .i64 y.rod) ∧ w.cell? ((a.add (i * 3)).add 2) = some (.int .i64 y.stroke) ∧ Cyl64 y := fun i hi => by
    obtain ⟨cs', n, x, h1, h2⟩ := h i hi
    obtain ⟨y, rfl, hy⟩ := open_cy h2
    obtain ⟨_, _, hc⟩ := World.cells?_some h1
    have c0 := hc 0 (by omega)
    have c1 := hc 1 (by omega)
    have c2 := hc 2 (by omega)
    refine ⟨y, ?_, c1, c2, hy⟩
    have e : (a.add (i * 3)).add 0 = a.add (i * 3) := by simp [Addr.add]
    rw [e] at c0
    exact c0
  haveI : Inhabited Cyl := ⟨cyl0⟩
  obtain ⟨f, hf⟩ := choose_lt (α := Cyl) key
  refine ⟨(List.range len).map f, by simp, fun i hi => ?_, fun c hc => ?_⟩
  · have hi' : i < len := by simpa using hi
    obtain ⟨h1, h2, h3, _⟩ := hf i hi'
    have hp : ((List.range len).map f).getD i cyl0 = f i := by simp [List.getD, hi']
    rw [hp]
    obtain ⟨b, off, spot⟩ := a
    have hs : spot = none := by
      have h0 := World.cell?_spot (hf 0 (by omega)).1
      simpa [Addr.add] using h0
    subst hs
    rw [Addr.add_lit] at h1 h2 h3
    rw [Addr.add_lit] at h2 h3
    exact ⟨b, off, rfl, h1, h2, h3⟩
  · simp only [List.mem_map, List.mem_range] at hc
    obtain ⟨i, hi, rfl⟩ := hc
    exact (hf i hi).2.2.2
set_option maxRecDepth 100000 in
theorem open_cyls {r : Reach} {b0 : Nat} {v : Value} {d : DataW H} {p : List MemPlace} (hv : Value.okWide Tryz.prog w r b0 68 v) (h : DataW.Trod enc Tryz.prog w base spare held 68 v d p) :
    ∃ (l : List Cyl) (a : Option Addr) (cap : Nat), v = .slice a l.length cap ∧ CellsC w a l ∧ (∀ c ∈ l, Cyl64 c) ∧ l.length ≤ cap ∧ cap ≤ maxLen := by
  have key : v.cells.toList = [v] := by
    simp only [Value.okWide, Tryz.underlying68] at hv
    cases v <;> first | rfl | (simp [Cell.okWide, Cell.ok, Tryz.underlying68] at hv)
  obtain ⟨fuel, hf⟩ := h
  rw [key] at hf
  rcases open_slice Tryz.underlying68 hf with ⟨h1, _⟩ | ⟨a, len, cap, m, n, D, Pl, h1, hb, hl, hm, hmm, _, hx⟩
  · simp at h1
    exact ⟨[], none, 0, h1, (fun i hi => by simp at hi), (fun c hc => by cases hc), by simp, by simp⟩
  · simp at h1
    rw [cellsOfCyl] at hx
    have hlm : len ≤ m := by rw [hmm]; split <;> omega
    obtain ⟨l, hll, hc, h64⟩ := open_cellsC (enc := enc) (spare := spare) (held := held) (w := w) (base := base) (a := a) (len := len) (fun i hi => by
      obtain ⟨cs', h2, h3⟩ := hx i (by omega)
      exact ⟨cs', n, _, h2, h3⟩)
    exact ⟨l, some a, cap, by rw [h1, hll], hc, h64, by rw [hll]; exact hl, hm⟩
end
end Go.Proofs.YtlnonmmaknhppaaGreatDoor
namespace Go.Proofs.YtlnonmmaknhppaaGreatDoor
open Go.RowKit Go.ChangeShapes Go.WideShapes Go.Joins Go.Deep
theorem list2 {α : Type} {l : List α} (h : l.length = 2) : ∃ a b, l = [a, b] := by
  match l, h with
  | [a, b], _ => exact ⟨a, b, rfl⟩
theorem cellsOfStk : Tryz.prog.cellsOf 84 = 2 := by kernel_rfl
theorem cellsOfStp : Tryz.prog.cellsOf 128 = 2 := by kernel_rfl
theorem cellsOfBool : Tryz.prog.cellsOf 4 = 1 := by kernel_rfl
theorem cellsOfSlk : Tryz.prog.cellsOf 81 = 1 := by kernel_rfl
section
variable {H : Type} {enc : TypeId × Value → H} {w : World} {base : Nat} {spare : Nat → Bool} {held : Bool}
theorem open_stk {fuel : Nat} {cs : List Value} {x : DataW H × List MemPlace} (h : DataW.trod enc Tryz.prog w base spare held fuel 84 cs = some x) : ∃ y : Stk, cs = [.int .i64 y.1, .bool y.2] := by
  obtain ⟨y0, y1, n, _, hl, h0, h1⟩ := trod_struct2 Tryz.underlying84 h
  rw [cellsOfStk] at hl
  obtain ⟨a, b, rfl⟩ := list2 hl
  rw [cellsOfInt] at h0
  rw [cellsOfBool] at h1
  obtain ⟨i, e0, _, w0⟩ := DataW.trod_int Tryz.underlying3 h0
  obtain ⟨j, e1, _⟩ := DataW.trod_bool Tryz.underlying4 h1
  simp at e0 e1
  subst e0; subst e1
  exact ⟨(i, j), rfl⟩
theorem open_stks {a : Addr} {len : Nat} (h : ∀ i, i < len → ∃ cs' n x, w.cells? base (a.add (i * 2)) 2 = some cs' ∧ DataW.trod enc Tryz.prog w base spare held n 84 cs' = some x) : ∃ l : List Stk, l.length = len ∧ CellsK w (some a) l := by
  have key : ∀ i, i < len → ∃ y : Stk, w.cell? (a.add (i * 2)) = some (.int .i64 y.1) ∧ w.cell? ((a.add (i * 2)).add 1) = some (.bool y.2) := fun i hi => by
    obtain ⟨cs', n, x, h1, h2⟩ := h i hi
    obtain ⟨y, rfl⟩ := open_stk h2
    obtain ⟨_, _, hc⟩ := World.cells?_some h1
    have c0 := hc 0 (by omega)
    have c1 := hc 1 (by omega)
    refine ⟨y, ?_, c1⟩
    have e : (a.add (i * 2)).add 0 = a.add (i * 2) := by simp [Addr.add]
    rw [e] at c0
    exact c0
  obtain ⟨f, hf⟩ := choose_lt (α := Stk) key
  refine ⟨(List.range len).map f, by simp, fun i hi => ?_⟩
  have hi' : i < len := by simpa using hi
  obtain ⟨h1, h2⟩ := hf i hi'
  have hp : ((List.range len).map f).getD i stk0 = f i := by simp [List.getD, hi']
  rw [hp]
  obtain ⟨b, off, spot⟩ := a
  have hs : spot = none := by
    have h0 := World.cell?_spot (hf 0 (by omega)).1
    simpa [Addr.add] using h0
  subst hs
  rw [Addr.add_lit] at h1 h2
  rw [Addr.add_lit] at h2
  exact ⟨b, off, rfl, h1, h2⟩
theorem open_slk {fuel : Nat} {v : Value} {x : DataW H × List MemPlace} (h : DataW.trod enc Tryz.prog w base spare held fuel 81 [v] = some x) : ∃ l : List Stk, SliceK w v l := by
  rcases open_slice Tryz.underlying81 h with ⟨h1, _⟩ | ⟨a, len, cap, m, n, D, Pl, h1, hb, hl, hm, hmm, _, hx⟩
  · simp at h1
    exact ⟨[], none, 0, h1, fun i hi => by simp at hi, by simp⟩
  · simp at h1
    rw [cellsOfStk] at hx
    have hlm : len ≤ m := by rw [hmm]; split <;> omega
    obtain ⟨l, hll, hc⟩ := open_stks (enc := enc) (spare := spare) (held := held) (w := w) (base := base) (a := a) (len := len) (fun i hi => by
      obtain ⟨cs', h2, h3⟩ := hx i (by omega)
      exact ⟨cs', n, _, h2, h3⟩)
    exact ⟨l, some a, cap, by rw [h1, hll], hc, by rw [hll]; omega⟩
theorem open_stp {fuel : Nat} {cs : List Value} {x : DataW H × List MemPlace} (h : DataW.trod enc Tryz.prog w base spare held fuel 128 cs = some x) : ∃ (v : Value) (y : Stp), cs = [v, .int .i64 y.2] ∧ SliceK w v y.1 := by
  obtain ⟨y0, y1, n, _, hl, h0, h1⟩ := trod_struct2 Tryz.underlying128 h
  rw [cellsOfStp] at hl
  obtain ⟨a, b, rfl⟩ := list2 hl
  rw [cellsOfInt] at h1
  rw [cellsOfSlk] at h0
  obtain ⟨i, e1, _, w0⟩ := DataW.trod_int Tryz.underlying3 h1
  obtain ⟨l, hv⟩ := open_slk (v := a) (by simpa using h0)
  simp at e1
  subst e1
  exact ⟨a, (l, i), rfl, hv⟩
theorem open_stps {a : Addr} {len : Nat} (h : ∀ i, i < len → ∃ cs' n x, w.cells? base (a.add (i * 2)) 2 = some cs' ∧ DataW.trod enc Tryz.prog w base spare held n 128 cs' = some x) : ∃ l : List Stp, l.length = len ∧ CellsP w (some a) l ∧ (0 < len → a.spot = none) := by
  have key : ∀ i, i < len → ∃ y : Value × Stp, w.cell? (a.add (i * 2)) = some y.1 ∧ w.cell? ((a.add (i * 2)).add 1) = some (.int .i64 y.2.2) ∧ SliceK w y.1 y.2.1 := fun i hi => by
    obtain ⟨cs', n, x, h1, h2⟩ := h i hi
    obtain ⟨v, y, rfl, hv⟩ := open_stp h2
    obtain ⟨_, _, hc⟩ := World.cells?_some h1
    have c0 := hc 0 (by omega)
    have c1 := hc 1 (by omega)
    refine ⟨(v, y), ?_, c1, hv⟩
    have e : (a.add (i * 2)).add 0 = a.add (i * 2) := by simp [Addr.add]
    rw [e] at c0
    exact c0
  obtain ⟨f, hf⟩ := choose_lt (α := Value × Stp) key
  have hs : 0 < len → a.spot = none := fun h0 => by
    have h0 := World.cell?_spot (hf 0 h0).1
    simpa [Addr.add] using h0
  refine ⟨(List.range len).map fun i => (f i).2, by simp, fun i hi => ?_, hs⟩
  have hi' : i < len := by simpa using hi
  obtain ⟨h1, h2, h3⟩ := hf i hi'
  have hp : ((List.range len).map fun i => (f i).2).getD i stp0 = (f i).2 := by simp [List.getD, hi']
  rw [hp]
  obtain ⟨b, off, spot⟩ := a
  have hs := hs (by omega)
  dsimp only at hs
  subst hs
  rw [Addr.add_lit] at h1 h2
  rw [Addr.add_lit] at h2
  exact ⟨b, off, _, rfl, h1, h3, h2⟩
theorem open_slp {fuel : Nat} {v : Value} {x : DataW H × List MemPlace} (h : DataW.trod enc Tryz.prog w base spare held fuel 69 [v] = some x) :
    ∃ (l : List Stp) (a : Option Addr) (cap : Nat), v = .slice a l.length cap ∧ CellsP w a l ∧ l.length ≤ maxLen ∧ Room a l.length cap := by
  rcases open_slice Tryz.underlying69 h with ⟨h1, _⟩ | ⟨a, len, cap, m, n, D, Pl, h1, hb, hl, hm, hmm, _, hx⟩
  · simp at h1
    exact ⟨[], none, 0, h1, fun i hi => by simp at hi, by simp, by simp, by simp, fun h0 => by simp at h0⟩
  · simp at h1
    rw [cellsOfStp] at hx
    have hlm : len ≤ m := by rw [hmm]; split <;> omega
    obtain ⟨l, hll, hc, hs⟩ := open_stps (enc := enc) (spare := spare) (held := held) (w := w) (base := base) (a := a) (len := len) (fun i hi => by
      obtain ⟨cs', h2, h3⟩ := hx i (by omega)
      exact ⟨cs', n, _, h2, h3⟩)
    refine ⟨l, some a, cap, by rw [h1, hll], hc, by rw [hll]; omega, by rw [hll]; exact hl, hm, fun h0 => ?_⟩
    obtain ⟨b, off, spot⟩ := a
    have := hs (by omega)
    dsimp only at this
    subst this
    exact ⟨b, off, rfl⟩
set_option maxRecDepth 100000 in
theorem open_seq {r : Reach} {b0 : Nat} {v : Value} {d : DataW H} {p : List MemPlace} (hv : Value.okWide Tryz.prog w r b0 71 v) (h : DataW.Trod enc Tryz.prog w base spare held 71 v d p) :
    ∃ (n : Int) (l : List Stp) (a : Option Addr) (cap : Nat), v = .agg #[.int .i64 n, .slice a l.length cap] ∧ CellsP w a l ∧ l.length ≤ maxLen ∧ Room a l.length cap ∧ (Lit.int .i64 n).wf = true := by
  obtain ⟨c0, c1, y0, y1, n, rfl, _, _, h0, h1⟩ := open_agg2 Tryz.underlying71 (by kernel_rfl) (by kernel_rfl) hv h
  obtain ⟨i, e0, _, w0⟩ := DataW.trod_int Tryz.underlying3 h0
  obtain ⟨l, a, cap, e1, hc, hl, hr⟩ := open_slp h1
  simp at e0
  subst e0; subst e1
  exact ⟨i, l, a, cap, rfl, hc, hl, hr, w0⟩
end
end Go.Proofs.YtlnonmmaknhppaaGreatDoor
