/- Steps of the proof: QOrdR, QStpR, QIntsR, QStepR, QRenE, QMoves, QMovesP, QCmpL, QStd1, QSortI, QStable, QStdP, QAppP. No conditions. -/
import Derived.Test.YtnhbogmihnnpjaaGreatYB1
import Derived.Test.YtnhbogmihnnpjaaGreatYB2
import Derived.Test.YtnhbogmihnnpjaaGreatYB3
import Derived.Test.YtnhbogmihnnpjaaGreatYB4
import Derived.Test.YtnhbogmihnnpjaaGreatYB5
/- The reference's apart and ordered. -/
namespace Go.Proofs.YtnhbogmihnnpjaaGreat
open Go.RowKit

set_option maxHeartbeats 4000000 in
theorem apartR_any (sa sb : List Stk) (wa wb : Int) (aa ab : Option Addr) (ca cb : Nat) (w : World) (hla : sa.length ≤ maxLen) (hca : CellsK w aa sa) (hlb : sb.length ≤ maxLen) (hcb : CellsK w ab sb) :
    Calls Tryz.prog 58 #[.agg #[.slice aa sa.length ca, .int .i64 wa], .agg #[.slice ab sb.length cb, .int .i64 wb]] w fun r w' => r = .returned (.bool (apart (sa, wa) (sb, wb))) ∧ Ext w w' := by
  have HCA := Lib.hid hca
  have HCB := Lib.hid hcb
  have HLB := Lib.hid hlb
  have HAP := Lib.hid (apart_step sa wa (sb, wb))
  unfold maxLen at hla
  clear hca hcb hlb
  go_enter Tryz.func58, Tryz.ntmps58
  go_wp2
  have E1 : Ext w ((w.alloc (.cells #[.slice aa sa.length ca, .int .i64 wa] 87)).alloc (.cells #[.slice ab sb.length cb, .int .i64 wb] 87)) := (by repeat (first | with_reducible exact Ext.refl _ | with_reducible assumption | with_reducible apply Ext.drewN | with_reducible apply Ext.drew | with_reducible apply Ext.alloc | ((with_reducible refine Ext.set ?_ ?_ _); rotate_left; first | omega | (simp; omega)) | (with_reducible refine Ext.trans ?_ (by with_reducible assumption))))
  have e1 : ((w.alloc (.cells #[.slice aa sa.length ca, .int .i64 wa] 87)).alloc (.cells #[.slice ab sb.length cb, .int .i64 wb] 87)).cell? ⟨w.heap.size, 0, none⟩ = some (.slice aa sa.length ca) := by go_simp
  have e2 : ((w.alloc (.cells #[.slice aa sa.length ca, .int .i64 wa] 87)).alloc (.cells #[.slice ab sb.length cb, .int .i64 wb] 87)).cell? ⟨w.heap.size + 1, 0, none⟩ = some (.slice ab sb.length cb) := by go_simp
  have e3 : ((w.alloc (.cells #[.slice aa sa.length ca, .int .i64 wa] 87)).alloc (.cells #[.slice ab sb.length cb, .int .i64 wb] 87)).cell? ⟨w.heap.size + 1, 1, none⟩ = some (.int .i64 wb) := by go_simp
  generalize ((w.alloc (.cells #[.slice aa sa.length ca, .int .i64 wa] 87)).alloc (.cells #[.slice ab sb.length cb, .int .i64 wb] 87)) = W at E1 e1 e2 e3 ⊢
  go_loopw [5] (fun i wr => ∃ j : Nat, j ≤ sa.length ∧ i = .int .i64 j ∧ Hid (apart (sa.drop j, wa) (sb, wb) = apart (sa, wa) (sb, wb)) ∧ Ext W wr) (fun i _ => sa.length - (intOf i).toNat)
  case atStart => exact ⟨0, Nat.zero_le _, rfl, by show _ = _; rfl, Ext.refl _⟩
  case round =>
    obtain ⟨j, hj, rfl, hz, he⟩ := hrel
    have d1 := he.cell e1
    have d2 := he.cell e2
    have d3 := he.cell e3
    by_cases hlt : j < sa.length
    · obtain ⟨ka, ko, ha, r1, r2⟩ := HCA.out.ext (E1.trans he) j hlt
      subst ha
      have hst := HAP.out j hlt
      rw [hz.out] at hst
      have HST := Lib.hid hst
      clear hst hz
      generalize sa.getD j stk0 = y at r1 r2 HST
      obtain ⟨ya, yo⟩ := y
      dsimp only at r1 r2 HST
      have z1 := cell_lt r1
      have z2 := cell_lt d2
      have z3 := cell_lt d1
      dsimp only at z1 z2 z3
      go_wp2
      go_region_held3 (fun w' => Sees wr w') ((repeat (first | exact Sees.refl _ | assumption | apply Sees.drew | apply Sees.alloc | (refine Sees.ext ?_ (by assumption))))) (first | (go_at_call 97; refine (WayR_any sb wb ya ab cb _ HLB.out (HCB.out.ext ((E1.trans he).trans (by exact (show Sees wr _ by assumption).2.2)))).mono ?_; rintro e w' ⟨rfl, hE⟩))
      have hSee : Sees wr w' := by assumption
      have E5 : Ext W w' := he.trans hSee.2.2
      clear hSee
      generalize hv : wayL ya sb = v at HST ⊢
      by_cases hv0 : v = 0
      · subst hv0
        have hst2 := HST.out
        rw [show ((0 : Int) == 0) = true from rfl, Bool.true_and] at hst2
        have HZ2 : Hid (apart (sa.drop (j + 1), wa) (sb, wb) = apart (sa, wa) (sb, wb)) := hst2.symm
        clear hst2 HST hv
        go_wp2
        refine ⟨⟨j + 1, by omega, by go_num, HZ2, E5⟩, by simp [intOf]; omega⟩
      · have hvb : (v == 0) = false := by simpa using hv0
        have hst2 := HST.out
        rw [hvb, Bool.false_and] at hst2
        have HZ2 := Lib.hid hst2
        clear hst2 HST hv hvb
        go_wp2
        go_ret
        exact ⟨ret_bool (by rw [HZ2.out]), E1.trans E5⟩
    · have hall := hz.out
      rw [List.drop_eq_nil_of_le (by omega)] at hall
      have HZ2 := Lib.hid hall
      clear hall hz
      go_wp2
      go_ret
      exact ⟨ret_bool (by rw [← HZ2.out]; rfl), E1.trans he⟩
/-- strokes of the actuators below A, and of A among the first k -/
def ordTo (l : List Stk) (A : Nat) : List Stk := (ints (A : Int)).flatMap fun a => l.filter fun y => y.1 == a
def ordAt (l : List Stk) (A k : Nat) : List Stk := ordTo l A ++ (l.take k).filter fun y => y.1 == (A : Int)
theorem ordTo_succ (l : List Stk) (A : Nat) : ordTo l (A + 1) = ordAt l A l.length := by
  unfold ordTo ordAt
  rw [ints_succ, List.flatMap_append, List.take_length]
  simp [ordTo]
theorem ordAt_zero (l : List Stk) (A : Nat) : ordAt l A 0 = ordTo l A := by unfold ordAt; simp
theorem ordAt_succ (l : List Stk) (A : Nat) {k : Nat} (h : k < l.length) : ordAt l A (k + 1) = ordAt l A k ++ if (l.getD k stk0).1 = (A : Int) then [l.getD k stk0] else [] := by
  unfold ordAt
  rw [List.take_succ_eq_append_getElem h, List.filter_append, List.append_assoc]
  congr 2
  rw [List.getD_eq_getElem?_getD, List.getElem?_eq_getElem h]
  by_cases c : l[k].1 = (A : Int)
  · simp [c]
  · simp [c]
theorem ordTo_len (l : List Stk) (A : Nat) : (ordTo l A).length ≤ A * l.length := by
  induction A with
  | zero => simp [ordTo, ints]
  | succ A ih =>
    rw [ordTo_succ]
    unfold ordAt
    rw [List.length_append, List.take_length, Nat.add_mul, Nat.one_mul]
    have := List.length_filter_le (fun y : Stk => y.1 == (A : Int)) l
    omega
theorem ordAt_len (l : List Stk) (A k : Nat) : (ordAt l A k).length ≤ A * l.length + l.length := by
  unfold ordAt
  rw [List.length_append]
  have h1 := ordTo_len l A
  have h2 := List.length_filter_le (fun y : Stk => y.1 == (A : Int)) (l.take k)
  have h3 := List.length_take_le' k l
  omega
theorem ownsK_succ {w : World} {v : Value} {l : List Stk} {x : Stk} (h : w.ownsRow 0 73 2 v (l.length + 1) (flatK l ++ [.int .i64 x.1, .bool x.2])) : OwnsK w v (l ++ [x]) := by
  unfold OwnsK
  rw [List.length_append, flatK_append]
  exact h

set_option maxHeartbeats 4000000 in
set_option maxRecDepth 100000 in
theorem orderedR_any (l : List Stk) (a : Option Addr) (cap : Nat) (w : World) (hl : l.length ≤ 40) (hc : CellsK w a l) :
    Calls Tryz.prog 59 #[.slice a l.length cap] w (StksPost (ordered l) w) := by
  have HC := Lib.hid hc
  clear hc
  obtain ⟨i0, hi, hi0, hi1, hi2⟩ := info_parts infoStk
  go_enter Tryz.func59, Tryz.ntmps59
  go_wp2
  go_loopw [4, 3] (fun i v wr => ∃ A : Nat, A ≤ 6 ∧ i = .int .i64 A ∧ (∃ vv, v = vv ∧ Hid (OwnsK wr vv (ordTo l A) ∧ ∀ b, vv.ownBlock = some b → w.heap.size ≤ b)) ∧ Ext w wr) (fun i _ _ => 6 - (intOf i).toNat)
  case atStart => exact ⟨0, by omega, rfl, ⟨_, rfl, OwnsK.nil _, fun b hb => by cases hb⟩, Ext.refl _⟩
  case round =>
    obtain ⟨A, hA, rfl, ⟨vv, hvv, hO⟩, he⟩ := hrel
    obtain rfl := hvv.symm
    by_cases hA6 : A < 6
    · go_wp2
      obtain ⟨wo, rfl⟩ : ∃ wo : World, wo = wr := ⟨_, rfl⟩
      go_loopw [5, 3] (fun i v wr => ∃ k : Nat, k ≤ l.length ∧ i = .int .i64 k ∧ (∃ vv, v = vv ∧ Hid (OwnsK wr vv (ordAt l A k) ∧ ∀ b, vv.ownBlock = some b → w.heap.size ≤ b)) ∧ Ext w wr) (fun i _ _ => l.length - (intOf i).toNat)
      case atStart => exact ⟨0, Nat.zero_le _, rfl, ⟨vv, rfl, by rw [ordAt_zero]; exact hO.out⟩, he⟩
      case round =>
        clear hO he
        obtain ⟨k, hk, rfl, ⟨v2, hv2, hO⟩, he⟩ := hrel
        obtain rfl := hv2.symm
        by_cases hlt : k < l.length
        · obtain ⟨ka, ko, ha, r1, r2⟩ := HC.out.ext he k hlt
          subst ha
          have HST := Lib.hid (ordAt_succ l A hlt)
          have hq := ordAt_len l A k
          have hq6 : (ordAt l A k).length ≤ 280 := by
            have : A * l.length ≤ 6 * l.length := Nat.mul_le_mul_right _ hA
            omega
          clear hq
          have hsz := he.size
          generalize l.getD k stk0 = y at r1 r2 HST
          obtain ⟨ya, yo⟩ := y
          dsimp only at r1 r2 HST
          have z1 := cell_lt r1
          dsimp only at z1
          by_cases hy : ya = (A : Int)
          · subst hy
            have HR : Hid (ordAt l A (k + 1) = ordAt l A k ++ [((A : Int), yo)]) := by show _ = _; rw [HST.out, if_pos rfl]
            have O2 := Lib.hid hO.out.1
            have OB := Lib.hid hO.out.2
            clear hO HST
            generalize hP : ordAt l A k = P at HR O2 hq6
            clear hP
            go_wp2_with (at_builtin; refine wpList_append1 _ rfl _ _ 66 rfl 73 i0 (.agg #[.int .i64 0, .bool false]) 2 16 Tryz.underlying66 hi hi0 hi1 hi2 rfl (by decide) v2 P.length (flatK P) rfl ?ho ⟨wr.heap.size, 0, none⟩ 1 1 (by decide) [.int .i64 (A : Int), .bool yo] rfl rfl ?hn ?c1 ?c2 ?c3 ?c4)
            case ho => exact O2.out.ext ((Ext.refl _).alloc _)
            case c1 => exact ⟨rfl, rfl⟩
            case c2 => unfold maxLen; omega
            case c3 => omega
            case c4 =>
              intro v' w5 hown5 hend5
              have O5 : Hid (OwnsK w5 v' (ordAt l A (k + 1))) := by show OwnsK _ _ _; rw [HR.out]; exact ownsK_succ (x := ((A : Int), yo)) hown5
              have B5 : Ext w w5 := (he.trans ((Ext.refl _).alloc _)).trans' (hend5.below (n := w.heap.size) (by simp; omega) OB.out) (Nat.le_refl _)
              have OB5 : Hid (∀ b, v'.ownBlock = some b → w.heap.size ≤ b) := hend5.ge (n := w.heap.size) (by simp; omega) OB.out
              clear hown5 hend5 O2 OB
              go_wp2
              refine ⟨⟨k + 1, by omega, by go_num, ⟨v', rfl, O5.out, OB5.out⟩, B5⟩, by simp [intOf]; omega⟩
          · have hyb : (ya == (A : Int)) = false := by simpa using hy
            have HR : Hid (ordAt l A (k + 1) = ordAt l A k) := by show _ = _; rw [HST.out, if_neg hy, List.append_nil]
            clear HST hy
            go_wp2
            refine ⟨⟨k + 1, by omega, by go_num, ⟨v2, rfl, by rw [HR.out]; exact hO.out⟩, he⟩, by simp [intOf]; omega⟩
        · have hke : k = l.length := by omega
          subst hke
          go_wp2
          refine ⟨⟨A + 1, by omega, by go_num, ⟨v2, rfl, by rw [ordTo_succ]; exact hO.out⟩, he⟩, by simp [intOf]; omega⟩
    · have hA66 : A = 6 := by omega
      subst hA66
      go_wp2
      go_ret
      exact ⟨_, rfl, hO.out.1, hO.out.2, he⟩
end Go.Proofs.YtnhbogmihnnpjaaGreat
/- The reference's Step: the step of a text (of right texts alone). -/
namespace Go.Proofs.YtnhbogmihnnpjaaGreat
open Go.RowKit

/-- a step of the call's own -/
def StpPost (x : Stp) (w : World) (e : Ending) (w' : World) : Prop := ∃ v, e = .returned (.tuple #[.agg #[v, .int .i64 x.2], .int .i64 0]) ∧ OwnsK w' v x.1 ∧ (∀ b, v.ownBlock = some b → w.heap.size ≤ b) ∧ Ext w w'
structure StSt (b : Nat) (W0 wr : World) (P : List Stk) (wt : Int) : Prop where
  ch : Chg (fun k => k = b) W0 wr
  v : ∃ v, wr.cell? ⟨b, 0, none⟩ = some v ∧ OwnsK wr v P ∧ ∀ k, v.ownBlock = some k → W0.heap.size ≤ k
  c1 : wr.cell? ⟨b, 1, none⟩ = some (.int .i64 wt)
  f0 : wr.frozen? ⟨b, 0, none⟩ = false
  f1 : wr.frozen? ⟨b, 1, none⟩ = false
theorem StSt.ext {b : Nat} {W0 A B : World} {P : List Stk} {wt : Int} (h : StSt b W0 A P wt) (k : Ext A B) : StSt b W0 B P wt := by
  obtain ⟨h1, ⟨v, h2, h3, h4⟩, h5, h6, h7⟩ := h
  exact ⟨h1.trans (Chg.ext k), ⟨v, k.cell h2, h3.ext k, h4⟩, k.cell h5, (Below.frozen (p := ⟨b, 0, none⟩) k (cell_lt h2)).trans h6, (Below.frozen (p := ⟨b, 1, none⟩) k (cell_lt h5)).trans h7⟩

set_option maxHeartbeats 8000000 in
set_option maxRecDepth 100000 in
theorem Step_any (s : ByteArray) (X : Stp) (w : World) (hs : s.size ≤ 5000) (h : stepL s.toList = some X) :
    Calls Tryz.prog 124 #[.string s] w (StpPost X w) := by
  obtain ⟨hstep, hck⟩ : stepW ((cutS s ⟨#[32]⟩).map ByteArray.toList) [] = some X ∧ ckStep X = 0 := by
    unfold stepL at h
    have h2 := Option.filter_eq_some_iff.1 h
    refine ⟨?_, by simpa using h2.2⟩
    rw [cutS_map, show (⟨#[32]⟩ : ByteArray).toList = [32] by rw [ByteArray.toList_eq]]
    exact h2.1
  have H0 : Hid (stepW (((cutS s ⟨#[32]⟩).map ByteArray.toList).drop 0) [] = some X) := hstep
  have HCK := Lib.hid hck
  have hXl : X.1.length ≤ 6 := (ckStep_strokes hck).2.1
  clear h hstep hck
  obtain ⟨ws, hws⟩ : ∃ ws, ws = cutS s ⟨#[32]⟩ := ⟨_, rfl⟩
  rw [← hws] at H0
  obtain ⟨i0, hi, hi0, hi1, hi2⟩ := info_parts infoStk
  go_enter Tryz.func124, Tryz.ntmps124
  go_wp2_with fail
  have E1 : Ext w ((w.alloc (.cells #[.slice none 0 0, .int .i64 0] 87)).alloc (.cells #[.slice none 0 0, .int .i64 0] 87)) := (by repeat (first | with_reducible exact Ext.refl _ | with_reducible assumption | with_reducible apply Ext.drewN | with_reducible apply Ext.drew | with_reducible apply Ext.alloc | ((with_reducible refine Ext.set ?_ ?_ _); rotate_left; first | omega | (simp; omega)) | (with_reducible refine Ext.trans ?_ (by with_reducible assumption))))
  have c0 : ((w.alloc (.cells #[.slice none 0 0, .int .i64 0] 87)).alloc (.cells #[.slice none 0 0, .int .i64 0] 87)).cell? ⟨w.heap.size, 0, none⟩ = some (.slice none 0 0) := by go_simp
  have c1 : ((w.alloc (.cells #[.slice none 0 0, .int .i64 0] 87)).alloc (.cells #[.slice none 0 0, .int .i64 0] 87)).cell? ⟨w.heap.size, 1, none⟩ = some (.int .i64 0) := by go_simp
  have c2 : ((w.alloc (.cells #[.slice none 0 0, .int .i64 0] 87)).alloc (.cells #[.slice none 0 0, .int .i64 0] 87)).cell? ⟨w.heap.size + 1, 0, none⟩ = some (.slice none 0 0) := by go_simp
  have c3 : ((w.alloc (.cells #[.slice none 0 0, .int .i64 0] 87)).alloc (.cells #[.slice none 0 0, .int .i64 0] 87)).cell? ⟨w.heap.size + 1, 1, none⟩ = some (.int .i64 0) := by go_simp
  have f0 : ((w.alloc (.cells #[.slice none 0 0, .int .i64 0] 87)).alloc (.cells #[.slice none 0 0, .int .i64 0] 87)).frozen? ⟨w.heap.size, 0, none⟩ = false := by go_simp
  have f1 : ((w.alloc (.cells #[.slice none 0 0, .int .i64 0] 87)).alloc (.cells #[.slice none 0 0, .int .i64 0] 87)).frozen? ⟨w.heap.size, 1, none⟩ = false := by go_simp
  have f2 : ((w.alloc (.cells #[.slice none 0 0, .int .i64 0] 87)).alloc (.cells #[.slice none 0 0, .int .i64 0] 87)).frozen? ⟨w.heap.size + 1, 0, none⟩ = false := by go_simp
  have f3 : ((w.alloc (.cells #[.slice none 0 0, .int .i64 0] 87)).alloc (.cells #[.slice none 0 0, .int .i64 0] 87)).frozen? ⟨w.heap.size + 1, 1, none⟩ = false := by go_simp
  have hsz : ((w.alloc (.cells #[.slice none 0 0, .int .i64 0] 87)).alloc (.cells #[.slice none 0 0, .int .i64 0] 87)).heap.size = w.heap.size + 2 := by go_simp
  generalize ((w.alloc (.cells #[.slice none 0 0, .int .i64 0] 87)).alloc (.cells #[.slice none 0 0, .int .i64 0] 87)) = W1 at E1 c0 c1 c2 c3 f0 f1 f2 f3 hsz ⊢
  refine (Cut_any s ⟨#[32]⟩ _ hs (by decide) (by decide)).mono ?_
  rintro e W ⟨ta, tc, rfl, hcs, hls, htb, hE⟩
  rw [← hws] at hcs hls htb ⊢
  rw [hsz] at htb
  unfold maxLen at hls
  have HCS := Lib.hid hcs
  have HTB := Lib.hid htb
  have E2 := E1.trans hE
  have hWs := hE.size
  rw [hsz] at hWs
  clear hsz
  have M0 : Hid (StSt (w.heap.size + 1) W W [] 0) := ⟨Chg.refl _ _, ⟨_, hE.cell c2, OwnsK.nil _, fun b hb => by cases hb⟩, hE.cell c3, (Below.frozen (p := ⟨w.heap.size + 1, 0, none⟩) hE (cell_lt c2)).trans f2, (Below.frozen (p := ⟨w.heap.size + 1, 1, none⟩) hE (cell_lt c3)).trans f3⟩
  have g0 := (Below.frozen (p := ⟨w.heap.size, 0, none⟩) hE (cell_lt c0)).trans f0
  have g1 := (Below.frozen (p := ⟨w.heap.size, 1, none⟩) hE (cell_lt c1)).trans f1
  have c0 := hE.cell c0
  have c1 := hE.cell c1
  clear hcs htb E1 hE c2 c3 f0 f1 f2 f3 hws hs
  go_wp2
  go_loopw [6] (fun i wr => ∃ k : Nat, k ≤ ws.length ∧ i = .int .i64 k ∧ (∃ (P : List Stk) (wt : Int), Hid (StSt (w.heap.size + 1) W wr P wt) ∧ Hid ((wt = 0 ∧ P.length ≤ k ∧ P.length ≤ 6 ∧ stepW ((ws.map ByteArray.toList).drop k) P = some X) ∨ (k = ws.length ∧ X = (P, wt)))) ∧ Ext w wr) (fun i _ => ws.length - (intOf i).toNat)
  case atStart => exact ⟨0, by omega, rfl, ⟨[], 0, M0, .inl ⟨rfl, by simp, by simp, H0.out⟩⟩, E2⟩
  case round =>
    obtain ⟨k, hk, rfl, ⟨P, wt, M, hz⟩, he⟩ := hrel
    clear M0 H0
    have hch := M.out.ch
    by_cases hlt : k < ws.length
    · obtain ⟨rfl, hPk, hP6, hst⟩ : wt = 0 ∧ P.length ≤ k ∧ P.length ≤ 6 ∧ stepW ((ws.map ByteArray.toList).drop k) P = some X := by
        rcases hz.out with h | h
        · exact h
        · exact absurd h.1 (by omega)
      obtain ⟨tb, tf, rfl, t1⟩ := HCS.out k hlt
      have htbW : w.heap.size + 2 ≤ tb := by
        have := HTB.out tb tf rfl (List.length_pos_iff.1 (by omega)); omega
      have t1 := hch.cell (p := ⟨tb, tf + k, none⟩) (by show ¬ tb = w.heap.size + 1; omega) t1
      have hmd : (ws.map ByteArray.toList).getD k [] = (ws.getD k str0).toList := by
        rw [List.getD_eq_getElem?_getD, List.getElem?_map, List.getD_eq_getElem?_getD, List.getElem?_eq_getElem hlt]; rfl
      rw [drop_cons _ [] (by rw [List.length_map]; exact hlt), hmd] at hst
      generalize ws.getD k str0 = y at t1 hst
      obtain ⟨vv, v1, v2, v3⟩ := M.out.v
      have q1 := M.out.c1
      have q2 := M.out.f0
      have q3 := M.out.f1
      unfold stepW at hst
      cases hr : readL y.toList with
      | some st =>
        rw [hr] at hst
        simp only at hst
        have hl6 := (stepW_len hst).1
        rw [List.length_append] at hl6
        simp only [List.length_cons, List.length_nil] at hl6
        have HST := Lib.hid hst
        have HRD : Hid (rdOf (readL y.toList) = (st, true)) := by show _ = _; rw [hr]; rfl
        obtain ⟨sta, sto⟩ := st
        clear hz hst hr
        go_wp2_with fail
        refine (read_any y _ _ _ HRD.out).mono ?_
        rintro e w3 ⟨rfl, hE3⟩
        have E3 : Ext w w3 := he.trans hE3
        have M3 := Lib.hid (M.out.ext hE3)
        have v1 := hE3.cell v1
        have q1 := hE3.cell q1
        have V2 := Lib.hid (v2.ext hE3)
        have V3 := Lib.hid v3
        have q2 := M3.out.f0
        have q3 := M3.out.f1
        clear M v2 v3 t1 hE3
        dsimp only
        have z1 := cell_lt v1
        dsimp only at z1
        go_wp2_with (at_builtin; refine wpList_append1 _ rfl _ _ 66 rfl 73 i0 (.agg #[.int .i64 0, .bool false]) 2 16 Tryz.underlying66 hi hi0 hi1 hi2 rfl (by decide) vv P.length (flatK P) rfl ?ho ⟨w3.heap.size + 1, 0, none⟩ 1 1 (by decide) [.int .i64 sta, .bool sto] rfl rfl ?hn ?c1 ?c2 ?c3 ?c4)
        case ho => exact V2.out.ext (((Ext.refl _).alloc _).alloc _)
        case hn =>
          have hh := cells_one (w3.alloc (.cells #[.int .i64 sta, .bool sto] 73)) [.int .i64 sta, .bool sto] 73
          simpa using hh
        case c1 => intro u hu; simp at hu; rcases hu with rfl | rfl <;> rfl
        case c2 => unfold maxLen; omega
        case c3 => omega
        case c4 =>
          intro v' w7 hown7 hend7
          have O7 : OwnsK w7 v' (P ++ [(sta, sto)]) := ownsK_succ hown7
          have EA : Ext w3 ((w3.alloc (.cells #[.int .i64 sta, .bool sto] 73)).alloc (.cells #[.int .i64 sta, .bool sto] 73)) := (by repeat (first | with_reducible exact Ext.refl _ | with_reducible assumption | with_reducible apply Ext.drewN | with_reducible apply Ext.drew | with_reducible apply Ext.alloc | ((with_reducible refine Ext.set ?_ ?_ _); rotate_left; first | omega | (simp; omega)) | (with_reducible refine Ext.trans ?_ (by with_reducible assumption))))
          have hgr := hend7.chg
          have hsA := EA.size
          have hW3 : W.heap.size ≤ w3.heap.size := M3.out.ch.1
          have E7 : Ext w w7 := (E3.trans EA).trans' (hend7.below (n := W.heap.size) (by omega) V3.out) (by omega)
          have V7 := hend7.ge (n := W.heap.size) (by omega) V3.out
          have same7 : ∀ (p : Addr) (v : Value), p.block = w.heap.size + 1 → w3.cell? p = some v → w7.cell? p = some v ∧ w7.frozen? p = w3.frozen? p := fun p v hp hc => by
            have h1 := hgr.1 p.block (EA.size_lt (cell_lt hc)) (fun e => by have := V3.out _ e; omega)
            exact ⟨(World.cell?_of_block (w := _) h1).trans (EA.cell hc), (World.frozen?_of_block (w := _) h1).trans (Below.frozen (p := p) EA (cell_lt hc))⟩
          have C7 : Chg (fun k => k = w.heap.size + 1) W w7 := by
            refine ⟨by have := hgr.2.1; omega, fun b hb hn => ?_⟩
            have e1 := hgr.1 b (by omega) (fun e => by have := V3.out _ e; omega)
            exact (e1.trans (Below.block EA b (by omega))).trans (M3.out.ch.2 b hb hn)
          obtain ⟨r0, rf0⟩ := same7 ⟨w.heap.size + 1, 0, none⟩ _ rfl v1
          obtain ⟨r1, rf1⟩ := same7 ⟨w.heap.size + 1, 1, none⟩ _ rfl q1
          rw [q2] at rf0
          rw [q3] at rf1
          have HO7 := Lib.hid O7
          have HV7 := Lib.hid V7
          obtain ⟨va, vc, hvv, _, _⟩ := O7.reads
          have hlen : (P ++ [(sta, sto)]).length = P.length + 1 := by rw [List.length_append]; rfl
          rw [hlen] at hvv
          subst hvv
          have MN : Hid (StSt (w.heap.size + 1) W (w7.setCell ⟨w.heap.size + 1, 0, none⟩ (.slice va (P.length + 1) vc)) (P ++ [(sta, sto)]) 0) := by
            refine ⟨C7.trans (Chg.setCell (B := fun k => k = w.heap.size + 1) ⟨w.heap.size + 1, 0, none⟩ _ rfl), ⟨_, World.cell?_setCell_same _ _ _ r0, ?_, HV7.out⟩, ?_, by rw [World.frozen?_setCell]; exact rf0, by rw [World.frozen?_setCell]; exact rf1⟩
            · exact rowSame HO7.out (fun b hb => Below.heap_setCell _ _ _ _ (fun e => by have h9 := HV7.out b hb; dsimp only at e; omega))
            · rw [World.cell?_setCell_other _ _ _ _ (fun h => by simp only [Addr.mk.injEq] at h; omega)]; exact r1
          have E8 : Ext w (w7.setCell ⟨w.heap.size + 1, 0, none⟩ (.slice va (P.length + 1) vc)) := E7.set (by omega) _
          have HMZ := Lib.hid hlen
          clear hown7 hend7 hgr same7 O7 V7 C7 hlen EA E7 M3 V2 V3 rf1 r1
          go_wp2
          refine ⟨⟨k + 1, by omega, by go_num, ⟨_, 0, MN, .inl ⟨rfl, by rw [HMZ.out]; omega, by rw [HMZ.out]; omega, HST.out⟩⟩, E8⟩, by simp [intOf]; omega⟩
      | none =>
        rw [hr] at hst
        simp only at hst
        by_cases hys : (((ws.map ByteArray.toList).drop (k + 1)).length = 0 ∧ P.length ≠ 0)
        · rw [if_pos hys] at hst
          have hke : k + 1 = ws.length := by
            have := hys.1
            rw [List.length_drop, List.length_map] at this; omega
          have hk0 : ¬ (k : Int) = 0 := by have := hys.2; omega
          have hk1 : ¬ k = 0 := by omega
          cases hn : numL y.toList with
          | none => rw [hn] at hst; cases hst
          | some n =>
            rw [hn] at hst
            simp only at hst
            by_cases hn0 : n = 0
            · rw [if_pos hn0] at hst; cases hst
            rw [if_neg hn0] at hst
            have HX : Hid ((P, n) = X) := Option.some.inj hst
            have HRD : Hid (rdOf (readL y.toList) = (stk0, false)) := by show _ = _; rw [hr]; rfl
            have HNN := Lib.hid hn
            have hys2 := hys.2
            clear hz hst hr hn hys
            go_wp2_with fail
            refine (read_any y _ _ _ HRD.out).mono ?_
            rintro e w3 ⟨rfl, hE3⟩
            dsimp only
            have E3 : Ext w w3 := he.trans hE3
            have M3 := Lib.hid (M.out.ext hE3)
            have v1 := hE3.cell v1
            have q1 := hE3.cell q1
            have t1 := hE3.cell t1
            have z1 := cell_lt v1
            have z2 := cell_lt t1
            dsimp only at z1 z2
            have V2 := Lib.hid (v2.ext hE3)
            have V3 := Lib.hid v3
            have q2 := M3.out.f0
            have q3 := M3.out.f1
            clear M v2 v3 hE3
            go_wp2_with fail
            refine (Number_any y n _ HNN.out).mono ?_
            rintro e w5 ⟨rfl, hE5⟩
            have EN : Ext w3 w5 := (by repeat (first | with_reducible exact Ext.refl _ | with_reducible assumption | with_reducible apply Ext.drewN | with_reducible apply Ext.drew | with_reducible apply Ext.alloc | ((with_reducible refine Ext.set ?_ ?_ _); rotate_left; first | omega | (simp; omega)) | (with_reducible refine Ext.trans ?_ (by with_reducible assumption))))
            have M5 := Lib.hid (M3.out.ext EN)
            have E5 : Ext w w5 := E3.trans EN
            have v1 := EN.cell v1
            have q1 := EN.cell q1
            have q2 := M5.out.f0
            have q3 := M5.out.f1
            have O5 := Lib.hid (V2.out.ext EN)
            have MN : Hid (StSt (w.heap.size + 1) W (w5.setCell ⟨w.heap.size + 1, 1, none⟩ (.int .i64 n)) P n) := by
              refine ⟨M5.out.ch.trans (Chg.setCell (B := fun k => k = w.heap.size + 1) ⟨w.heap.size + 1, 1, none⟩ _ rfl), ⟨vv, ?_, ?_, V3.out⟩, World.cell?_setCell_same _ _ _ q1, by rw [World.frozen?_setCell]; exact q2, by rw [World.frozen?_setCell]; exact q3⟩
              · rw [World.cell?_setCell_other _ _ _ _ (fun h => by simp only [Addr.mk.injEq] at h; omega)]; exact v1
              · exact rowSame O5.out (fun b hb => Below.heap_setCell _ _ _ _ (fun e => by have h9 := V3.out b hb; dsimp only at e; omega))
            have E8 : Ext w (w5.setCell ⟨w.heap.size + 1, 1, none⟩ (.int .i64 n)) := E5.set (by omega) _
            have hkl : (k : Int) + 1 = (ws.length : Int) := by omega
            have hkm : ¬ ((k : Int) < (ws.length : Int) - 1) := by omega
            have hwm : IntKind.i64.wrap ((ws.length : Int) - 1) = (ws.length : Int) - 1 := IntWalk.i64_in _ (by omega)
            have hb1 : (n == 0) = false := by simpa using hn0
            have hb2 : ((k : Int) == 0) = false := by simpa using hk0
            have hb3 : decide ((k : Int) < (ws.length : Int) - 1) = false := decide_eq_false hkm
            clear hE5 EN M3 V2 M5 O5
            go_wp2
            refine ⟨⟨k + 1, by omega, by go_num, ⟨P, n, MN, .inr ⟨hke, HX.out.symm⟩⟩, E8⟩, by simp [intOf]; omega⟩
        · rw [if_neg hys] at hst; cases hst
    · have hkk : k = ws.length := by omega
      have HX : Hid (X = (P, wt)) := by
        rcases hz.out with h | h
        · obtain ⟨rfl, _, _, h3⟩ := h
          rw [List.drop_eq_nil_of_le (by rw [List.length_map]; omega)] at h3
          exact (Option.some.inj h3).symm
        · exact h.2
      obtain ⟨vv, v1, v2, v3⟩ := M.out.v
      have q1 := M.out.c1
      have z1 := cell_lt v1
      dsimp only at z1
      obtain ⟨va, vc, rfl, hva, hvl, _⟩ := v2.reads
      have hck := HCK.out
      rw [HX.out] at hck
      have HCK2 := Lib.hid hck
      have HVA := Lib.hid hva
      have HVL := Lib.hid hvl
      have V2 := Lib.hid v2
      have V3 := Lib.hid v3
      have u0 := hch.cell (p := ⟨w.heap.size, 0, none⟩) (by show ¬ w.heap.size = w.heap.size + 1; omega) c0
      have u1 := hch.cell (p := ⟨w.heap.size, 1, none⟩) (by show ¬ w.heap.size = w.heap.size + 1; omega) c1
      have y0 := (hch.frozen (p := ⟨w.heap.size, 0, none⟩) (by show ¬ w.heap.size = w.heap.size + 1; omega) c0).trans g0
      have y1 := (hch.frozen (p := ⟨w.heap.size, 1, none⟩) (by show ¬ w.heap.size = w.heap.size + 1; omega) c1).trans g1
      clear hz hck hva hvl v2 v3 M hch
      go_wp2_with fail
      refine (CheckStepR_any P wt va vc _ HVL.out HVA.out).mono ?_
      rintro e w5 ⟨rfl, hE5⟩
      rw [HCK2.out]
      have y0 := (Below.frozen (p := ⟨w.heap.size, 0, none⟩) hE5 (cell_lt u0)).trans y0
      have y1 := (Below.frozen (p := ⟨w.heap.size, 1, none⟩) hE5 (cell_lt u1)).trans y1
      have u0 := hE5.cell u0
      have u1 := hE5.cell u1
      have v1 := hE5.cell v1
      have q1 := hE5.cell q1
      have O5 := Lib.hid (V2.out.ext hE5)
      have E5 : Ext w w5 := he.trans hE5
      have EF : Ext w ((w5.setCell ⟨w.heap.size, 0, none⟩ (.slice va P.length vc)).setCell ⟨w.heap.size, 1, none⟩ (.int .i64 wt)) := (E5.set (by omega) _).set (by omega) _
      have HFO : Hid (OwnsK ((w5.setCell ⟨w.heap.size, 0, none⟩ (.slice va P.length vc)).setCell ⟨w.heap.size, 1, none⟩ (.int .i64 wt)) (.slice va P.length vc) P) :=
        rowSame O5.out (fun b hb => by
          have h9 := V3.out b hb
          refine (Below.heap_setCell _ _ _ _ (fun e => ?_)).trans (Below.heap_setCell _ _ _ _ (fun e => ?_)) <;> dsimp only at e <;> omega)
      have HFV : Hid (∀ b, (Value.slice va P.length vc).ownBlock = some b → w.heap.size ≤ b) := fun b hb => by have h9 := V3.out b hb; omega
      clear V2 V3 O5 hE5 HVA he
      go_wp2
      refine bodyPost_ret (v := .tuple #[.agg #[.slice va P.length vc, .int .i64 wt], .int .i64 0]) (by rw [results_cell_tmp1 rfl]; go_simp) rfl ?_
      rw [HX.out]
      exact ⟨_, rfl, HFO.out, HFV.out, EF⟩
end Go.Proofs.YtnhbogmihnnpjaaGreat
/- The reference's place, less and Steps; ref13.Turned. -/
namespace Go.Proofs.YtnhbogmihnnpjaaGreat
open Go.RowKit

set_option maxHeartbeats 1000000 in
theorem placeR_any (l : List Int) (x : Int) (a : Option Addr) (cap : Nat) (w : World) (hl : l.length ≤ maxLen) (hc : CellsI w a l) :
    Calls Tryz.prog 76 #[.slice a l.length cap, .int .i64 x] w (AnyPost (mem1 l x) w) := by
  unfold maxLen at hl
  have HC := Lib.hid hc
  clear hc
  go_enter Tryz.func76, Tryz.ntmps76
  go_wp2
  go_loop [5] (fun i => ∃ k : Nat, k ≤ l.length ∧ i = .int .i64 k ∧ Hid (∀ j : Nat, j < k → l.getD j 0 ≠ x)) (fun i => l.length - (intOf i).toNat)
  case atStart => exact ⟨0, Nat.zero_le _, rfl, fun j hj => by omega⟩
  case round =>
    obtain ⟨k, hk, rfl, hnn⟩ := hrel
    by_cases hlt : k < l.length
    · obtain ⟨b, off, rfl, c1⟩ := HC.out k hlt
      by_cases hx : l.getD k 0 = x
      · have HB : Hid (mem1 l x = true) := by
          show _ = _
          unfold mem1
          rw [List.contains_iff_mem, ← hx, List.getD_eq_getElem?_getD, List.getElem?_eq_getElem hlt]
          simp
        rw [hx] at c1
        have hxx : (x == x) = true := by simp
        clear hx
        go_wp2
        go_ret
        exact ⟨(k : Int), rfl, by rw [HB.out]; simp, Ext.refl _⟩
      · have HX := Lib.hid hx
        have hx' : (l.getD k 0 == x) = false := by simpa using hx
        clear hx
        generalize hy : l.getD k 0 = y at c1 HX hx'
        have HY := Lib.hid hy
        clear hy
        go_wp2
        refine ⟨⟨k + 1, by omega, by go_num, fun j hj => ?_⟩, by simp [intOf]; omega⟩
        rcases Nat.lt_or_eq_of_le (Nat.le_of_lt_succ hj) with h | rfl
        · exact hnn.out j h
        · rw [HY.out]; exact HX.out
    · have HB : Hid (mem1 l x = false) := by
        show _ = _
        unfold mem1
        rw [← Bool.not_eq_true, List.contains_iff_mem]
        intro hm
        obtain ⟨j, hj, e⟩ := List.mem_iff_getElem.1 hm
        refine hnn.out j (by omega) ?_
        rw [List.getD_eq_getElem?_getD, List.getElem?_eq_getElem hj, e]; rfl
      go_wp2
      go_ret
      exact ⟨-1, rfl, by rw [HB.out]; simp, Ext.refl _⟩
theorem lexLt_drop (l m : List Int) (k : Nat) (h : k < l.length) (h2 : k < m.length) (r : Bool) (e : lexLt (l.drop k) (m.drop k) = r) :
    (l.getD k 0 ≠ m.getD k 0 → decide (l.getD k 0 < m.getD k 0) = r) ∧ (l.getD k 0 = m.getD k 0 → lexLt (l.drop (k + 1)) (m.drop (k + 1)) = r) := by
  rw [drop_cons l 0 h, drop_cons m 0 h2] at e
  unfold lexLt at e
  refine ⟨fun hn => ?_, fun he => ?_⟩
  · rw [if_pos hn] at e; exact e
  · rw [if_neg (fun hn => hn he)] at e; exact e
theorem drop_end (l : List Int) {k : Nat} (h : l.length ≤ k) : l.drop k = [] := List.drop_eq_nil_of_le h
theorem lexLt_end (l m : List Int) (k : Nat) (h : ¬ (k < l.length ∧ k < m.length)) (hl : k ≤ l.length) (hm : k ≤ m.length) : lexLt (l.drop k) (m.drop k) = decide (l.length < m.length) := by
  by_cases h1 : k < l.length
  · have h2 : m.length = k := by omega
    rw [drop_cons l 0 h1, drop_end m (k := k) (by omega)]
    rw [show decide (l.length < m.length) = false from by simp; omega]; rfl
  · have h2 : l.length = k := by omega
    rw [drop_end l (k := k) (by omega)]
    by_cases h3 : k < m.length
    · rw [drop_cons m 0 h3, show decide (l.length < m.length) = true from by simp; omega]; rfl
    · rw [drop_end m (k := k) (by omega), show decide (l.length < m.length) = false from by simp; omega]; rfl

set_option maxHeartbeats 2000000 in
theorem lessR_any (l m : List Int) (a b : Option Addr) (ca cb : Nat) (w : World) (hl : l.length ≤ maxLen) (hc : CellsI w a l) (_hm : m.length ≤ maxLen) (hd : CellsI w b m) :
    Calls Tryz.prog 102 #[.slice a l.length ca, .slice b m.length cb] w fun r w' => r = .returned (.bool (lexLt l m)) ∧ Ext w w' := by
  have HC := Lib.hid hc
  have HD := Lib.hid hd
  unfold maxLen at hl _hm
  clear hc hd
  go_enter Tryz.func102, Tryz.ntmps102
  go_wp2
  go_loopw [5] (fun i wr => ∃ k : Nat, k ≤ l.length ∧ k ≤ m.length ∧ i = .int .i64 k ∧ Hid (lexLt (l.drop k) (m.drop k) = lexLt l m) ∧ Ext w wr) (fun i _ => l.length - (intOf i).toNat)
  case atStart => exact ⟨0, Nat.zero_le _, Nat.zero_le _, rfl, by show _ = _; rfl, Ext.refl _⟩
  case round =>
    obtain ⟨k, hk, hk2, rfl, hz, he⟩ := hrel
    by_cases hlt : k < l.length ∧ k < m.length
    · obtain ⟨h1, h2⟩ := hlt
      obtain ⟨ba, oa, rfl, c1⟩ := HC.out k h1
      obtain ⟨bb, ob, rfl, c2⟩ := HD.out k h2
      have c1 := he.cell c1
      have c2 := he.cell c2
      have HZ := Lib.hid (lexLt_drop l m k h1 h2 _ hz.out)
      clear hz
      generalize l.getD k 0 = x at c1 HZ
      generalize m.getD k 0 = y at c2 HZ
      by_cases hxy : x = y
      · subst hxy
        have HZ2 := Lib.hid (HZ.out.2 rfl)
        have hxx : (x != x) = false := by simp
        clear HZ
        go_wp2
        go_quiet (fail)
        go_wp2
        refine ⟨⟨k + 1, by omega, by omega, by go_num, HZ2, (by repeat (first | with_reducible exact Ext.refl _ | with_reducible assumption | with_reducible apply Ext.drewN | with_reducible apply Ext.drew | with_reducible apply Ext.alloc | ((with_reducible refine Ext.set ?_ ?_ _); rotate_left; first | omega | (simp; omega)) | (with_reducible refine Ext.trans ?_ (by with_reducible assumption))))⟩, by simp [intOf]; omega⟩
      · have HZ2 := Lib.hid (HZ.out.1 hxy)
        have hxx : (x != y) = true := by simpa using hxy
        clear HZ hxy
        go_wp2
        go_quiet (fail)
        go_wp2
        go_quiet (fail)
        go_wp2
        go_ret
        exact ⟨ret_bool (by rw [← HZ2.out]), (by repeat (first | with_reducible exact Ext.refl _ | with_reducible assumption | with_reducible apply Ext.drewN | with_reducible apply Ext.drew | with_reducible apply Ext.alloc | ((with_reducible refine Ext.set ?_ ?_ _); rotate_left; first | omega | (simp; omega)) | (with_reducible refine Ext.trans ?_ (by with_reducible assumption))))⟩
    · have HE := Lib.hid ((lexLt_end l m k hlt hk hk2).symm.trans hz.out)
      by_cases h1 : k < l.length
      · have h2 : ¬ k < m.length := fun h => hlt ⟨h1, h⟩
        clear hlt hz
        go_wp2
        go_ret
        exact ⟨ret_bool (by rw [← HE.out]), (by repeat (first | with_reducible exact Ext.refl _ | with_reducible assumption | with_reducible apply Ext.drewN | with_reducible apply Ext.drew | with_reducible apply Ext.alloc | ((with_reducible refine Ext.set ?_ ?_ _); rotate_left; first | omega | (simp; omega)) | (with_reducible refine Ext.trans ?_ (by with_reducible assumption))))⟩
      · clear hlt hz
        go_wp2
        go_ret
        exact ⟨ret_bool (by rw [← HE.out]), (by repeat (first | with_reducible exact Ext.refl _ | with_reducible assumption | with_reducible apply Ext.drewN | with_reducible apply Ext.drew | with_reducible apply Ext.alloc | ((with_reducible refine Ext.set ?_ ?_ _); rotate_left; first | omega | (simp; omega)) | (with_reducible refine Ext.trans ?_ (by with_reducible assumption))))⟩
theorem TurnedS_any (y : Stk) (w : World) : Calls Tryz.prog 64 #[.agg #[.int .i64 y.1, .bool y.2]] w fun r w' => r = .returned (.agg #[.int .i64 y.1, .bool (!y.2)]) ∧ Ext w w' := by
  obtain ⟨a, o⟩ := y
  dsimp only
  go_enter Tryz.func64, Tryz.ntmps64
  go_wp2
  exact bodyPost_ret (v := .agg #[.int .i64 a, .bool (!o)]) (by rw [results_cell1 rfl]; go_simp) rfl ⟨rfl, (by repeat (first | with_reducible exact Ext.refl _ | with_reducible assumption | with_reducible apply Ext.drewN | with_reducible apply Ext.drew | with_reducible apply Ext.alloc | ((with_reducible refine Ext.set ?_ ?_ _); rotate_left; first | omega | (simp; omega)) | (with_reducible refine Ext.trans ?_ (by with_reducible assumption))))⟩
end Go.Proofs.YtnhbogmihnnpjaaGreat
/- The reference's Steps: where an actuator moves. -/
namespace Go.Proofs.YtnhbogmihnnpjaaGreat
open Go.RowKit

def movesK (l : List Stp) (a : Int) (k : Nat) : List Int := (ints (k : Int)).filter fun j => movesIn a (l.getD j.toNat stp0)
theorem movesK_succ (l : List Stp) (a : Int) (k : Nat) : movesK l a (k + 1) = movesK l a k ++ if movesIn a (l.getD k stp0) then [(k : Int)] else [] := by
  unfold movesK
  rw [ints_succ, List.filter_append]
  congr 1
  by_cases c : movesIn a (l.getD k stp0) = true
  · rw [if_pos c, List.filter_cons, Int.toNat_natCast, if_pos c]; rfl
  · rw [if_neg c, List.filter_cons, Int.toNat_natCast, if_neg c]; rfl
theorem movesK_len (l : List Stp) (a : Int) (k : Nat) : (movesK l a k).length ≤ k := by
  unfold movesK
  refine Nat.le_trans (List.length_filter_le _ _) ?_
  simp [ints]
theorem movesK_end (l : List Stp) (a : Int) : movesK l a l.length = movesOf l a := rfl
/-- ints of the call's own are returned -/
def OwnIPost (l : List Int) (w : World) (e : Ending) (w' : World) : Prop := ∃ v, e = .returned v ∧ OwnsI w' v l ∧ (∀ b, v.ownBlock = some b → w.heap.size ≤ b) ∧ Ext w w'

set_option maxHeartbeats 4000000 in
set_option maxRecDepth 100000 in
theorem StepsR_any (n : Value) (l : List Stp) (x : Int) (a : Option Addr) (cap : Nat) (w : World) (hl : l.length ≤ 200) (hc : CellsP w a l) :
    Calls Tryz.prog 98 #[.agg #[n, .slice a l.length cap], .int .i64 x] w (OwnIPost (movesOf l x) w) := by
  have HC := Lib.hid hc
  clear hc
  obtain ⟨i0, hi, hi0, hi1, hi2⟩ := info_parts infoInt
  go_enter Tryz.func98, Tryz.ntmps98
  go_wp2
  have E1 : Ext w (w.alloc (.cells #[n, .slice a l.length cap] 24)) := (by repeat (first | with_reducible exact Ext.refl _ | with_reducible assumption | with_reducible apply Ext.drewN | with_reducible apply Ext.drew | with_reducible apply Ext.alloc | ((with_reducible refine Ext.set ?_ ?_ _); rotate_left; first | omega | (simp; omega)) | (with_reducible refine Ext.trans ?_ (by with_reducible assumption))))
  have e1 : (w.alloc (.cells #[n, .slice a l.length cap] 24)).cell? ⟨w.heap.size, 1, none⟩ = some (.slice a l.length cap) := by go_simp
  generalize w.alloc (.cells #[n, .slice a l.length cap] 24) = W at E1 e1 ⊢
  have hW := E1.size
  go_loopw [6, 5] (fun i v wr => ∃ k : Nat, k ≤ l.length ∧ i = .int .i64 k ∧ (∃ vv, v = vv ∧ Hid (OwnsI wr vv (movesK l x k) ∧ ∀ b, vv.ownBlock = some b → W.heap.size ≤ b)) ∧ Ext W wr) (fun i _ _ => l.length - (intOf i).toNat)
  case atStart => exact ⟨0, Nat.zero_le _, rfl, ⟨_, rfl, OwnsI.nil _, fun b hb => by cases hb⟩, Ext.refl _⟩
  case round =>
    obtain ⟨k, hk, rfl, ⟨vv, hvv, hO⟩, he⟩ := hrel
    obtain rfl := hvv.symm
    have d1 := he.cell e1
    by_cases hlt : k < l.length
    · obtain ⟨b, off, v, ha, p1, hv, p2⟩ := HC.out.ext (E1.trans he) k hlt
      subst ha
      obtain ⟨sa, sc, rfl, hcs, hls⟩ := hv
      have HCS := Lib.hid hcs
      have HLS := Lib.hid hls
      have HM := Lib.hid (movesK_succ l x k)
      have hq := movesK_len l x k
      clear hcs hls
      generalize l.getD k stp0 = y at p1 p2 HCS HLS HM
      obtain ⟨st, wait⟩ := y
      dsimp only at p1 p2 HCS HLS HM
      have z1 := cell_lt p1
      dsimp only at z1
      have hsz := he.size
      have hway := wayL_moves x st
      have hmv : movesIn x (st, wait) = (wayL x st != 0) := by rw [hway]; rfl
      rw [hmv] at HM
      have HWY := Lib.hid (WayR_any st wait x sa sc wr HLS.out HCS.out)
      clear hway hmv
      generalize wayL x st = v at HM HWY
      cases hv : (v != 0)
      · have HR : Hid (movesK l x (k + 1) = movesK l x k) := by show _ = _; rw [HM.out, hv]; simp
        clear HM
        go_wp2_with fail
        refine HWY.out.mono ?_
        rintro e w2 ⟨rfl, hE⟩
        go_wp2
        refine ⟨⟨k + 1, by omega, by go_num, ⟨vv, rfl, by rw [HR.out]; exact ⟨hO.out.1.ext hE, hO.out.2⟩⟩, he.trans hE⟩, by simp [intOf]; omega⟩
      · have HR : Hid (movesK l x (k + 1) = movesK l x k ++ [(k : Int)]) := by show _ = _; rw [HM.out, hv]; simp
        have O2 := Lib.hid hO.out.1
        have OB := Lib.hid hO.out.2
        clear HM hO
        generalize hP : movesK l x k = P at HR O2 hq
        clear hP
        go_wp2_with fail
        refine HWY.out.mono ?_
        rintro e w2 ⟨rfl, hE⟩
        have hsz2 := hE.size
        go_wp2_with (at_builtin; refine wpList_append1 _ rfl _ _ 27 rfl 3 i0 (.int .i64 0) 1 8 Tryz.underlying27 hi hi0 hi1 hi2 rfl (by decide) vv P.length (P.map (Value.int .i64)) rfl ?ho ⟨w2.heap.size, 0, none⟩ 1 1 (by decide) [.int .i64 (k : Int)] rfl rfl ?hn ?c1 ?c2 ?c3 ?c4)
        case ho => exact (O2.out.ext hE).ext ((Ext.refl _).alloc _)
        case hn => exact cells_one _ _ _
        case c1 => intro u hu; simp at hu; subst hu; rfl
        case c2 => unfold maxLen; omega
        case c3 => omega
        case c4 =>
          intro v' w5 hown5 hend5
          have O5 : Hid (OwnsI w5 v' (movesK l x (k + 1))) := by show OwnsI _ _ _; rw [HR.out]; exact ownsI_succ hown5
          have B6 : Ext W w5 := ((he.trans hE).trans ((Ext.refl _).alloc _)).trans' (hend5.below (n := W.heap.size) (by simp; omega) OB.out) (Nat.le_refl _)
          skip
          have OB5 : Hid (∀ b, v'.ownBlock = some b → W.heap.size ≤ b) := hend5.ge (n := W.heap.size) (by simp; omega) OB.out
          clear hown5 hend5 O2 OB
          go_wp2
          refine ⟨⟨k + 1, by omega, by go_num, ⟨v', rfl, O5.out, OB5.out⟩, B6⟩, by simp [intOf]; omega⟩
    · have hke : k = l.length := by omega
      subst hke
      go_wp2
      go_ret
      exact ⟨_, rfl, by rw [← movesK_end]; exact hO.out.1, (fun b hb => Nat.le_trans hW (hO.out.2 b hb)), E1.trans he⟩
end Go.Proofs.YtnhbogmihnnpjaaGreat
/- The reference's Renaming. -/
namespace Go.Proofs.YtnhbogmihnnpjaaGreat
open Go.RowKit

theorem renGo_drop (n : Int) (l : List Int) (k : Nat) (h : k < l.length) (r : Int) (e : renGo n (l.take k) (l.drop k) = r) :
    ((l.getD k 0 < 0 ∨ n ≤ l.getD k 0) → r = 2) ∧ (¬ (l.getD k 0 < 0 ∨ n ≤ l.getD k 0) → (mem1 (l.take k) (l.getD k 0) = true → r = 7) ∧ (mem1 (l.take k) (l.getD k 0) = false → renGo n (l.take (k + 1)) (l.drop (k + 1)) = r)) := by
  rw [drop_cons l 0 h] at e
  unfold renGo at e
  refine ⟨fun h1 => ?_, fun h1 => ⟨fun h2 => ?_, fun h2 => ?_⟩⟩
  · rw [if_pos h1] at e; exact e.symm
  · unfold mem1 at h2; rw [if_neg h1, if_pos h2] at e; exact e.symm
  · rw [if_neg h1, if_neg (by unfold mem1 at h2; rw [h2]; decide)] at e
    rw [List.take_succ_eq_append_getElem h]
    rw [List.getD_eq_getElem?_getD, List.getElem?_eq_getElem h] at e
    exact e
theorem CellsI.take {w : World} {a : Option Addr} {l : List Int} (h : CellsI w a l) (k : Nat) : CellsI w a (l.take k) := fun i hi => by
  rw [List.length_take] at hi
  have e : (l.take k).getD i 0 = l.getD i 0 := by
    rw [List.getD_eq_getElem?_getD, List.getD_eq_getElem?_getD, List.getElem?_take_of_lt (by omega)]
  rw [e]
  exact h i (by omega)

set_option maxHeartbeats 4000000 in
theorem RenamingR_any (l : List Int) (n : Int) (a : Option Addr) (cap : Nat) (w : World) (_hl : l.length ≤ maxLen) (hcap : l.length ≤ cap) (hcm : cap ≤ maxLen) (hc : CellsI w a l) :
    Calls Tryz.prog 36 #[.slice a l.length cap, .int .i64 n] w fun r w' => r = .returned (.int .i64 (renE l n)) ∧ Ext w w' := by
  have HC := Lib.hid hc
  unfold maxLen at _hl hcm
  clear hc
  by_cases hn : (l.length : Int) = n
  · subst hn
    have hre : Hid (renE l (l.length : Int) = renGo (l.length : Int) [] l) := by show _ = _; unfold renE; rw [if_neg (by simp)]
    have hnn : ((l.length : Int) != (l.length : Int)) = false := by simp
    go_enter Tryz.func36, Tryz.ntmps36
    go_wp2
    go_loopw [5] (fun i wr => ∃ k : Nat, k ≤ l.length ∧ i = .int .i64 k ∧ Hid (renGo (l.length : Int) (l.take k) (l.drop k) = renGo (l.length : Int) [] l) ∧ Ext w wr) (fun i _ => l.length - (intOf i).toNat)
    case atStart => exact ⟨0, Nat.zero_le _, rfl, by show _ = _; rfl, Ext.refl _⟩
    case round =>
      obtain ⟨k, hk, rfl, hz, he⟩ := hrel
      by_cases hlt : k < l.length
      · obtain ⟨b, off, rfl, c1⟩ := HC.out k hlt
        have c1 := he.cell c1
        have HZ := Lib.hid (renGo_drop (l.length : Int) l k hlt _ hz.out)
        have HT : Hid (CellsI wr (some ⟨b, off, none⟩) (l.take k)) := (HC.out.ext he).take k
        clear hz
        generalize l.getD k 0 = x at c1 HZ
        have z1 := cell_lt c1
        dsimp only at z1
        by_cases h2 : x < 0
        · have HE := Lib.hid (HZ.out.1 (.inl h2))
          clear HZ
          go_wp2
          go_ret
          exact ⟨ret_int (by rw [hre.out, HE.out]), he⟩
        · by_cases h3 : (l.length : Int) ≤ x
          · have HE := Lib.hid (HZ.out.1 (.inr h3))
            clear HZ
            go_wp2
            go_ret
            exact ⟨ret_int (by rw [hre.out, HE.out]), he⟩
          · have HZ2 := Lib.hid (HZ.out.2 (by omega))
            have hkc : k ≤ cap := by omega
            obtain ⟨T, hT⟩ : ∃ T, T = l.take k := ⟨_, rfl⟩
            have hTl : T.length = k := by rw [hT, List.length_take]; omega
            rw [← hT] at HT HZ2
            have HPL := Lib.hid (placeR_any T x (some ⟨b, off, none⟩) cap)
            rw [hTl] at HPL
            have HTL := Lib.hid hTl
            clear hT hTl HZ
            go_wp2
            go_region_held3 (fun w' => Sees wr w') ((repeat (first | exact Sees.refl _ | assumption | apply Sees.drew | apply Sees.alloc | (refine Sees.ext ?_ (by assumption))))) (first | (go_at_call 76; refine (HPL.out _ (by unfold maxLen; omega) (HT.out.ext (by exact (show Sees wr _ by assumption).2.2))).mono ?_; rintro e w' ⟨r, rfl, hr, hE⟩; have HRR := Lib.hid hr; clear hr))
            have hSee : Sees wr w' := by assumption
            have E5 : Ext w w' := he.trans hSee.2.2
            clear hSee
            cases hm : mem1 T x
            · have HZ3 := Lib.hid (HZ2.out.2 hm)
              rw [hm] at HRR
              have hr2 : ¬ (0 ≤ r) := by simpa using HRR.out
              clear HZ2 HRR hm
              go_wp2
              refine ⟨⟨k + 1, by omega, by go_num, HZ3, E5⟩, by simp [intOf]; omega⟩
            · have HZ3 := Lib.hid (HZ2.out.1 hm)
              rw [hm] at HRR
              have hr2 : 0 ≤ r := by simpa using HRR.out
              clear HZ2 HRR hm
              go_wp2
              go_ret
              exact ⟨ret_int (by rw [hre.out, HZ3.out]), E5⟩
      · have hz2 := hz.out
        rw [drop_end l (k := k) (by omega)] at hz2
        have HZ3 := Lib.hid hz2
        clear hz hz2
        go_wp2
        go_ret
        exact ⟨ret_int (by rw [hre.out, ← HZ3.out]; rfl), he⟩
  · have hnn : ((l.length : Int) != n) = true := by simpa using hn
    have hre : Hid (renE l n = 8) := by show _ = _; unfold renE; rw [if_pos hn]
    clear hn
    go_enter Tryz.func36, Tryz.ntmps36
    go_wp2
    go_ret
    exact ⟨ret_int (by rw [hre.out]), Ext.refl _⟩
end Go.Proofs.YtnhbogmihnnpjaaGreat
/- variant.moves: where an actuator moves. -/
namespace Go.Proofs.YtnhbogmihnnpjaaGreat
open Go.RowKit

theorem moves1_any (y : Stk) (x : Int) (pb : Nat) (w : World) (hp : w.cell? ⟨pb, 0, none⟩ = some (.int .i64 x)) :
    Calls Tryz.prog 107 #[.agg #[.int .i64 y.1, .bool y.2], .pointer (some ⟨pb, 0, none⟩)] w fun r w' => r = .returned (.bool (y.1 == x)) ∧ Ext w w' := by
  obtain ⟨a, o⟩ := y
  dsimp only
  have z := cell_lt hp
  dsimp only at z
  go_enter Tryz.func107, Tryz.ntmps107
  go_wp2
  go_ret
  exact ⟨ret_bool rfl, (by repeat (first | with_reducible exact Ext.refl _ | with_reducible assumption | with_reducible apply Ext.drewN | with_reducible apply Ext.drew | with_reducible apply Ext.alloc | ((with_reducible refine Ext.set ?_ ?_ _); rotate_left; first | omega | (simp; omega)) | (with_reducible refine Ext.trans ?_ (by with_reducible assumption))))⟩
set_option maxHeartbeats 2000000 in
theorem IndexK_any (l : List Stk) (x : Int) (pb : Nat) (a : Option Addr) (cap : Nat) (w : World) (hl : l.length ≤ maxLen) (hc : CellsK w a l) (hp : w.cell? ⟨pb, 0, none⟩ = some (.int .i64 x)) :
    Calls Tryz.prog 122 #[.slice a l.length cap, .func (.func 107) #[] #[.pointer (some ⟨pb, 0, none⟩)]] w (AnyPost (movesL x l) w) := by
  unfold maxLen at hl
  have HC := Lib.hid hc
  clear hc
  go_enter Tryz.func122, Tryz.ntmps122
  go_wp2
  go_loopw [8] (fun i wr => ∃ k : Nat, k ≤ l.length ∧ i = .int .i64 k ∧ Hid (movesL x (l.drop k) = movesL x l) ∧ Ext w wr) (fun i _ => l.length - (intOf i).toNat)
  case atStart => exact ⟨0, Nat.zero_le _, rfl, by show _ = _; rfl, Ext.refl _⟩
  case round =>
    obtain ⟨k, hk, rfl, hz, he⟩ := hrel
    have hp := he.cell hp
    by_cases hlt : k < l.length
    · obtain ⟨b, off, ha, p1, p2⟩ := HC.out.ext he k hlt
      subst ha
      have hz1 := any_drop (fun y : Stk => y.1 == x) l stk0 hlt hz.out
      have HZ := Lib.hid hz1
      clear hz hz1
      generalize l.getD k stk0 = y at p1 p2 HZ
      have z1 := cell_lt p1
      dsimp only at z1
      have HCL := Lib.hid (moves1_any y x pb wr hp)
      go_wp2_with fail
      refine HCL.out.mono ?_
      rintro e w1 ⟨rfl, hE⟩
      have E1 := he.trans hE
      clear HCL
      cases hv : (y.1 == x)
      · have HZ2 : Hid (movesL x (l.drop (k + 1)) = movesL x l) := by
          show _ = _
          have := HZ.out
          rw [hv, Bool.false_or] at this
          exact this
        clear HZ
        go_wp2
        refine ⟨⟨k + 1, by omega, by go_num, HZ2, E1⟩, by simp [intOf]; omega⟩
      · have HZ2 : Hid (movesL x l = true) := by
          show _ = _
          have := HZ.out
          rw [hv, Bool.true_or] at this
          exact this.symm
        clear HZ
        go_wp2
        go_ret
        exact ⟨(k : Int), rfl, by rw [HZ2.out]; simp, E1⟩
    · have hz1 := hz.out
      rw [List.drop_eq_nil_of_le (by omega)] at hz1
      have HA := Lib.hid hz1
      clear hz hz1
      go_wp2
      go_ret
      exact ⟨-1, rfl, by rw [← HA.out]; rfl, he⟩
theorem ContainsK_any (l : List Stk) (x : Int) (pb : Nat) (a : Option Addr) (cap : Nat) (w : World) (hl : l.length ≤ maxLen) (hc : CellsK w a l) (hp : w.cell? ⟨pb, 0, none⟩ = some (.int .i64 x)) :
    Calls Tryz.prog 106 #[.slice a l.length cap, .func (.func 107) #[] #[.pointer (some ⟨pb, 0, none⟩)]] w fun r w' => r = .returned (.bool (movesL x l)) ∧ Ext w w' := by
  have HI := Lib.hid (IndexK_any l x pb a cap w hl hc hp)
  clear hl hc
  go_enter Tryz.func106, Tryz.ntmps106
  go_wp2_with fail
  refine HI.out.mono ?_
  rintro e w1 ⟨r, rfl, hr, hE⟩
  have HR := Lib.hid hr
  clear hr
  go_wp2
  all_goals go_ret
  all_goals exact ⟨ret_bool HR.out, hE⟩
end Go.Proofs.YtnhbogmihnnpjaaGreat
/- variant.moves, the walk. -/
namespace Go.Proofs.YtnhbogmihnnpjaaGreat
open Go.RowKit

set_option maxHeartbeats 4000000 in
set_option maxRecDepth 100000 in
theorem moves_any (n : Value) (l : List Stp) (x : Int) (a : Option Addr) (cap : Nat) (w : World) (hl : l.length ≤ 200) (hc : CellsP w a l) :
    Calls Tryz.prog 75 #[.agg #[n, .slice a l.length cap], .int .i64 x] w (OwnIPost (movesOf l x) w) := by
  have HC := Lib.hid hc
  clear hc
  obtain ⟨i0, hi, hi0, hi1, hi2⟩ := info_parts infoInt
  go_enter Tryz.func75, Tryz.ntmps75
  go_wp2
  have E1 : Ext w ((w.alloc (.cells #[n, .slice a l.length cap] 24)).alloc (.cells #[.int .i64 x] 3)) := (by repeat (first | with_reducible exact Ext.refl _ | with_reducible assumption | with_reducible apply Ext.drewN | with_reducible apply Ext.drew | with_reducible apply Ext.alloc | ((with_reducible refine Ext.set ?_ ?_ _); rotate_left; first | omega | (simp; omega)) | (with_reducible refine Ext.trans ?_ (by with_reducible assumption))))
  have e1 : ((w.alloc (.cells #[n, .slice a l.length cap] 24)).alloc (.cells #[.int .i64 x] 3)).cell? ⟨w.heap.size, 1, none⟩ = some (.slice a l.length cap) := by go_simp
  have e2 : ((w.alloc (.cells #[n, .slice a l.length cap] 24)).alloc (.cells #[.int .i64 x] 3)).cell? ⟨w.heap.size + 1, 0, none⟩ = some (.int .i64 x) := by go_simp
  generalize ((w.alloc (.cells #[n, .slice a l.length cap] 24)).alloc (.cells #[.int .i64 x] 3)) = W at E1 e1 e2 ⊢
  have hW := E1.size
  go_loopw [11, 5] (fun i v wr => ∃ k : Nat, k ≤ l.length ∧ i = .int .i64 k ∧ (∃ vv, v = vv ∧ Hid (OwnsI wr vv (movesK l x k) ∧ ∀ b, vv.ownBlock = some b → W.heap.size ≤ b)) ∧ Ext W wr) (fun i _ _ => l.length - (intOf i).toNat)
  case atStart => exact ⟨0, Nat.zero_le _, rfl, ⟨_, rfl, OwnsI.nil _, fun b hb => by cases hb⟩, Ext.refl _⟩
  case round =>
    obtain ⟨k, hk, rfl, ⟨vv, hvv, hO⟩, he⟩ := hrel
    obtain rfl := hvv.symm
    have d1 := he.cell e1
    have d2 := he.cell e2
    by_cases hlt : k < l.length
    · obtain ⟨b, off, v, ha, p1, hv, p2⟩ := HC.out.ext (E1.trans he) k hlt
      subst ha
      obtain ⟨sa, sc, rfl, hcs, hls⟩ := hv
      have HCS := Lib.hid hcs
      have HLS := Lib.hid hls
      have HM := Lib.hid (movesK_succ l x k)
      have hq := movesK_len l x k
      clear hcs hls
      generalize l.getD k stp0 = y at p1 p2 HCS HLS HM
      obtain ⟨st, wait⟩ := y
      dsimp only at p1 p2 HCS HLS HM
      have z1 := cell_lt p1
      dsimp only at z1
      have hsz := he.size
      have hmv : movesIn x (st, wait) = movesL x st := rfl
      rw [hmv] at HM
      have EB : Ext wr (wr.alloc (.cells #[.slice sa st.length sc, .int .i64 wait] 87)) := (by repeat (first | with_reducible exact Ext.refl _ | with_reducible assumption | with_reducible apply Ext.drewN | with_reducible apply Ext.drew | with_reducible apply Ext.alloc | ((with_reducible refine Ext.set ?_ ?_ _); rotate_left; first | omega | (simp; omega)) | (with_reducible refine Ext.trans ?_ (by with_reducible assumption))))
      have HWY := Lib.hid (ContainsK_any st x (w.heap.size + 1) sa sc _ HLS.out (HCS.out.ext EB) (EB.cell d2))
      clear hmv
      generalize movesL x st = v at HM HWY
      cases hv : v
      · have HR : Hid (movesK l x (k + 1) = movesK l x k) := by show _ = _; rw [HM.out, hv]; simp
        clear HM
        go_wp2_with fail
        refine HWY.out.mono ?_
        rintro e w2 ⟨rfl, hE0⟩
        have hE := EB.trans hE0
        rw [hv]
        go_wp2
        refine ⟨⟨k + 1, by omega, by go_num, ⟨vv, rfl, by rw [HR.out]; exact ⟨hO.out.1.ext hE, hO.out.2⟩⟩, he.trans hE⟩, by simp [intOf]; omega⟩
      · have HR : Hid (movesK l x (k + 1) = movesK l x k ++ [(k : Int)]) := by show _ = _; rw [HM.out, hv]; simp
        have O2 := Lib.hid hO.out.1
        have OB := Lib.hid hO.out.2
        clear HM hO
        generalize hP : movesK l x k = P at HR O2 hq
        clear hP
        go_wp2_with fail
        refine HWY.out.mono ?_
        rintro e w2 ⟨rfl, hE0⟩
        have hE := EB.trans hE0
        rw [hv]
        have hsz2 := hE.size
        go_wp2_with (at_builtin; refine wpList_append1 _ rfl _ _ 27 rfl 3 i0 (.int .i64 0) 1 8 Tryz.underlying27 hi hi0 hi1 hi2 rfl (by decide) vv P.length (P.map (Value.int .i64)) rfl ?ho ⟨w2.heap.size, 0, none⟩ 1 1 (by decide) [.int .i64 (k : Int)] rfl rfl ?hn ?c1 ?c2 ?c3 ?c4)
        case ho => exact (O2.out.ext hE).ext ((Ext.refl _).alloc _)
        case hn => exact cells_one _ _ _
        case c1 => intro u hu; simp at hu; subst hu; rfl
        case c2 => unfold maxLen; omega
        case c3 => omega
        case c4 =>
          intro v' w5 hown5 hend5
          have O5 : Hid (OwnsI w5 v' (movesK l x (k + 1))) := by show OwnsI _ _ _; rw [HR.out]; exact ownsI_succ hown5
          have B6 : Ext W w5 := ((he.trans hE).trans ((Ext.refl _).alloc _)).trans' (hend5.below (n := W.heap.size) (by simp; omega) OB.out) (Nat.le_refl _)
          skip
          have OB5 : Hid (∀ b, v'.ownBlock = some b → W.heap.size ≤ b) := hend5.ge (n := W.heap.size) (by simp; omega) OB.out
          clear hown5 hend5 O2 OB
          go_wp2
          refine ⟨⟨k + 1, by omega, by go_num, ⟨v', rfl, O5.out, OB5.out⟩, B6⟩, by simp [intOf]; omega⟩
    · have hke : k = l.length := by omega
      subst hke
      go_wp2
      go_ret
      exact ⟨_, rfl, by rw [← movesK_end]; exact hO.out.1, (fun b hb => Nat.le_trans hW (hO.out.2 b hb)), E1.trans he⟩
end Go.Proofs.YtnhbogmihnnpjaaGreat
/- slices.Compare on ints, and Standard's comparison of actuators. -/
namespace Go.Proofs.YtnhbogmihnnpjaaGreat
open Go.RowKit

def cmpL : List Int → List Int → Int
  | [], [] => 0
  | [], _ :: _ => -1
  | _ :: _, [] => 1
  | a :: l, b :: m => if cmpI a b ≠ 0 then cmpI a b else cmpL l m
theorem cmpL_neg (l m : List Int) : decide (cmpL l m < 0) = lexLt l m := by
  induction l generalizing m with
  | nil => cases m <;> rfl
  | cons a l ih =>
    cases m with
    | nil => rfl
    | cons b m =>
      unfold cmpL lexLt cmpI
      by_cases h1 : a < b
      · simp [h1]; omega
      · by_cases h2 : b < a
        · simp [h1, h2]; omega
        · have : a = b := by omega
          subst this
          simpa using ih m
theorem cmpL_drop (l m : List Int) (k : Nat) (h1 : k < l.length) (h2 : k < m.length) (r : Int) (e : cmpL (l.drop k) (m.drop k) = r) :
    (cmpI (l.getD k 0) (m.getD k 0) ≠ 0 → cmpI (l.getD k 0) (m.getD k 0) = r) ∧ (cmpI (l.getD k 0) (m.getD k 0) = 0 → cmpL (l.drop (k + 1)) (m.drop (k + 1)) = r) := by
  rw [drop_cons l 0 h1, drop_cons m 0 h2] at e
  unfold cmpL at e
  refine ⟨fun h => ?_, fun h => ?_⟩
  · rw [if_pos h] at e; exact e
  · rw [if_neg (fun hn => hn h)] at e; exact e

set_option maxHeartbeats 4000000 in
theorem CompareI_any (l m : List Int) (a b : Option Addr) (ca cb : Nat) (w : World) (hl : l.length ≤ maxLen) (hc : CellsI w a l) (_hm : m.length ≤ maxLen) (hd : CellsI w b m) :
    Calls Tryz.prog 74 #[.slice a l.length ca, .slice b m.length cb] w fun r w' => r = .returned (.int .i64 (cmpL l m)) ∧ Ext w w' := by
  have HC := Lib.hid hc
  have HD := Lib.hid hd
  unfold maxLen at hl _hm
  clear hc hd
  obtain ⟨R, hR⟩ : ∃ R, R = cmpL l m := ⟨_, rfl⟩
  have HR : Hid (cmpL (l.drop 0) (m.drop 0) = R) := hR.symm
  rw [← hR]
  clear hR
  go_enter Tryz.func74, Tryz.ntmps74
  go_wp2
  go_loopw [11] (fun i wr => ∃ k : Nat, k ≤ l.length ∧ k ≤ m.length ∧ i = .int .i64 k ∧ Hid (cmpL (l.drop k) (m.drop k) = R) ∧ Ext w wr) (fun i _ => l.length - (intOf i).toNat)
  case atStart => exact ⟨0, Nat.zero_le _, Nat.zero_le _, rfl, HR, Ext.refl _⟩
  case round =>
    clear HR
    obtain ⟨k, hk, hk2, rfl, hz, he⟩ := hrel
    by_cases h1 : k < l.length
    · obtain ⟨ba, oa, rfl, c1⟩ := HC.out k h1
      have c1 := he.cell c1
      by_cases h2 : k < m.length
      · obtain ⟨bb, ob, rfl, c2⟩ := HD.out k h2
        have c2 := he.cell c2
        have HZ := Lib.hid (cmpL_drop l m k h1 h2 _ hz.out)
        clear hz
        generalize l.getD k 0 = x at c1 HZ
        generalize m.getD k 0 = y at c2 HZ
        have hge : decide ((k : Int) ≥ (m.length : Int)) = false := by simp; omega
        obtain ⟨c, hcq⟩ : ∃ c, c = cmpI x y := ⟨_, rfl⟩
        rw [← hcq] at HZ
        have HCQ := Lib.hid hcq
        clear hcq
        by_cases h0 : c = 0
        · have HZ2 := Lib.hid (HZ.out.2 h0)
          clear HZ
          subst h0
          go_wp2_with (go_at_call 95; (with_reducible refine (Compare_any _ _ _).mono ?_); rintro e w' ⟨rfl, rfl⟩; rw [← HCQ.out])
          refine ⟨⟨k + 1, by omega, by omega, by go_num, HZ2, (by repeat (first | with_reducible exact Ext.refl _ | with_reducible assumption | with_reducible apply Ext.drewN | with_reducible apply Ext.drew | with_reducible apply Ext.alloc | ((with_reducible refine Ext.set ?_ ?_ _); rotate_left; first | omega | (simp; omega)) | (with_reducible refine Ext.trans ?_ (by with_reducible assumption))))⟩, by simp [intOf]; omega⟩
        · have HZ2 := Lib.hid (HZ.out.1 h0)
          have hcc : (c != 0) = true := by simpa using h0
          clear HZ
          go_wp2_with (go_at_call 95; (with_reducible refine (Compare_any _ _ _).mono ?_); rintro e w' ⟨rfl, rfl⟩; rw [← HCQ.out])
          go_ret
          exact ⟨ret_int HZ2.out, (by repeat (first | with_reducible exact Ext.refl _ | with_reducible assumption | with_reducible apply Ext.drewN | with_reducible apply Ext.drew | with_reducible apply Ext.alloc | ((with_reducible refine Ext.set ?_ ?_ _); rotate_left; first | omega | (simp; omega)) | (with_reducible refine Ext.trans ?_ (by with_reducible assumption))))⟩
      · have hk3 : k = m.length := by omega
        have hz2 := hz.out
        rw [drop_cons l 0 h1, drop_end m (k := k) (by omega)] at hz2
        have HZ := Lib.hid hz2
        clear hz hz2
        generalize l.getD k 0 = x at c1 HZ
        subst hk3
        go_wp2
        go_ret
        exact ⟨ret_int (by rw [← HZ.out]; rfl), (by repeat (first | with_reducible exact Ext.refl _ | with_reducible assumption | with_reducible apply Ext.drewN | with_reducible apply Ext.drew | with_reducible apply Ext.alloc | ((with_reducible refine Ext.set ?_ ?_ _); rotate_left; first | omega | (simp; omega)) | (with_reducible refine Ext.trans ?_ (by with_reducible assumption))))⟩
    · have hke : k = l.length := by omega
      have hz2 := hz.out
      rw [drop_end l (k := k) (by omega)] at hz2
      have hnk : ¬ k < l.length := h1
      by_cases h2 : l.length < m.length
      · rw [drop_cons m 0 (by omega)] at hz2
        have HZ := Lib.hid hz2
        clear hz hz2
        go_wp2
        go_ret
        exact ⟨ret_int (by rw [← HZ.out]; rfl), (by repeat (first | with_reducible exact Ext.refl _ | with_reducible assumption | with_reducible apply Ext.drewN | with_reducible apply Ext.drew | with_reducible apply Ext.alloc | ((with_reducible refine Ext.set ?_ ?_ _); rotate_left; first | omega | (simp; omega)) | (with_reducible refine Ext.trans ?_ (by with_reducible assumption))))⟩
      · rw [drop_end m (k := k) (by omega)] at hz2
        have HZ := Lib.hid hz2
        clear hz hz2
        go_wp2
        go_ret
        exact ⟨ret_int (by rw [← HZ.out]; rfl), (by repeat (first | with_reducible exact Ext.refl _ | with_reducible assumption | with_reducible apply Ext.drewN | with_reducible apply Ext.drew | with_reducible apply Ext.alloc | ((with_reducible refine Ext.set ?_ ?_ _); rotate_left; first | omega | (simp; omega)) | (with_reducible refine Ext.trans ?_ (by with_reducible assumption))))⟩
end Go.Proofs.YtnhbogmihnnpjaaGreat
/- variant.Standard's comparison of actuators. -/
namespace Go.Proofs.YtnhbogmihnnpjaaGreat
open Go.RowKit

set_option maxHeartbeats 4000000 in
theorem std1_any (n : Value) (l : List Stp) (x y : Int) (a : Option Addr) (cap pb : Nat) (w : World) (hl : l.length ≤ 200) (hc : CellsP w a l) (c0 : w.cell? ⟨pb, 0, none⟩ = some n) (c1 : w.cell? ⟨pb, 1, none⟩ = some (.slice a l.length cap)) (_hn : n.oneCell' = true) :
    Calls Tryz.prog 73 #[.int .i64 x, .int .i64 y, .pointer (some ⟨pb, 0, none⟩)] w fun r w' => r = .returned (.int .i64 (cmpL (movesOf l x) (movesOf l y))) ∧ Ext w w' := by
  have HC := Lib.hid hc
  have HL := Lib.hid hl
  clear hc
  generalize hX : movesOf l x = X at ⊢
  generalize hY : movesOf l y = Y at ⊢
  have HXE := Lib.hid hX
  have HYE := Lib.hid hY
  clear hX hY
  have z0 := cell_lt c0
  have z1 := cell_lt c1
  dsimp only at z0 z1
  go_enter Tryz.func73, Tryz.ntmps73
  go_wp2
  go_region_held3 (fun w' => Sees w w') ((repeat (first | exact Sees.refl _ | assumption | apply Sees.drew | apply Sees.alloc | (refine Sees.ext ?_ (by assumption))))) (first | (go_at_call 74; refine (CompareI_any X Y a1 a2 cc1 cc2 _ hl1.out hi1.out hl2.out hi2.out).mono ?_; rintro e w' ⟨rfl, hE⟩) | (go_at_call 75; have hA0 := hA1; refine (moves_any n l y a cap _ HL.out (HC.out.ext (by exact (show Sees w _ by assumption).2.2))).mono ?_; rintro e w' ⟨v, rfl, hO, hb, hE⟩; rw [HYE.out] at hO; obtain ⟨a2, cc2, rfl, hi, hq⟩ := hO.reads; have hi2 := Lib.hid hi; have hl2 := Lib.hid hq; have hi1 := Lib.hid (hi1.out.ext hE); clear hO hb hi hq) | (go_at_call 75; refine (moves_any n l x a cap _ HL.out (HC.out.ext (by exact (show Sees w _ by assumption).2.2))).mono ?_; rintro e w' ⟨v, rfl, hO, hb, hE⟩; have hA1 := hE; rw [HXE.out] at hO; obtain ⟨a1, cc1, rfl, hi, hq⟩ := hO.reads; have hi1 := Lib.hid hi; have hl1 := Lib.hid hq; clear hO hb hi hq))
  have hSee : Sees w w' := by assumption
  go_wp2
  go_ret
  exact ⟨rfl, hSee.2.2⟩
end Go.Proofs.YtnhbogmihnnpjaaGreat
/- slices.insertionSortCmpFunc at ints, with a comparison of its own. -/
namespace Go.Proofs.YtnhbogmihnnpjaaGreat
open Go.RowKit

/-- insertion of x from the right into a list that is given from the right -/
def insI (c : Int → Int → Int) (x : Int) : List Int → List Int
  | [] => [x]
  | y :: r => if c x y < 0 then y :: insI c x r else x :: y :: r
/-- the list after the first k of l have been sorted -/
def sortI (c : Int → Int → Int) : List Int → List Int
  | [] => []
  | x :: r => insI c x (sortI c r)
/-- the list behind an insertion sort -/
def isortI (c : Int → Int → Int) (l : List Int) : List Int := (sortI c l.reverse).reverse
theorem insI_length (c : Int → Int → Int) (x : Int) (r : List Int) : (insI c x r).length = r.length + 1 := by
  induction r with
  | nil => rfl
  | cons y r ih => unfold insI; split <;> simp [ih]
theorem sortI_length (c : Int → Int → Int) (r : List Int) : (sortI c r).length = r.length := by
  induction r with
  | nil => rfl
  | cons x r ih => unfold sortI; rw [insI_length, ih]; rfl
/-- the list when the first i of l are sorted -/
def sortedI (c : Int → Int → Int) (l : List Int) (i : Nat) : List Int := (sortI c (l.take i).reverse).reverse ++ l.drop i
theorem sortedI_length (c : Int → Int → Int) (l : List Int) (i : Nat) : (sortedI c l i).length = l.length := by
  unfold sortedI
  rw [List.length_append, List.length_reverse, sortI_length, List.length_reverse, List.length_take, List.length_drop]; omega
theorem sortedI_end (c : Int → Int → Int) (l : List Int) : sortedI c l l.length = isortI c l := by unfold sortedI isortI; rw [List.take_length, List.drop_length, List.append_nil]
theorem sortedI_one (c : Int → Int → Int) (l : List Int) : sortedI c l 1 = l := by
  cases l with
  | nil => rfl
  | cons x l => simp [sortedI, sortI, insI]
theorem sortedI_succ (c : Int → Int → Int) (l : List Int) {i : Nat} (h : i < l.length) : sortedI c l (i + 1) = (insI c (l.getD i 0) (sortI c (l.take i).reverse)).reverse ++ l.drop (i + 1) := by
  unfold sortedI
  rw [List.take_succ_eq_append_getElem h, List.reverse_append, List.getD_eq_getElem?_getD, List.getElem?_eq_getElem h]
  rfl
/-- while x goes to the left: P stands ahead of it, M behind it -/
structure InI (c : Int → Int → Int) (x : Int) (S R d : List Int) (j : Nat) : Prop where
  ex : ∃ P M, d = P ++ x :: M ++ S ∧ P.length = j ∧ (insI c x P.reverse).reverse ++ M = R
theorem InI.start (c : Int → Int → Int) (l : List Int) {i : Nat} (h : i < l.length) : InI c (l.getD i 0) (l.drop (i + 1)) (insI c (l.getD i 0) (sortI c (l.take i).reverse)).reverse (sortedI c l i) i :=
  ⟨(sortI c (l.take i).reverse).reverse, [], by unfold sortedI; rw [drop_cons l 0 h]; simp, by rw [List.length_reverse, sortI_length, List.length_reverse, List.length_take]; omega, by rw [List.reverse_reverse, List.append_nil]⟩
theorem InI.at {c : Int → Int → Int} {x : Int} {S R d : List Int} {j : Nat} (h : InI c x S R d j) : d.getD j 0 = x := by
  obtain ⟨P, M, rfl, rfl, _⟩ := h.ex
  rw [List.append_assoc, List.getD_eq_getElem?_getD, List.getElem?_append_right (Nat.le_refl _), Nat.sub_self]; rfl
theorem InI.zero {c : Int → Int → Int} {x : Int} {S R d : List Int} (h : InI c x S R d 0) : d = R ++ S := by
  obtain ⟨P, M, rfl, hp, hr⟩ := h.ex
  have : P = [] := List.eq_nil_of_length_eq_zero hp
  subst this
  rw [← hr]; rfl
theorem InI.stop {c : Int → Int → Int} {x : Int} {S R d : List Int} {j : Nat} (h : InI c x S R d (j + 1)) (hn : ¬ c x (d.getD j 0) < 0) : d = R ++ S := by
  obtain ⟨P, M, rfl, hp, hr⟩ := h.ex
  obtain ⟨P', y, rfl⟩ : ∃ P' y, P = P' ++ [y] := by
    rcases List.eq_nil_or_concat P with rfl | ⟨P', y, rfl⟩
    · simp at hp
    · exact ⟨P', y, by simp⟩
  have hj : P'.length = j := by simp at hp; exact hp
  have hy : ((P' ++ [y]) ++ x :: M ++ S).getD j 0 = y := by
    rw [List.getD_eq_getElem?_getD, List.append_assoc, List.append_assoc, List.getElem?_append_right (by omega), hj, Nat.sub_self]; rfl
  rw [hy] at hn
  rw [List.reverse_append] at hr
  have e : insI c x ([y].reverse ++ P'.reverse) = x :: y :: P'.reverse := by show insI c x (y :: P'.reverse) = _; unfold insI; rw [if_neg hn]
  rw [e] at hr
  rw [← hr]
  simp
theorem InI.swap {c : Int → Int → Int} {x : Int} {S R d : List Int} {j : Nat} (h : InI c x S R d (j + 1)) (hn : c x (d.getD j 0) < 0) : InI c x S R ((d.set (j + 1) (d.getD j 0)).set j x) j := by
  obtain ⟨P, M, rfl, hp, hr⟩ := h.ex
  obtain ⟨P', y, rfl⟩ : ∃ P' y, P = P' ++ [y] := by
    rcases List.eq_nil_or_concat P with rfl | ⟨P', y, rfl⟩
    · simp at hp
    · exact ⟨P', y, by simp⟩
  have hj : P'.length = j := by simp at hp; exact hp
  have hy : ((P' ++ [y]) ++ x :: M ++ S).getD j 0 = y := by
    rw [List.getD_eq_getElem?_getD, List.append_assoc, List.append_assoc, List.getElem?_append_right (by omega), hj, Nat.sub_self]; rfl
  rw [hy] at hn ⊢
  rw [List.reverse_append] at hr
  have e : insI c x ([y].reverse ++ P'.reverse) = y :: insI c x P'.reverse := by show insI c x (y :: P'.reverse) = _; rw [insI, if_pos hn]
  rw [e] at hr
  refine ⟨P', y :: M, ?_, hj, ?_⟩
  · have e1 : (P' ++ [y]) ++ x :: M ++ S = P' ++ (y :: x :: (M ++ S)) := by simp
    rw [e1, List.set_append, if_neg (by omega), List.set_append, if_neg (by simp; omega)]
    have e2 : j + 1 - P'.length = 1 := by omega
    have e3 : j - P'.length = 0 := by omega
    rw [e2, e3]
    simp
  · rw [← hr]; simp
theorem InI.len {c : Int → Int → Int} {x : Int} {S R d : List Int} {j : Nat} (h : InI c x S R d j) : j < d.length := by
  obtain ⟨P, M, rfl, rfl, _⟩ := h.ex
  simp

/-- ints in a block of one's own -/
def IntsAt (w : World) (b : Nat) (d : List Int) : Prop := ∀ i, i < d.length → w.cell? ⟨b, i, none⟩ = some (.int .i64 (d.getD i 0)) ∧ w.frozen? ⟨b, i, none⟩ = false
theorem IntsAt.ext {A B : World} {b : Nat} {d : List Int} (h : IntsAt A b d) (k : Ext A B) : IntsAt B b d := fun i hi => by
  obtain ⟨h1, h3⟩ := h i hi
  exact ⟨k.cell h1, (Below.frozen (p := ⟨b, _, none⟩) k (cell_lt h1)).trans h3⟩
theorem IntsAt.set {w : World} {b : Nat} {d : List Int} (h : IntsAt w b d) {i : Nat} (hi : i < d.length) (x : Int) : IntsAt (w.setCell ⟨b, i, none⟩ (.int .i64 x)) b (d.set i x) := fun j hj => by
  rw [List.length_set] at hj
  obtain ⟨h1, h3⟩ := h j hj
  obtain ⟨k1, _⟩ := h i hi
  refine ⟨?_, by rw [World.frozen?_setCell]; exact h3⟩
  by_cases e : i = j
  · subst e
    rw [World.cell?_setCell_same _ _ _ k1]
    simp [List.getD_eq_getElem?_getD, hi]
  · rw [World.cell?_setCell_other _ _ _ _ (fun h => by simp only [Addr.mk.injEq] at h; omega), h1]
    simp [List.getD_eq_getElem?_getD, e]
/-- the memory while a slice of ints is sorted -/
structure SiSt (b : Nat) (w wr : World) (d : List Int) : Prop where
  at_ : IntsAt wr b d
  own : Own1 b w wr
theorem SiSt.ext {b : Nat} {w A B : World} {d : List Int} (h : SiSt b w A d) (k : Ext A B) (hb : b < A.heap.size) : SiSt b w B d := ⟨h.at_.ext k, h.own.trans (Own1.ext k (Nat.le_of_lt hb))⟩

set_option maxHeartbeats 8000000 in
set_option maxRecDepth 100000 in
theorem insertionI_any (c : Int → Int → Int) (l : List Int) (b cap pb : Nat) (w : World) (hl : l.length ≤ 12) (h : IntsAt w b l) (hb : b < w.heap.size)
    (hcf : ∀ (x y : Int) (A : World), Own1 b w A → Calls Tryz.prog 73 #[.int .i64 x, .int .i64 y, .pointer (some ⟨pb, 0, none⟩)] A fun e w' => e = .returned (.int .i64 (c x y)) ∧ Ext A w') :
    Calls Tryz.prog 120 #[.slice (some ⟨b, 0, none⟩) l.length cap, .int .i64 0, .int .i64 (l.length : Int), .func (.func 73) #[] #[.pointer (some ⟨pb, 0, none⟩)]] w fun e w' => e = .returned (.tuple #[]) ∧ SiSt b w w' (isortI c l) := by
  have M0 : Hid (SiSt b w w (sortedI c l 1)) := ⟨by rw [sortedI_one]; exact h, Own1.ext (Ext.refl _) (Nat.le_of_lt hb)⟩
  have HCF := Lib.hid hcf
  clear h hcf
  go_enter Tryz.func120, Tryz.ntmps120
  go_wp2
  go_loopw [8] (fun i wr => ∃ k : Nat, 1 ≤ k ∧ (k ≤ l.length ∨ k = 1) ∧ i = .int .i64 k ∧ Hid (SiSt b w wr (sortedI c l k))) (fun i _ => l.length + 1 - (intOf i).toNat)
  case atStart => exact ⟨1, by omega, .inr rfl, rfl, M0⟩
  case round =>
    obtain ⟨k, hk1, hk, rfl, M⟩ := hrel
    clear M0
    by_cases hlt : k < l.length
    · have hs := InI.start c l hlt
      have HSU := Lib.hid (sortedI_succ c l hlt)
      have hdl := sortedI_length c l k
      generalize (insI c (l.getD k 0) (sortI c (l.take k).reverse)).reverse = R at hs HSU
      generalize l.getD k 0 = x at hs HSU
      generalize l.drop (k + 1) = S at hs HSU
      obtain ⟨d, hd⟩ : ∃ d, d = sortedI c l k := ⟨_, rfl⟩
      rw [← hd] at hs M hdl
      have HIN := Lib.hid hs
      clear hd hs
      go_wp2
      obtain ⟨wo, rfl⟩ : ∃ wo : World, wo = wr := ⟨_, rfl⟩
      go_loopw [9] (fun i wr => ∃ j : Nat, j ≤ k ∧ i = .int .i64 j ∧ ∃ d : List Int, d.length = l.length ∧ Hid (InI c x S R d j) ∧ Hid (SiSt b w wr d)) (fun i _ => (intOf i).toNat)
      case atStart => exact ⟨k, Nat.le_refl _, rfl, d, hdl, HIN, M⟩
      case round =>
        clear M HIN
        obtain ⟨j, hj, rfl, d', hdl', HIN, M⟩ := hrel
        have zb : b < wr.heap.size := Nat.lt_of_lt_of_le hb M.out.own.1.size
        by_cases hj0 : j = 0
        · subst hj0
          have ME : Hid (SiSt b w wr (sortedI c l (k + 1))) := by
            show SiSt _ _ _ _
            rw [HSU.out, ← HIN.out.zero]; exact M.out
          go_wp2
          go_quiet (fail)
          go_wp2
          refine ⟨⟨k + 1, by omega, .inl (by omega), by go_num, ME.out.ext (by repeat (first | with_reducible exact Ext.refl _ | with_reducible assumption | with_reducible apply Ext.drewN | with_reducible apply Ext.drew | with_reducible apply Ext.alloc | ((with_reducible refine Ext.set ?_ ?_ _); rotate_left; first | omega | (simp; omega)) | (with_reducible refine Ext.trans ?_ (by with_reducible assumption)))) zb⟩, by simp [intOf]; omega⟩
        · obtain ⟨q, rfl⟩ : ∃ q, j = q + 1 := ⟨j - 1, by omega⟩
          clear hj0
          have hjl := HIN.out.len
          obtain ⟨e1, e3⟩ := M.out.at_ (q + 1) (by omega)
          obtain ⟨f1, f3⟩ := M.out.at_ q (by omega)
          rw [HIN.out.at] at e1
          have HST := Lib.hid (fun hn => HIN.out.stop hn)
          have HSW := Lib.hid (fun hn => HIN.out.swap hn)
          generalize d'.getD q 0 = y at f1 HST HSW
          have HCXY := Lib.hid (HCF.out x y)
          have hq2 : ((q : Int) + 1 - 1).toNat = q := by omega
          have hq3 : ((q + 1 : Nat) : Int) - 1 = (q : Int) := by omega
          have hq4 : IntKind.i64.wrap (((q + 1 : Nat) : Int) - 1) = (q : Int) := by rw [hq3]; exact IntWalk.i64_in _ (by omega)
          have hq5 : decide (((q + 1 : Nat) : Int) > 0) = true := by simp
          have hgt : (0 : Int) < ((q + 1 : Nat) : Int) := by omega
          have hq6 : (0 : Int) ≤ (q : Int) := by omega
          have hq7 : (q : Int) < (l.length : Int) := by omega
          have hq8 : (q : Int) + 1 < (l.length : Int) := by omega
          have hq9 : q < l.length := by omega
          have hq11 : (0 : Int) ≤ (q : Int) + 1 := by omega
          have hq10 : q + 1 < l.length := by omega
          by_cases hlt2 : c x y < 0
          · have HSW2 := Lib.hid (HSW.out hlt2)
            clear HST HSW
            generalize c x y = z at hlt2 HCXY
            go_wp2
            have hwq : IntKind.i64.wrap (q : Int) = (q : Int) := IntWalk.i64_in _ (by omega)
            go_region_held3 (fun w' => Sees wr w') ((repeat (first | exact Sees.refl _ | assumption | apply Sees.drew | apply Sees.alloc | (refine Sees.ext ?_ (by assumption))))) (first | (go_at_call 73; refine (HCXY.out _ (M.out.own.trans (Own1.ext (by exact (show Sees wr _ by assumption).2.2) (Nat.le_of_lt zb)))).mono ?_; rintro e w' ⟨rfl, hE⟩))
            have hSee : Sees wr w' := by assumption
            have M2 : Hid (SiSt b w w' d') := M.out.ext hSee.2.2 zb
            have zb2 : b < w'.heap.size := Nat.lt_of_lt_of_le zb hSee.2.2.size
            clear M
            go_wp2
            refine wp_region_heldE 15 (fun w'' => w''.cell? ⟨b, q + 1, none⟩ = some (.int .i64 x) ∧ w''.cell? ⟨b, q, none⟩ = some (.int .i64 y)) (by kernel_rfl) ?_
            have ED : Ext w' w'.drew := (by repeat (first | with_reducible exact Ext.refl _ | with_reducible assumption | with_reducible apply Ext.drewN | with_reducible apply Ext.drew | with_reducible apply Ext.alloc | ((with_reducible refine Ext.set ?_ ?_ _); rotate_left; first | omega | (simp; omega)) | (with_reducible refine Ext.trans ?_ (by with_reducible assumption))))
            have EA := hSee.2.2.trans ED
            have e3 := (Below.frozen (p := ⟨b, q + 1, none⟩) EA (cell_lt e1)).trans e3
            have f3 := (Below.frozen (p := ⟨b, q, none⟩) EA (cell_lt f1)).trans f3
            have e1 := EA.cell e1
            have f1 := EA.cell f1
            have M3 : Hid (SiSt b w w'.drew d') := M2.out.ext ED zb2
            clear M2
            have hS : w'.drew.cell? ⟨b, q + 1, none⟩ = some (.int .i64 x) ∧ w'.drew.cell? ⟨b, q, none⟩ = some (.int .i64 y) := ⟨e1, f1⟩
            generalize w'.drew = W at M3 e1 e3 f1 f3 hS ⊢
            ((refine wpAnyE_take (i := 0) (oi := ?_) (v := ?_) ?_ (by kernel_rfl) ?_ ?_ (by assumption) ?_; rotate_left 2; (focus ((simp only [List.getElem?_toArray, List.getElem?_cons_zero]; exact rfl))); (focus (exact fun _ _ _ h => h)); (focus (refine Or.inl ⟨by rfl, ?_⟩; intro w hSw; (try dsimp only at hSw); (first | (go_simp; done) | (go_simp; with_reducible rfl)))); (try simp only [Act.put, List.setIfInBounds_toArray, List.set_cons_zero, List.set_cons_succ])); (refine wpAnyE_take (i := 1) (oi := ?_) (v := ?_) ?_ (by kernel_rfl) ?_ ?_ (by assumption) ?_; rotate_left 2; (focus ((simp only [List.getElem?_toArray, List.getElem?_cons_succ, List.getElem?_cons_zero]; exact rfl))); (focus (exact fun _ _ _ h => h)); (focus (refine Or.inl ⟨by rfl, ?_⟩; intro w hSw; (try dsimp only at hSw); (first | (go_simp; done) | (go_simp; with_reducible rfl)))); (try simp only [Act.put, List.setIfInBounds_toArray, List.set_cons_zero, List.set_cons_succ])); (refine wpAnyE_take (i := 5) (oi := ?_) (v := ?_) ?_ (by kernel_rfl) ?_ ?_ (by assumption) ?_; rotate_left 2; (focus ((simp only [List.getElem?_toArray, List.getElem?_cons_succ, List.getElem?_cons_zero]; exact rfl))); (focus (exact fun _ _ _ h => h)); (focus (refine Or.inl ⟨by rfl, ?_⟩; intro w hSw; (try dsimp only at hSw); (first | (go_simp; done) | (go_simp; with_reducible rfl)))); (try simp only [Act.put, List.setIfInBounds_toArray, List.set_cons_zero, List.set_cons_succ])); (refine wpAnyE_take (i := 6) (oi := ?_) (v := ?_) ?_ (by kernel_rfl) ?_ ?_ (by assumption) ?_; rotate_left 2; (focus ((simp only [List.getElem?_toArray, List.getElem?_cons_succ, List.getElem?_cons_zero]; exact rfl))); (focus (exact fun _ _ _ h => h)); (focus (refine Or.inl ⟨by rfl, ?_⟩; intro w hSw; (try dsimp only at hSw); (first | (go_simp; done) | (go_simp; with_reducible rfl)))); (try simp only [Act.put, List.setIfInBounds_toArray, List.set_cons_zero, List.set_cons_succ])); (refine wpAnyE_take (i := 7) (oi := ?_) (v := ?_) ?_ (by kernel_rfl) ?_ ?_ (by assumption) ?_; rotate_left 2; (focus ((simp only [List.getElem?_toArray, List.getElem?_cons_succ, List.getElem?_cons_zero]; exact rfl))); (focus (exact fun _ _ _ h => h)); (focus (refine Or.inl ⟨by rfl, ?_⟩; intro w hSw; (try dsimp only at hSw); (first | (go_simp; done) | (go_simp; with_reducible rfl)))); (try simp only [Act.put, List.setIfInBounds_toArray, List.set_cons_zero, List.set_cons_succ])); (refine wpAnyE_take (i := 8) (oi := ?_) (v := ?_) ?_ (by kernel_rfl) ?_ ?_ (by assumption) ?_; rotate_left 2; (focus ((simp only [List.getElem?_toArray, List.getElem?_cons_succ, List.getElem?_cons_zero]; exact rfl))); (focus (exact fun _ _ _ h => h)); (focus (refine Or.inl ⟨by rfl, ?_⟩; intro w hSw; (try dsimp only at hSw); (first | (go_simp; done) | (go_simp; with_reducible rfl)))); (try simp only [Act.put, List.setIfInBounds_toArray, List.set_cons_zero, List.set_cons_succ])); (refine wpAnyE_take (i := 9) (oi := ?_) (v := ?_) ?_ (by kernel_rfl) ?_ ?_ (by assumption) ?_; rotate_left 2; (focus ((simp only [List.getElem?_toArray, List.getElem?_cons_succ, List.getElem?_cons_zero]; exact rfl))); (focus (exact fun _ _ _ h => h)); (focus (refine Or.inl ⟨by rfl, ?_⟩; intro w hSw; (try dsimp only at hSw); (first | (go_simp; done) | (go_simp; with_reducible rfl)))); (try simp only [Act.put, List.setIfInBounds_toArray, List.set_cons_zero, List.set_cons_succ])))
            ((refine wpAnyE_pure (i := 2) (oi := ?_) (v := ?_) ?_ (by kernel_rfl) ?_ ?_ ?_ ?_; rotate_left 2; (focus ((simp only [List.getElem?_toArray, List.getElem?_cons_succ, List.getElem?_cons_zero]; exact rfl))); (focus (exact fun _ _ _ h => h)); (focus (refine Or.inl ⟨by rfl, ?_⟩; intro w hSw; clear hSw; (first | (go_simp; done) | (go_simp; with_reducible rfl)))); (focus (first | exact (fun _ => by assumption) | (intro hlst; exact absurd hlst (by kernel_rfl)) | (intro hlst; cases hlst))); (try simp only [Act.put, List.setIfInBounds_toArray, List.set_cons_zero, List.set_cons_succ])); (refine wpAnyE_pure (i := 3) (oi := ?_) (v := ?_) ?_ (by kernel_rfl) ?_ ?_ ?_ ?_; rotate_left 2; (focus ((simp only [List.getElem?_toArray, List.getElem?_cons_succ, List.getElem?_cons_zero]; exact rfl))); (focus (exact fun _ _ _ h => h)); (focus (refine Or.inl ⟨by rfl, ?_⟩; intro w hSw; clear hSw; (first | (go_simp; done) | (go_simp; with_reducible rfl)))); (focus (first | exact (fun _ => by assumption) | (intro hlst; exact absurd hlst (by kernel_rfl)) | (intro hlst; cases hlst))); (try simp only [Act.put, List.setIfInBounds_toArray, List.set_cons_zero, List.set_cons_succ])); (refine wpAnyE_pure (i := 4) (oi := ?_) (v := ?_) ?_ (by kernel_rfl) ?_ ?_ ?_ ?_; rotate_left 2; (focus ((simp only [List.getElem?_toArray, List.getElem?_cons_succ, List.getElem?_cons_zero]; exact rfl))); (focus (exact fun _ _ _ h => h)); (focus (refine Or.inl ⟨by rfl, ?_⟩; intro w hSw; clear hSw; (first | (go_simp; done) | (go_simp; with_reducible rfl)))); (focus (first | exact (fun _ => by assumption) | (intro hlst; exact absurd hlst (by kernel_rfl)) | (intro hlst; cases hlst))); (try simp only [Act.put, List.setIfInBounds_toArray, List.set_cons_zero, List.set_cons_succ])); (refine wpAnyE_pure (i := 10) (oi := ?_) (v := ?_) ?_ (by kernel_rfl) ?_ ?_ ?_ ?_; rotate_left 2; (focus ((simp only [List.getElem?_toArray, List.getElem?_cons_succ, List.getElem?_cons_zero]; exact rfl))); (focus (exact fun _ _ _ h => h)); (focus (refine Or.inl ⟨by rfl, ?_⟩; intro w hSw; clear hSw; (first | (go_simp; done) | (go_simp; with_reducible rfl)))); (focus (first | exact (fun _ => by assumption) | (intro hlst; exact absurd hlst (by kernel_rfl)) | (intro hlst; cases hlst))); (try simp only [Act.put, List.setIfInBounds_toArray, List.set_cons_zero, List.set_cons_succ])); (refine wpAnyE_pure (i := 11) (oi := ?_) (v := ?_) ?_ (by kernel_rfl) ?_ ?_ ?_ ?_; rotate_left 2; (focus ((simp only [List.getElem?_toArray, List.getElem?_cons_succ, List.getElem?_cons_zero]; exact rfl))); (focus (exact fun _ _ _ h => h)); (focus (refine Or.inl ⟨by rfl, ?_⟩; intro w hSw; clear hSw; (first | (go_simp; done) | (go_simp; with_reducible rfl)))); (focus (first | exact (fun _ => by assumption) | (intro hlst; exact absurd hlst (by kernel_rfl)) | (intro hlst; cases hlst))); (try simp only [Act.put, List.setIfInBounds_toArray, List.set_cons_zero, List.set_cons_succ])); (refine wpAnyE_pure (i := 12) (oi := ?_) (v := ?_) ?_ (by kernel_rfl) ?_ ?_ ?_ ?_; rotate_left 2; (focus ((simp only [List.getElem?_toArray, List.getElem?_cons_succ, List.getElem?_cons_zero]; exact rfl))); (focus (exact fun _ _ _ h => h)); (focus (refine Or.inl ⟨by rfl, ?_⟩; intro w hSw; clear hSw; (first | (go_simp; done) | (go_simp; with_reducible rfl)))); (focus (first | exact (fun _ => by assumption) | (intro hlst; exact absurd hlst (by kernel_rfl)) | (intro hlst; cases hlst))); (try simp only [Act.put, List.setIfInBounds_toArray, List.set_cons_zero, List.set_cons_succ])))
            (refine wpAnyE_take (i := 13) (oi := ?_) (v := ?_) ?_ (by kernel_rfl) ?_ ?_ (by assumption) ?_; rotate_left 2; (focus ((simp only [List.getElem?_toArray, List.getElem?_cons_succ, List.getElem?_cons_zero]; exact rfl))); (focus (exact fun _ _ _ h => h)); (focus (refine Or.inl ⟨by rfl, ?_⟩; intro w hSw; (try dsimp only at hSw); (first | (go_simp; done) | (go_simp; with_reducible rfl)))); (try simp only [Act.put, List.setIfInBounds_toArray, List.set_cons_zero, List.set_cons_succ]))
            (refine wpAnyE_pure (i := 14) (oi := ?_) (v := ?_) ?_ (by kernel_rfl) ?_ ?_ ?_ ?_; rotate_left 2; (focus ((simp only [List.getElem?_toArray, List.getElem?_cons_succ, List.getElem?_cons_zero]; exact rfl))); (focus (exact fun _ _ _ h => h)); (focus (refine Or.inl ⟨by rfl, ?_⟩; intro w hSw; clear hSw; (first | (go_simp; done) | (go_simp; with_reducible rfl)))); (focus (first | exact (fun _ => by assumption) | (intro hlst; exact absurd hlst (by kernel_rfl)) | (intro hlst; cases hlst))); (try simp only [Act.put, List.setIfInBounds_toArray, List.set_cons_zero, List.set_cons_succ]))
            (refine wpAnyE_free (i := 15) (o := ?_) ?_ (by kernel_rfl) (by kernel_rfl) (fun K hK => ?_); rotate_left; (focus ((simp only [List.getElem?_toArray, List.getElem?_cons_succ, List.getElem?_cons_zero]; exact rfl))); go_simp; refine hK.out _ _ ?_; clear hK K; (try simp only [Act.put, List.setIfInBounds_toArray, List.set_cons_zero, List.set_cons_succ]))
            (refine wpAnyE_pure (i := 16) (oi := ?_) (v := ?_) ?_ (by kernel_rfl) ?_ ?_ ?_ ?_; rotate_left 2; (focus ((simp only [List.getElem?_toArray, List.getElem?_cons_succ, List.getElem?_cons_zero]; exact rfl))); (focus (exact fun _ _ _ h => h)); (focus (refine Or.inl ⟨by rfl, ?_⟩; intro w hSw; clear hSw; (first | (go_simp; done) | (go_simp; with_reducible rfl)))); (focus (first | exact (fun _ => by assumption) | (intro hlst; exact absurd hlst (by kernel_rfl)) | (intro hlst; cases hlst))); (try simp only [Act.put, List.setIfInBounds_toArray, List.set_cons_zero, List.set_cons_succ]))
            (refine wpAnyE_free (i := 17) (o := ?_) ?_ (by kernel_rfl) (by kernel_rfl) (fun K hK => ?_); rotate_left; (focus ((simp only [List.getElem?_toArray, List.getElem?_cons_succ, List.getElem?_cons_zero]; exact rfl))); go_simp; refine hK.out _ _ ?_; clear hK K; (try simp only [Act.put, List.setIfInBounds_toArray, List.set_cons_zero, List.set_cons_succ]))
            refine wpAnyE_done (by kernel_rfl) ?_ _
            have hsoA : IntsAt (W.setCell ⟨b, q + 1, none⟩ (.int .i64 y)) b (d'.set (q + 1) y) := M3.out.at_.set hjl y
            have hsoB : IntsAt ((W.setCell ⟨b, q + 1, none⟩ (.int .i64 y)).setCell ⟨b, q, none⟩ (.int .i64 x)) b ((d'.set (q + 1) y).set q x) := hsoA.set (by rw [List.length_set]; omega) x
            have hoB : Own1 b w ((W.setCell ⟨b, q + 1, none⟩ (.int .i64 y)).setCell ⟨b, q, none⟩ (.int .i64 x)) := (M3.out.own.trans (Own1.setCell _ _)).trans (Own1.setCell _ _)
            have M4 : Hid (SiSt b w ((W.setCell ⟨b, q + 1, none⟩ (.int .i64 y)).setCell ⟨b, q, none⟩ (.int .i64 x)) ((d'.set (q + 1) y).set q x)) := ⟨hsoB, hoB⟩
            have hb4 : b < ((W.setCell ⟨b, q + 1, none⟩ (.int .i64 y)).setCell ⟨b, q, none⟩ (.int .i64 x)).heap.size := Nat.lt_of_lt_of_le hb hoB.1.size
            have hl4 : ((d'.set (q + 1) y).set q x).length = l.length := by rw [List.length_set, List.length_set]; exact hdl'
            clear hsoA hsoB hoB e1 e3 f1 f3 hS M3
            generalize ((W.setCell ⟨b, q + 1, none⟩ (.int .i64 y)).setCell ⟨b, q, none⟩ (.int .i64 x)) = W5 at M4 hb4 ⊢
            generalize (d'.set (q + 1) y).set q x = d5 at M4 HSW2 hl4
            go_wp2
            refine ⟨⟨q, by omega, by go_num, d5, hl4, HSW2, M4.out.ext (by repeat (first | with_reducible exact Ext.refl _ | with_reducible assumption | with_reducible apply Ext.drewN | with_reducible apply Ext.drew | with_reducible apply Ext.alloc | ((with_reducible refine Ext.set ?_ ?_ _); rotate_left; first | omega | (simp; omega)) | (with_reducible refine Ext.trans ?_ (by with_reducible assumption)))) hb4⟩, by simp [intOf]⟩
          · have hd5 := HST.out hlt2
            have ME : Hid (SiSt b w wr (sortedI c l (k + 1))) := by
              show SiSt _ _ _ _
              rw [HSU.out, ← hd5]; exact M.out
            clear hd5 HST HSW
            generalize c x y = z at hlt2 HCXY
            go_wp2
            have hwq : IntKind.i64.wrap (q : Int) = (q : Int) := IntWalk.i64_in _ (by omega)
            go_region_held3 (fun w' => Sees wr w') ((repeat (first | exact Sees.refl _ | assumption | apply Sees.drew | apply Sees.alloc | (refine Sees.ext ?_ (by assumption))))) (first | (go_at_call 73; refine (HCXY.out _ (M.out.own.trans (Own1.ext (by exact (show Sees wr _ by assumption).2.2) (Nat.le_of_lt zb)))).mono ?_; rintro e w' ⟨rfl, hE⟩))
            have hSee : Sees wr w' := by assumption
            have M2 : Hid (SiSt b w w' (sortedI c l (k + 1))) := ME.out.ext hSee.2.2 zb
            have zb2 : b < w'.heap.size := Nat.lt_of_lt_of_le zb hSee.2.2.size
            clear M ME hSee
            go_wp2
            refine ⟨⟨k + 1, by omega, .inl (by omega), by go_num, M2.out.ext (by repeat (first | with_reducible exact Ext.refl _ | with_reducible assumption | with_reducible apply Ext.drewN | with_reducible apply Ext.drew | with_reducible apply Ext.alloc | ((with_reducible refine Ext.set ?_ ?_ _); rotate_left; first | omega | (simp; omega)) | (with_reducible refine Ext.trans ?_ (by with_reducible assumption)))) zb2⟩, by simp [intOf]; omega⟩
    · have ME : Hid (SiSt b w wr (isortI c l)) := by
        show SiSt _ _ _ _
        rcases hk with hk | hk
        · have : k = l.length := by omega
          subst this
          rw [← sortedI_end]; exact M.out
        · subst hk
          have h0 : l.length ≤ 1 := by omega
          have : isortI c l = sortedI c l 1 := by
            rw [sortedI_one]
            match l, h0 with
            | [], _ => rfl
            | [y], _ => rfl
          rw [this]; exact M.out
      clear M
      go_wp2
      exact bodyPost_end (v := .tuple #[]) (results_none rfl _ _ _) rfl ⟨rfl, ME.out⟩
end Go.Proofs.YtnhbogmihnnpjaaGreat
/- slices.SortStableFunc of few ints is the insertion sort. -/
namespace Go.Proofs.YtnhbogmihnnpjaaGreat
open Go.RowKit

set_option maxHeartbeats 4000000 in
set_option maxRecDepth 100000 in
theorem stable_any (c : Int → Int → Int) (l : List Int) (b cap pb : Nat) (w : World) (hl : l.length ≤ 12) (h : IntsAt w b l) (hb : b < w.heap.size)
    (hcf : ∀ (x y : Int) (A : World), Own1 b w A → Calls Tryz.prog 73 #[.int .i64 x, .int .i64 y, .pointer (some ⟨pb, 0, none⟩)] A fun e w' => e = .returned (.int .i64 (c x y)) ∧ Ext A w') :
    Calls Tryz.prog 105 #[.slice (some ⟨b, 0, none⟩) l.length cap, .int .i64 (l.length : Int), .func (.func 73) #[] #[.pointer (some ⟨pb, 0, none⟩)]] w fun e w' => e = .returned (.tuple #[]) ∧ SiSt b w w' (isortI c l) := by
  have HS := Lib.hid h
  have HCF := Lib.hid hcf
  clear h hcf
  go_enter Tryz.func105, Tryz.ntmps105
  go_wp2
  go_loopw [7, 8] (fun i j wr => i = .int .i64 0 ∧ j = .int .i64 20 ∧ wr = w) (fun _ _ _ => 0)
  case atStart => exact ⟨rfl, rfl, rfl⟩
  case round =>
    obtain ⟨rfl, rfl, rfl⟩ := hrel
    have hle : ¬ ((20 : Int) ≤ (l.length : Int)) := by omega
    go_wp2_with (go_at_call 120; refine (insertionI_any c l b cap pb _ hl HS.out hb HCF.out).mono ?_; rintro e w' ⟨rfl, hso⟩; have HSO := Lib.hid hso; clear hso)
    go_loopw [6] (fun i wx => i = .int .i64 20 ∧ wx = w') (fun _ _ => 0)
    case atStart => exact ⟨rfl, rfl⟩
    case round =>
      obtain ⟨rfl, rfl⟩ := hrel
      have hlt : ¬ ((20 : Int) < (l.length : Int)) := by omega
      go_wp2
      exact bodyPost_end (v := .tuple #[]) (results_none rfl _ _ _) rfl ⟨rfl, HSO.out⟩
theorem SortStable_any (c : Int → Int → Int) (l : List Int) (b cap pb : Nat) (w : World) (hl : l.length ≤ 12) (h : IntsAt w b l) (hb : b < w.heap.size)
    (hcf : ∀ (x y : Int) (A : World), Own1 b w A → Calls Tryz.prog 73 #[.int .i64 x, .int .i64 y, .pointer (some ⟨pb, 0, none⟩)] A fun e w' => e = .returned (.int .i64 (c x y)) ∧ Ext A w') :
    Calls Tryz.prog 72 #[.slice (some ⟨b, 0, none⟩) l.length cap, .func (.func 73) #[] #[.pointer (some ⟨pb, 0, none⟩)]] w fun e w' => e = .returned (.tuple #[]) ∧ SiSt b w w' (isortI c l) := by
  have HS := Lib.hid h
  have HCF := Lib.hid hcf
  clear h hcf
  go_enter Tryz.func72, Tryz.ntmps72
  go_wp2_with (go_at_call 105; refine (stable_any c l b cap pb _ hl HS.out hb HCF.out).mono ?_; rintro e w' ⟨rfl, hso⟩; have HSO := Lib.hid hso; clear hso)
  exact bodyPost_end (v := .tuple #[]) (results_none rfl _ _ _) rfl ⟨rfl, HSO.out⟩
end Go.Proofs.YtnhbogmihnnpjaaGreat
/- Standard letters, in plain terms: the place in the sorted order is the number of the actuators ahead. -/
namespace Go.Proofs.YtnhbogmihnnpjaaGreat
open Go.RowKit

theorem lexLt_irrefl (l : List Int) : lexLt l l = false := by
  induction l with
  | nil => rfl
  | cons a l ih => unfold lexLt; simpa using ih
theorem lexLt_trans {l m n : List Int} (h : lexLt l m = true) (k : lexLt m n = true) : lexLt l n = true := by
  induction l generalizing m n with
  | nil =>
    cases m with
    | nil => simp [lexLt] at h
    | cons b m =>
      cases n with
      | nil => simp [lexLt] at k
      | cons c n => rfl
  | cons a l ih =>
    cases m with
    | nil => simp [lexLt] at h
    | cons b m =>
      cases n with
      | nil => simp [lexLt] at k
      | cons c n =>
        unfold lexLt at h k ⊢
        by_cases h1 : a = b
        · subst h1
          by_cases h2 : a = c
          · subst h2
            simp at h k ⊢
            exact ih h k
          · simp [h2] at h k ⊢
            exact k
        · by_cases h2 : b = c
          · subst h2
            simp [h1] at h k ⊢
            exact h
          · simp [h1, h2] at h k
            have : a ≠ c := by omega
            simp [this]; omega
theorem lexLt_total {l m : List Int} (h : lexLt l m = false) (k : l ≠ m) : lexLt m l = true := by
  induction l generalizing m with
  | nil =>
    cases m with
    | nil => exact absurd rfl k
    | cons b m => simp [lexLt] at h
  | cons a l ih =>
    cases m with
    | nil => rfl
    | cons b m =>
      unfold lexLt at h ⊢
      by_cases h1 : a = b
      · subst h1
        simp at h ⊢
        exact ih h (fun e => k (by rw [e]))
      · have h2 : b ≠ a := fun e => h1 e.symm
        simp [h1] at h
        simp [h2]; omega
/-- actuator b comes before actuator a -/
def bf (l : List Stp) (b a : Int) : Bool := lexLt (movesOf l b) (movesOf l a) || (decide (b < a) && (movesOf l b == movesOf l a))
theorem bf_trans {l : List Stp} {a b c : Int} (h : bf l a b = true) (k : bf l b c = true) : bf l a c = true := by
  unfold bf at *
  simp only [Bool.or_eq_true, Bool.and_eq_true, decide_eq_true_eq, beq_iff_eq] at *
  rcases h with h | ⟨h1, h2⟩ <;> rcases k with k | ⟨k1, k2⟩
  · exact .inl (lexLt_trans h k)
  · exact .inl (k2 ▸ h)
  · exact .inl (h2 ▸ k)
  · exact .inr ⟨by omega, h2.trans k2⟩
theorem bf_irrefl (l : List Stp) (a : Int) : bf l a a = false := by
  unfold bf
  rw [lexLt_irrefl]
  simp
theorem bf_asymm {l : List Stp} {a b : Int} (h : bf l a b = true) : bf l b a = false := by
  cases hb : bf l b a
  · rfl
  · have := bf_trans h hb
    rw [bf_irrefl] at this
    exact this.symm
/-- the comparison of Standard -/
def cmpM (l : List Stp) (x y : Int) : Int := cmpL (movesOf l x) (movesOf l y)
theorem cmpM_neg {l : List Stp} {x y : Int} (h : cmpM l x y < 0) : bf l x y = true := by
  have := cmpL_neg (movesOf l x) (movesOf l y)
  unfold cmpM at h
  rw [decide_eq_true h] at this
  unfold bf
  rw [← this]; rfl
theorem cmpM_not {l : List Stp} {x y : Int} (h : ¬ cmpM l x y < 0) (hy : y < x) : bf l y x = true := by
  have := cmpL_neg (movesOf l x) (movesOf l y)
  unfold cmpM at h
  rw [decide_eq_false h] at this
  unfold bf
  by_cases e : movesOf l x = movesOf l y
  · rw [e]; simp [hy]
  · rw [lexLt_total this.symm e]; rfl
theorem insI_perm (c : Int → Int → Int) (x : Int) (r : List Int) : (insI c x r).Perm (x :: r) := by
  induction r with
  | nil => exact List.Perm.refl _
  | cons y r ih =>
    unfold insI
    split
    · exact (List.Perm.cons y ih).trans (List.Perm.swap x y r)
    · exact List.Perm.refl _
theorem sortI_perm (c : Int → Int → Int) (r : List Int) : (sortI c r).Perm r := by
  induction r with
  | nil => exact List.Perm.refl _
  | cons x r ih => exact (insI_perm c x _).trans (List.Perm.cons x ih)
theorem isortI_perm (c : Int → Int → Int) (l : List Int) : (isortI c l).Perm l :=
  (List.reverse_perm _).trans ((sortI_perm c _).trans (List.reverse_perm _))
theorem insI_bf {l : List Stp} {x : Int} {r : List Int} (h : r.Pairwise fun a b => bf l b a = true) (hx : ∀ y ∈ r, y < x) : (insI (cmpM l) x r).Pairwise fun a b => bf l b a = true := by
  induction r with
  | nil => exact List.pairwise_singleton _ _
  | cons y r ih =>
    rw [List.pairwise_cons] at h
    unfold insI
    split
    · rename_i hc
      refine List.pairwise_cons.2 ⟨fun z hz => ?_, ih h.2 (fun z hz => hx z (List.mem_cons_of_mem _ hz))⟩
      rcases List.mem_cons.1 ((insI_perm _ _ _).mem_iff.1 hz) with rfl | hz
      · exact cmpM_neg hc
      · exact h.1 z hz
    · rename_i hc
      have hb := cmpM_not hc (hx y (List.mem_cons_self ..))
      refine List.pairwise_cons.2 ⟨fun z hz => ?_, List.pairwise_cons.2 h⟩
      rcases List.mem_cons.1 hz with rfl | hz
      · exact hb
      · exact bf_trans (h.1 z hz) hb
theorem sortI_bf {l : List Stp} {r : List Int} (h : r.Pairwise fun a b => b < a) : (sortI (cmpM l) r).Pairwise fun a b => bf l b a = true := by
  induction r with
  | nil => exact List.Pairwise.nil
  | cons x r ih =>
    rw [List.pairwise_cons] at h
    exact insI_bf (ih h.2) fun y hy => h.1 y ((sortI_perm _ _).mem_iff.1 hy)
theorem ints_asc (n : Int) : (ints n).Pairwise fun a b => a < b := by
  unfold ints
  rw [List.pairwise_map]
  exact List.pairwise_lt_range.imp (fun h => by simpa using h)
theorem isortI_bf (l : List Stp) (n : Int) : (isortI (cmpM l) (ints n)).Pairwise fun a b => bf l a b = true := by
  unfold isortI
  rw [List.pairwise_reverse]
  refine sortI_bf ?_
  rw [List.pairwise_reverse]
  exact ints_asc n
/-- in a sorted list as many come before an element as its place says -/
theorem bf_count {l : List Stp} {d : List Int} (h : d.Pairwise fun a b => bf l a b = true) {j : Nat} (hj : j < d.length) : (d.filter fun b => bf l b (d.getD j 0)).length = j := by
  induction d generalizing j with
  | nil => simp at hj
  | cons x d ih =>
    rw [List.pairwise_cons] at h
    cases j with
    | zero =>
      have e : (x :: d).getD 0 0 = x := rfl
      rw [e, List.filter_cons, bf_irrefl]
      simp only [Bool.false_eq_true, if_false]
      rw [List.length_eq_zero_iff, List.filter_eq_nil_iff]
      intro y hy
      rw [bf_asymm (h.1 y hy)]; decide
    | succ j =>
      have hj' : j < d.length := by simpa using hj
      have e : (x :: d).getD (j + 1) 0 = d.getD j 0 := rfl
      have hm : d.getD j 0 ∈ d := by rw [List.getD_eq_getElem?_getD, List.getElem?_eq_getElem hj']; exact List.getElem_mem hj'
      rw [e, List.filter_cons, h.1 _ hm]
      simp only [if_true]
      rw [List.length_cons, ih h.2 hj']
theorem letterOf_at (n : Int) (l : List Stp) {j : Nat} (hj : j < (isortI (cmpM l) (ints n)).length) : letterOf (n, l) ((isortI (cmpM l) (ints n)).getD j 0) = (j : Int) := by
  have h := bf_count (isortI_bf l n) hj
  unfold letterOf
  show (((ints n).filter fun b => bf l b _).length : Int) = _
  rw [← ((isortI_perm (cmpM l) (ints n)).filter _).length_eq, h]
theorem ints_length (n : Int) : (ints n).length = n.toNat := by unfold ints; simp
theorem ints_mem {n a : Int} : a ∈ ints n ↔ 0 ≤ a ∧ a < n := by
  unfold ints
  rw [List.mem_map]
  constructor
  · rintro ⟨k, hk, rfl⟩
    rw [List.mem_range] at hk
    show (0 : Int) ≤ (k : Int) ∧ (k : Int) < n
    omega
  · intro h
    exact ⟨a.toNat, by rw [List.mem_range]; omega, by show ((a.toNat : Nat) : Int) = a; omega⟩
theorem ints_getD {n : Int} {k : Nat} (h : (k : Int) < n) : (ints n).getD k 0 = (k : Int) := by
  unfold ints
  rw [List.getD_eq_getElem?_getD, List.getElem?_map, List.getElem?_range (by omega)]
  rfl
/-- each actuator has a place -/
theorem place_ex (n : Int) (l : List Stp) {a : Int} (h : 0 ≤ a ∧ a < n) : ∃ j, j < (isortI (cmpM l) (ints n)).length ∧ (isortI (cmpM l) (ints n)).getD j 0 = a := by
  have hm : a ∈ isortI (cmpM l) (ints n) := (isortI_perm _ _).mem_iff.2 (ints_mem.2 h)
  obtain ⟨j, hj, e⟩ := List.mem_iff_getElem.1 hm
  exact ⟨j, hj, by rw [List.getD_eq_getElem?_getD, List.getElem?_eq_getElem hj]; exact e⟩
theorem isortI_len (n : Int) (l : List Stp) : (isortI (cmpM l) (ints n)).length = n.toNat := by rw [(isortI_perm _ _).length_eq, ints_length]
theorem lettersOf_len (n : Int) (l : List Stp) : (lettersOf (n, l)).length = n.toNat := by unfold lettersOf; rw [List.length_map]; exact ints_length n
theorem lettersOf_getD (n : Int) (l : List Stp) {k : Nat} (h : (k : Int) < n) : (lettersOf (n, l)).getD k 0 = letterOf (n, l) (k : Int) := by
  unfold lettersOf
  have hk : k < (ints n).length := by rw [ints_length]; omega
  have e := ints_getD h
  rw [List.getD_eq_getElem?_getD, List.getElem?_eq_getElem hk] at e
  rw [List.getD_eq_getElem?_getD, List.getElem?_map, List.getElem?_eq_getElem hk]
  show letterOf (n, l) ((ints n)[k]) = _
  congr 1
theorem letterOf_inj (n : Int) (l : List Stp) {a b : Int} (ha : 0 ≤ a ∧ a < n) (hb : 0 ≤ b ∧ b < n) (h : letterOf (n, l) a = letterOf (n, l) b) : a = b := by
  obtain ⟨i, hi, rfl⟩ := place_ex n l ha
  obtain ⟨j, hj, rfl⟩ := place_ex n l hb
  rw [letterOf_at n l hi, letterOf_at n l hj] at h
  have : i = j := by omega
  rw [this]
theorem letterOf_rng (n : Int) (l : List Stp) {a : Int} (ha : 0 ≤ a ∧ a < n) : 0 ≤ letterOf (n, l) a ∧ letterOf (n, l) a < n := by
  obtain ⟨i, hi, rfl⟩ := place_ex n l ha
  rw [letterOf_at n l hi]
  rw [isortI_len] at hi
  omega
/-- a list that says each one's place is the list of the letters -/
theorem letters_of_places (n : Int) (l : List Stp) (t : List Int) (ht : t.length = n.toNat) (h : ∀ j, j < n.toNat → t.getD ((isortI (cmpM l) (ints n)).getD j 0).toNat 0 = (j : Int)) : t = lettersOf (n, l) := by
  refine list_ext_getD 0 (by rw [ht, lettersOf_len]) (fun k hk => ?_)
  rw [ht] at hk
  have hk2 : (k : Int) < n := by omega
  obtain ⟨j, hj, e⟩ := place_ex n l (a := (k : Int)) ⟨by omega, hk2⟩
  have h1 := letterOf_at n l hj
  rw [isortI_len] at hj
  have h2 := h j hj
  rw [e] at h1 h2
  rw [lettersOf_getD n l hk2, h1]
  exact h2
theorem isortI_rng (n : Int) (l : List Stp) {j : Nat} (hj : j < n.toNat) : 0 ≤ (isortI (cmpM l) (ints n)).getD j 0 ∧ (isortI (cmpM l) (ints n)).getD j 0 < n := by
  have hj' : j < (isortI (cmpM l) (ints n)).length := by rw [isortI_len]; exact hj
  have hm : (isortI (cmpM l) (ints n)).getD j 0 ∈ isortI (cmpM l) (ints n) := by rw [List.getD_eq_getElem?_getD, List.getElem?_eq_getElem hj']; exact List.getElem_mem hj'
  exact ints_mem.1 ((isortI_perm _ _).mem_iff.1 hm)
theorem isortI_ne (n : Int) (l : List Stp) {i j : Nat} (hi : i < n.toNat) (hj : j < n.toNat) (hij : i ≠ j) : (isortI (cmpM l) (ints n)).getD i 0 ≠ (isortI (cmpM l) (ints n)).getD j 0 := fun e => by
  have h1 := letterOf_at n l (j := i) (by rw [isortI_len]; exact hi)
  have h2 := letterOf_at n l (j := j) (by rw [isortI_len]; exact hj)
  rw [e, h2] at h1
  omega
end Go.Proofs.YtnhbogmihnnpjaaGreat
/- Appending steps to a slice of one's own. -/
namespace Go.Proofs.YtnhbogmihnnpjaaGreat
open Go.RowKit

theorem step_append_run {P : Program} {ops : Array Oper} {o : Oper} {a : Act} {w : World} {K : Act → World → Prop} {Q : Exit → Act → World → Prop} {E : Prop} (hgd : o.guard = none) (s x : Operand) (t u : TypeId)
    (ho : o.op = .call { callee := .builtin .append, args := #[s, x], argTypes := #[t, u] }) (v y : Value) (hs : a.eval s = v) (hx : a.eval x = y)
    (v' : Value) (w' : World) (hr : (Builtin.append_ #[t, u] o.type #[v, y]).run P w = .ok v' w')
    (h : K (a.put o.dst v') w') :
    if Region.wanted o (yielded ops a.tmps) = true then Oper.wp P o a w K Q else E := by
  have hw : Region.wanted o (yielded ops a.tmps) = true := by simp [Region.wanted, hgd]
  rw [if_pos hw]
  unfold Oper.wp execOp
  simp only [ho, resolve, invoke, builtin, Sem.run_bind, Sem.run_pure, Result.andThen_ok, List.map_toArray, List.map_cons, List.map_nil, hs, hx, hr]
  exact h
theorem exec_buildStp (ρ : Operand → Value) (o : Oper) (p q : Operand) (ho : o.op = .build 87 #[(0, p), (1, q)]) (a : Option Addr) (m c : Nat) (z : Int) (hp : ρ p = .slice a m c) (hq : ρ q = .int .i64 z) (w : World) : (execOp ρ o).run Tryz.prog w = .ok (.value (.agg #[.slice a m c, .int .i64 z])) w := by
  have hb : (Instr.build 87 #[(0, .slice a m c), (1, .int .i64 z)]).run Tryz.prog w = .ok (.agg #[.slice a m c, .int .i64 z]) w := by go_simp
  unfold execOp
  simp only [ho, List.map_toArray, List.map_cons, List.map_nil, hp, hq, Sem.run_bind, hb, Result.andThen_ok, Sem.run_pure]
theorem exec_buildStps (ρ : Operand → Value) (o : Oper) (p : Operand) (ho : o.op = .buildSlice 22 1 #[(0, p)]) (a : Option Addr) (m c : Nat) (z : Int) (hp : ρ p = .agg #[.slice a m c, .int .i64 z]) (w : World) : (execOp ρ o).run Tryz.prog w = .ok (.value (.slice (some ⟨w.heap.size, 0, none⟩) 1 1)) (w.alloc (.cells #[.slice a m c, .int .i64 z] 87)) := by
  have hb : (Instr.buildSlice 22 1 #[(0, .agg #[.slice a m c, .int .i64 z])]).run Tryz.prog w = .ok (.slice (some ⟨w.heap.size, 0, none⟩) 1 1) (w.alloc (.cells #[.slice a m c, .int .i64 z] 87)) := by go_simp
  unfold execOp
  simp only [ho, List.map_toArray, List.map_cons, List.map_nil, hp, Sem.run_bind, hb, Result.andThen_ok, Sem.run_pure]
theorem step_run {P : Program} {o : Oper} {ops : Array Oper} {a : Act} {w : World} {K : Act → World → Prop} {Q : Exit → Act → World → Prop} {E : Prop} (hgd : o.guard = none) (v' : Value) (w' : World) (hr : (execOp a.eval o).run P w = .ok (.value v') w') (h : K (a.put o.dst v') w') :
    if Region.wanted o (yielded ops a.tmps) = true then Oper.wp P o a w K Q else E := by
  have hw : Region.wanted o (yielded ops a.tmps) = true := by simp [Region.wanted, hgd]
  rw [if_pos hw]
  unfold Oper.wp
  rw [hr]
  exact h
theorem run_append_nil_empty {P : Program} (w : World) (t ty e : TypeId) (i : TypeInfo) (ht : P.underlying t = some (.slice e)) (hi : P.info? e = some i) (a : Option Addr) (c : Nat) :
    (Builtin.append_ #[t, t] ty #[.slice none 0 0, .slice a 0 c]).run P w = .ok (.slice none 0 0) w := by
  cases a <;> simp [Builtin.append_, run_underlying ht, sizeOf, typeInfo, hi, Builtin.lenOf, Builtin.firstCells, loadCells, loadCellsFrom]
theorem SliceK.oldX {w : World} {v : Value} {l : List Stk} (h : SliceK w v l) : SliceKX (fun b => w.heap.size ≤ b) w v l := by
  obtain ⟨a, c, h1, h2, h3⟩ := h
  refine ⟨a, c, h1, h2, h3, fun b off hb hne hX => ?_⟩
  obtain ⟨b', off', e, e1, _⟩ := h2 0 (List.length_pos_iff.2 hne)
  rw [hb] at e
  cases e
  have := cell_lt e1
  dsimp only at this
  omega
/-- a list of steps is set behind a slice of one's own -/
theorem OwnsP.run_app {X : Nat → Prop} {w : World} {v : Value} {ys : List Stp} (h : OwnsP X w v ys) {q : List (Value × Stp)} {a : Option Addr} (c n : Nat) (hq : PairsAt w a q) (hqx : ∀ p ∈ q, SliceKX (fun b => X b ∨ v.ownBlock = some b) w p.1 p.2.1) (hn : n = q.length) (hl : ys.length + q.length ≤ 200) (_hX : ∀ b, X b → b < w.heap.size) :
    ∃ v' w', (Builtin.append_ #[22, 22] 22 #[v, .slice a n c]).run Tryz.prog w = .ok v' w' ∧ OwnsP X w' v' (ys ++ q.map (·.2)) ∧ Chg (fun b => v.ownBlock = some b) w w' ∧ (v'.ownBlock = v.ownBlock ∨ ∃ g, v'.ownBlock = some g ∧ w.heap.size ≤ g) ∧ (∀ B, B ≤ w.heap.size → (∀ b, v.ownBlock = some b → B ≤ b) → Below B w w') := by
  obtain ⟨i0, hi, hi0, hi1, hi2⟩ := info_parts infoStp
  subst hn
  by_cases h0 : q.length = 0
  · have hqe : q = [] := List.eq_nil_of_length_eq_zero h0
    subst hqe
    refine ⟨v, w, ?_, by rw [List.map_nil, List.append_nil]; exact h, Chg.refl _ _, .inl rfl, fun B _ _ => Below.refl _ _⟩
    obtain ⟨ps, h1, hown, h3⟩ := h
    rcases hown.2 with ⟨hv, _⟩ | ⟨g', cap, cur, hv, _, _, hcap, _⟩
    · rw [hv]; exact run_append_nil_empty w _ _ _ i0 Tryz.underlying22 hi _ _
    · rw [hv]; exact run_append_empty w _ _ _ i0 Tryz.underlying22 hi _ _ _ hcap _ _
  · obtain ⟨ps, h1, hown, h3⟩ := h
    rcases hq.1 with hq1 | ⟨b, off, rfl, hc⟩
    · rw [hq1] at h0; exact absurd rfl h0
    · obtain ⟨v', w', hr, h2, he⟩ := run_append1 (P := Tryz.prog) w 22 22 87 i0 (.agg #[.slice none 0 0, .int .i64 0]) 2 32 Tryz.underlying22 hi hi0 hi1 hi2 rfl (by decide) v ys.length _ hown ⟨b, off, none⟩ q.length c (by omega) (flat2 (pairP q)) (flat2_len_pairP q) hc hq.2.2 (by unfold maxLen; omega) (by omega)
      have cc : Chg (fun b => v.ownBlock = some b) w w' := by
        rcases he with ⟨_, _, hg⟩ | ⟨_, hx⟩
        · exact ⟨hg.size, fun k hk hn => hg.block k hk (fun e => hn e.symm)⟩
        · exact Chg.ext hx
      refine ⟨v', w', hr, ⟨ps ++ q, by rw [List.map_append, h1], ?_, ?_⟩, cc, ?_, fun B hB hb => he.below hB hb⟩
      · rw [pairP_append, List.length_append, List.length_map]; exact h2
      · have hy : ∀ b, b < w.heap.size → (X b ∨ v'.ownBlock = some b) → (X b ∨ v.ownBlock = some b) := fun b hb hh => by
          rcases hh with hh | hh
          · exact .inl hh
          · rcases he with ⟨hv, _, _⟩ | ⟨hv, _⟩
            · exact .inr (hv ▸ hh)
            · rw [hv] at hh; cases hh; omega
        intro p hp
        rcases List.mem_append.1 hp with hp | hp
        · exact (h3 p hp).chgX (cc.mono fun b hb => .inr hb) hy
        · exact (hqx p hp).chgX (cc.mono fun b hb => .inr hb) hy
      · rcases he with ⟨e1, _, _⟩ | ⟨e1, _⟩
        · exact .inl e1
        · exact .inr ⟨_, e1, Nat.le_refl _⟩
/-- a part of a list of pairs in memory -/
theorem PairsAt.take {w : World} {b off : Nat} {ps : List (Value × Stp)} (h : PairsAt w (some ⟨b, off, none⟩) ps) (k : Nat) : PairsAt w (some ⟨b, off, none⟩) (ps.take k) := by
  refine ⟨?_, fun p hp => h.2.1 p (List.mem_of_mem_take hp), fun u hu => ?_⟩
  · right
    refine ⟨b, off, rfl, fun j u hu => ?_⟩
    rcases h.1 with e | ⟨b', off', e, hc⟩
    · rw [e, List.take_nil] at hu; simp [pairP, flat2] at hu
    · cases e
      refine hc j u ?_
      have e2 : flat2 (pairP (ps.take k)) = (flat2 (pairP ps)).take (k * 2) := by rw [flat2_take]; unfold pairP; rw [List.map_take]
      rw [e2] at hu
      exact List.getElem?_eq_some_iff.2 (by
        obtain ⟨h1, h2⟩ := List.getElem?_eq_some_iff.1 hu
        rw [List.length_take] at h1
        exact ⟨by omega, by rw [← h2, List.getElem_take]⟩)
  · have e2 : flat2 (pairP (ps.take k)) = (flat2 (pairP ps)).take (k * 2) := by rw [flat2_take]; unfold pairP; rw [List.map_take]
    rw [e2] at hu
    exact h.2.2 u (List.mem_of_mem_take hu)
theorem PairsAt.drop {w : World} {b off : Nat} {ps : List (Value × Stp)} (h : PairsAt w (some ⟨b, off, none⟩) ps) (k : Nat) : PairsAt w (some ⟨b, off + k * 2, none⟩) (ps.drop k) := by
  have e2 : flat2 (pairP (ps.drop k)) = (flat2 (pairP ps)).drop (k * 2) := by rw [flat2_drop]; unfold pairP; rw [List.map_drop]
  refine ⟨.inr ⟨b, off + k * 2, rfl, fun j u hu => ?_⟩, fun p hp => h.2.1 p (List.mem_of_mem_drop hp), fun u hu => ?_⟩
  · rw [e2, List.getElem?_drop] at hu
    rcases h.1 with e | ⟨b', off', e, hc⟩
    · rw [e] at hu; simp [pairP, flat2] at hu
    · cases e
      have := hc _ u hu
      rw [Addr.add_lit] at this ⊢
      rw [Nat.add_assoc]
      exact this
  · rw [e2] at hu
    exact h.2.2 u (List.mem_of_mem_drop hu)
theorem PairsAt.nil (w : World) (a : Option Addr) : PairsAt w a [] := ⟨.inl rfl, (fun p hp => by cases hp), (fun u hu => by simp [pairP, flat2] at hu)⟩
end Go.Proofs.YtnhbogmihnnpjaaGreat
