/- Steps of the proof: QLJoi, QOpen, QOpenI. No conditions. -/
import Derived.ProofKit
import Derived.OpenShut
import Derived.Lib.SmallJoins
import Derived.Deep.Slices
import Derived.Test.YtnhbogmihnnpjaaGreatYB1
import Derived.Test.YtnhbogmihnnpjaaGreatYB2
import Derived.Test.YtnhbogmihnnpjaaGreatYB3
import Derived.Test.YtnhbogmihnnpjaaGreatYB4
import Derived.Test.YtnhbogmihnnpjaaGreatYB5
import Derived.Test.YtnhbogmihnnpjaaGreatYB6
import Derived.Test.YtnhbogmihnnpjaaGreatYB7
import Derived.Test.YtnhbogmihnnpjaaGreatYB8
import Derived.Test.YtnhbogmihnnpjaaGreatYB9
import Derived.Test.YtnhbogmihnnpjaaGreatYB10
import Derived.Test.YtnhbogmihnnpjaaGreatYJoins1
/- The law VariantJoins: its walk. -/
namespace Go.Proofs.YtnhbogmihnnpjaaGreat
open Go.RowKit

theorem joins_plain {m n : Int} {l q : List Stp} (h : ckSeq (m, l) = 0) (k : ckSeq (n, q) = 0) (hlen : l.length + q.length ≤ 64) {M : Int} {J : List Stp} (hJ : joined2 (m, l) (n, q) = (M, J)) :
    joinE (m, l) (n, q) = 0 ∧ ckSeq (M, J) = 0 ∧ mem1 (pauses (M, J)) (l.length : Int) = true ∧ fromE (M, J) (l.length : Int) = 0 ∧ (turned (M, J) l.length).2.length = J.length := by
  have e1 : M = max m n := (congrArg Prod.fst hJ).symm
  have e2 : J = l ++ q := (congrArg Prod.snd hJ).symm
  subst e1
  subst e2
  have hr := ckSeq_right h
  have kr := ckSeq_right k
  have jr := joined_right hr kr hlen
  have hq0 := kr.len.1
  have hlt : l.length < (l ++ q).length := by rw [List.length_append]; omega
  have hrest : restsAt (max m n, l ++ q) l.length = true := by
    rw [rests_none jr, List.take_left]
    exact hr.none
  refine ⟨?_, jr.ck, ?_, ?_, ?_⟩
  · unfold joinE
    rw [if_neg (by simp [h]), if_neg (by simp [k]), if_neg (by dsimp only; omega)]
  · rw [pauses_mem _ _ _ (by omega) (by omega)]
    exact hrest
  · unfold fromE
    dsimp only
    rw [if_neg (by simp [jr.ck]), if_neg (by omega), if_pos (show restsAt (max m n, l ++ q) ((l.length : Int)).toNat = true from hrest)]
  · show ((l ++ q).drop l.length ++ (l ++ q).take l.length).length = (l ++ q).length
    rw [List.length_append, List.length_drop, List.length_take]
    omega
theorem mergeE_cases {m : Int} {l : List Stp} (h : ckSeq (m, l) = 0) (k : Int) : mergeE (m, l) k = 0 ∨ mergeE (m, l) k = 14 ∨ mergeE (m, l) k = 2 := by
  unfold mergeE
  rw [if_neg (by simp [h])]
  by_cases h1 : k < 0 ∨ (((m, l) : Sq).2.length : Int) - 2 < k
  · rw [if_pos h1]; exact .inr (.inr rfl)
  · rw [if_neg h1]
    by_cases h2 : (apart (((m, l) : Sq).2.getD k.toNat ([], 0)) (((m, l) : Sq).2.getD (k.toNat + 1) ([], 0)) && (((m, l) : Sq).2.getD k.toNat ([], 0)).2 == 0) = true
    · rw [if_pos h2]; exact .inl rfl
    · rw [if_neg h2]; exact .inr (.inl rfl)

set_option maxHeartbeats 16000000 in
set_option maxRecDepth 100000 in
theorem VariantJoins_any (n m : Int) (l q : List Stp) (a b : Option Addr) (ca cb : Nat) (wh : Int) (w : World) (hc : CellsP w a l) (hr : Room a l.length ca) (hd : CellsP w b q) (hs : Room b q.length cb) (hwh : 0 ≤ wh ∧ wh ≤ 255) :
    Calls Tryz.prog 10 #[.agg #[.int .i64 n, .slice a l.length ca], .agg #[.int .i64 m, .slice b q.length cb], .int .u8 wh] w fun e w' => e = .returned (.bool true) ∧ Ext w w' := by
  have HC := Lib.hid hc
  have HR := Lib.hid hr
  have HD := Lib.hid hd
  have HS := Lib.hid hs
  clear hc hr hd hs
  go_enter Tryz.func10, Tryz.ntmps10
  go_wp2_with fail
  have E0 : Ext w ((w.alloc (.cells #[.int .i64 n, .slice a l.length ca] 24)).alloc (.cells #[.int .i64 m, .slice b q.length cb] 24)) := (by repeat (first | with_reducible exact Ext.refl _ | with_reducible assumption | with_reducible apply Ext.drewN | with_reducible apply Ext.drew | with_reducible apply Ext.alloc | ((with_reducible refine Ext.set ?_ ?_ _); rotate_left; first | omega | (simp; omega)) | (with_reducible refine Ext.trans ?_ (by with_reducible assumption))))
  have a0 : (((w.alloc (.cells #[.int .i64 n, .slice a l.length ca] 24)).alloc (.cells #[.int .i64 m, .slice b q.length cb] 24))).cell? ⟨w.heap.size, 0, none⟩ = some (.int .i64 n) := by go_simp
  have a1 : (((w.alloc (.cells #[.int .i64 n, .slice a l.length ca] 24)).alloc (.cells #[.int .i64 m, .slice b q.length cb] 24))).cell? ⟨w.heap.size, 1, none⟩ = some (.slice a l.length ca) := by go_simp
  have b0 : (((w.alloc (.cells #[.int .i64 n, .slice a l.length ca] 24)).alloc (.cells #[.int .i64 m, .slice b q.length cb] 24))).cell? ⟨w.heap.size + 1, 0, none⟩ = some (.int .i64 m) := by go_simp
  have b1 : (((w.alloc (.cells #[.int .i64 n, .slice a l.length ca] 24)).alloc (.cells #[.int .i64 m, .slice b q.length cb] 24))).cell? ⟨w.heap.size + 1, 1, none⟩ = some (.slice b q.length cb) := by go_simp
  generalize ((w.alloc (.cells #[.int .i64 n, .slice a l.length ca] 24)).alloc (.cells #[.int .i64 m, .slice b q.length cb] 24)) = W at E0 a0 a1 b0 b1 ⊢
  refine (right_any n l a ca _ (HC.out.ext E0) HR.out).mono ?_
  rintro e w1 ⟨rfl, hE⟩
  have F1 := E0.trans hE
  replace a0 := (hE).cell a0
  replace a1 := (hE).cell a1
  replace b0 := (hE).cell b0
  replace b1 := (hE).cell b1
  clear hE E0
  have HRA := Lib.hid (fun h => rightB_true (n := n) (l := l) h)
  generalize rightB (n, l) = fa at HRA ⊢
  obtain ⟨bs, hbs⟩ : ∃ bs, bs = w.heap.size := ⟨_, rfl⟩
  rw [← hbs] at a0 a1 b0 b1 ⊢
  clear hbs
  cases fa
  · go_wp2_with fail
    refine (awake_any _).mono ?_
    rintro e w2 ⟨rfl, hE⟩
    go_wp2
    go_ret
    exact ⟨rfl, F1.trans hE⟩
  go_wp2_with fail
  refine (right_any m q b cb _ (HD.out.ext F1) HS.out).mono ?_
  rintro e w2 ⟨rfl, hE⟩
  have F2 := F1.trans hE
  replace a0 := (hE).cell a0
  replace a1 := (hE).cell a1
  replace b0 := (hE).cell b0
  replace b1 := (hE).cell b1
  clear hE F1
  have HRB := Lib.hid (fun h => rightB_true (n := m) (l := q) h)
  generalize rightB (m, q) = fb at HRB ⊢
  cases fb
  · go_wp2_with fail
    refine (awake_any _).mono ?_
    rintro e w3 ⟨rfl, hE⟩
    go_wp2
    go_ret
    exact ⟨rfl, F2.trans hE⟩
  obtain ⟨hla, hka⟩ := HRA.out (by first | trivial | rfl)
  obtain ⟨hlb, hkb⟩ := HRB.out (by first | trivial | rfl)
  have hl0 := (ckSeq_right hka).len.1
  obtain ⟨⟨M, J⟩, hJ⟩ : ∃ s : Sq, joined2 (n, l) (m, q) = s := ⟨_, rfl⟩
  obtain ⟨p1, p2, p3, p4, p5⟩ := joins_plain hka hkb (by omega) hJ
  have hJl : J.length ≤ 64 := (ckSeq_right p2).len.2
  have HJN := Lib.hid (fun W h1 h2 => Join_any n m l q a b ca cb W HR.out h1 HS.out h2)
  rw [p1, if_pos rfl, hJ] at HJN
  have HP2 := Lib.hid p2
  have HP3 := Lib.hid p3
  have HP45 := Lib.hid (And.intro p4 p5)
  have HKA := Lib.hid hka
  clear p1 p2 p3 p4 p5 hJ hkb hka HRA HRB
  go_wp2_with fail
  refine (HJN.out _ (HC.out.ext F2) (HD.out.ext F2)).mono ?_
  rintro e w3 h
  obtain ⟨xa, xc, rfl, hf, hfl, hE⟩ := h.at
  dsimp only at hf hfl ⊢
  have X := Lib.hid hf
  have XR := Lib.hid hfl
  have F3 := F2.trans hE
  replace a0 := (hE).cell a0
  replace a1 := (hE).cell a1
  replace b0 := (hE).cell b0
  replace b1 := (hE).cell b1
  have z4 := cell_lt a0
  dsimp only at z4
  clear hf hfl hE F2 h HJN b0 b1
  go_wp2_with fail
  have E5 : Ext w3 (w3.alloc (.cells #[.int .i64 M, .slice xa J.length xc] 24)) := (by repeat (first | with_reducible exact Ext.refl _ | with_reducible assumption | with_reducible apply Ext.drewN | with_reducible apply Ext.drew | with_reducible apply Ext.alloc | ((with_reducible refine Ext.set ?_ ?_ _); rotate_left; first | omega | (simp; omega)) | (with_reducible refine Ext.trans ?_ (by with_reducible assumption))))
  have BX := Lib.hid (Box.new w3 M xa J.length xc)
  replace X := Lib.hid (X.out.ext E5)
  have F4 := F3.trans E5
  replace a0 := (E5).cell a0
  replace a1 := (E5).cell a1
  obtain ⟨b1, hb1⟩ : ∃ b, b = w3.heap.size := ⟨_, rfl⟩
  rw [← hb1] at BX z4 ⊢
  clear hb1 E5 F3
  generalize (w3.alloc (.cells #[.int .i64 M, .slice xa J.length xc] 24)) = W4 at BX X F4 a0 a1 ⊢
  have HCH := Lib.hid (Check_any M J xa xc W4 XR.out X.out)
  rw [HP2.out] at HCH
  refine HCH.out.mono ?_
  rintro e w5 ⟨rfl, hE⟩
  replace BX := Lib.hid (BX.out.ext hE)
  replace X := Lib.hid (X.out.ext hE)
  have F5 := F4.trans hE
  replace a0 := (hE).cell a0
  replace a1 := (hE).cell a1
  have x0 := BX.out.c0
  have x1 := BX.out.c1
  clear hE F4 HCH
  have HPZ := Lib.hid (Pauses_any M J xa xc w5 XR.out X.out)
  rw [if_pos HP2.out, HP2.out] at HPZ
  generalize pauses (M, J) = P at HPZ HP3
  go_wp2_with fail
  clear x0 x1
  refine HPZ.out.mono ?_
  rintro e w6 ⟨pa, pc, rfl, hp, hpl, hE⟩
  have Y := Lib.hid hp
  have YL := Lib.hid hpl
  replace BX := Lib.hid (BX.out.ext hE)
  replace X := Lib.hid (X.out.ext hE)
  have F6 := F5.trans hE
  replace a0 := (hE).cell a0
  replace a1 := (hE).cell a1
  clear hp hpl hE F5 HPZ
  obtain ⟨T, hT⟩ : ∃ T, T = (turned (M, J) l.length).2 := ⟨_, rfl⟩
  have ht : turned (M, J) l.length = (M, T) := by rw [hT]; rfl
  have HFR := Lib.hid (fun W h => From_any M J (l.length : Int) xa xc W XR.out h XR.out)
  rw [HP45.out.1, if_pos rfl, Int.toNat_natCast, ht] at HFR
  have hTl : T.length = J.length := by rw [hT]; exact HP45.out.2
  have HTL := Lib.hid hTl
  clear hT ht hTl HP45
  have x0 := BX.out.c0
  have x1 := BX.out.c1
  have zx := cell_lt x0
  have za := cell_lt a0
  dsimp only at zx za
  go_wp2_with fail
  refine (HFR.out _ X.out).mono ?_
  rintro e w7 h
  obtain ⟨ta, tc, rfl, hf, hfl, hE⟩ := h.at
  dsimp only at hf hfl ⊢
  replace Y := Lib.hid (Y.out.ext hE)
  replace BX := Lib.hid (BX.out.ext hE)
  have F7 := F6.trans hE
  replace a0 := (hE).cell a0
  replace a1 := (hE).cell a1
  have x0 := BX.out.c0
  have x1 := BX.out.c1
  have zx := cell_lt x0
  have za := cell_lt a0
  dsimp only at zx za
  clear hf hfl hE F6 h HFR X
  go_wp2_with fail
  have E5 : Ext w7 (w7.alloc (.cells #[.int .i64 M, .slice ta T.length tc] 24)) := (by repeat (first | with_reducible exact Ext.refl _ | with_reducible assumption | with_reducible apply Ext.drewN | with_reducible apply Ext.drew | with_reducible apply Ext.alloc | ((with_reducible refine Ext.set ?_ ?_ _); rotate_left; first | omega | (simp; omega)) | (with_reducible refine Ext.trans ?_ (by with_reducible assumption))))
  have BT := Lib.hid (Box.new w7 M ta T.length tc)
  replace Y := Lib.hid (Y.out.ext E5)
  replace BX := Lib.hid (BX.out.ext E5)
  have F8 := F7.trans E5
  replace a0 := (E5).cell a0
  replace a1 := (E5).cell a1
  obtain ⟨b2, hb2⟩ : ∃ b, b = w7.heap.size := ⟨_, rfl⟩
  rw [← hb2] at BT zx za ⊢
  clear hb2 E5 F7 x0 x1
  generalize (w7.alloc (.cells #[.int .i64 M, .slice ta T.length tc] 24)) = W8 at BX BT Y F8 a0 a1 ⊢
  refine (ContainsI_any P (l.length : Int) pa pc _ YL.out Y.out).mono ?_
  rintro e w9 ⟨rfl, hE⟩
  rw [HP3.out]
  replace BX := Lib.hid (BX.out.ext hE)
  replace BT := Lib.hid (BT.out.ext hE)
  have F9 := F8.trans hE
  replace a0 := (hE).cell a0
  replace a1 := (hE).cell a1
  have x1 := BX.out.c1
  have x2 := BT.out.c1
  have hne : ((T.length : Int) != (J.length : Int)) = false := by rw [HTL.out]; simp
  have hne2 : (T.length != J.length) = false := by rw [HTL.out]; simp
  clear hE F8 Y YL HP3
  go_wp2_with fail
  clear x1 x2 hne hne2
  have HWD := Lib.hid (Word_any n l a ca w9 HR.out (HC.out.ext F9))
  rw [HKA.out, if_pos rfl] at HWD
  refine HWD.out.mono ?_
  rintro e w10 ⟨v, rfl, hv, hx1, hE⟩
  obtain ⟨wa, wcp, rfl, hwc, hwm, hx2⟩ := hv.reads
  have hwr := rowRoom hv rfl
  have WC := Lib.hid hwc
  have WR := Lib.hid hwr
  have FA := F9.trans hE
  replace a0 := (hE).cell a0
  replace a1 := (hE).cell a1
  clear hv hwc hwm hwr hE F9 HWD BX BT hx1 hx2
  obtain ⟨wn, rfl⟩ := Int.eq_ofNat_of_zero_le hwh.1
  obtain ⟨kk, hkk⟩ : ∃ kk, kk = wn % l.length := ⟨_, rfl⟩
  have hmod : (wn : Int).tmod (l.length : Int) = (kk : Int) := by
    rw [Int.tmod_eq_emod_of_nonneg (by omega), hkk]; rfl
  have hkl : kk < l.length := by rw [hkk]; exact Nat.mod_lt _ hl0
  have u1 : IntKind.i64.wrap (wn : Int) = (wn : Int) := IntWalk.i64_in _ (by omega)
  have u2 : IntKind.i64.wrap (kk : Int) = (kk : Int) := IntWalk.i64_in _ (by omega)
  have u3 : ((l.length : Int) == 0) = false := beq_eq_false_iff_ne.2 (by omega)
  have u4 : ¬ (l = []) := fun h => by rw [h] at hl0; simp at hl0
  obtain ⟨me, hme⟩ : ∃ me, me = mergeE (n, l) (kk : Int) := ⟨_, rfl⟩
  obtain ⟨⟨mn, ml⟩, hms⟩ : ∃ s : Sq, s = (if me = 0 then merged (n, l) kk else sq0) := ⟨_, rfl⟩
  have HMG := Lib.hid (fun W h => Merge_any n l (kk : Int) a ca W HR.out h)
  rw [← hme, Int.toNat_natCast, ← hms] at HMG
  have HME := Lib.hid hme
  have HMS := Lib.hid hms
  clear hkk hme hms
  go_wp2
  go_cut [13, 11] (fun x y wx => ∃ b2 ya yc, x = .pointer (some ⟨b2, 0, none⟩) ∧ y = .int .i64 me ∧ Hid (wx.cell? ⟨b2, 0, none⟩ = some (.int .i64 mn) ∧ wx.cell? ⟨b2, 1, none⟩ = some (.slice ya ml.length yc) ∧ CellsP wx ya ml ∧ Room ya ml.length yc) ∧ Ext w10 wx)
  case first =>
    refine wp_region_heldE 12 (fun w' => w'.cell? ⟨bs, 0, none⟩ = some (.int .i64 n) ∧ w'.cell? ⟨bs, 1, none⟩ = some (.slice a l.length ca)) (by kernel_rfl) ?_
    have ED : Ext w10 w10.drew := (by repeat (first | with_reducible exact Ext.refl _ | with_reducible assumption | with_reducible apply Ext.drewN | with_reducible apply Ext.drew | with_reducible apply Ext.alloc | ((with_reducible refine Ext.set ?_ ?_ _); rotate_left; first | omega | (simp; omega)) | (with_reducible refine Ext.trans ?_ (by with_reducible assumption))))
    have hS : w10.drew.cell? ⟨bs, 0, none⟩ = some (.int .i64 n) ∧ w10.drew.cell? ⟨bs, 1, none⟩ = some (.slice a l.length ca) := ⟨ED.cell a0, ED.cell a1⟩
    clear a0 a1
    generalize w10.drew = W2 at ED hS ⊢
    ((refine wpAnyE_take (i := 0) (oi := ?_) (v := ?_) ?_ (by kernel_rfl) ?_ ?_ (by assumption) ?_; rotate_left 2; (focus ((simp only [List.getElem?_toArray, List.getElem?_cons_zero]; exact rfl))); (focus (exact fun _ _ _ h => h)); (focus (refine Or.inl ⟨by rfl, ?_⟩; intro w hSw; (try dsimp only at hSw); (first | (go_simp; done) | (go_simp; with_reducible rfl)))); (try simp only [Act.put, List.setIfInBounds_toArray, List.set_cons_zero, List.set_cons_succ])); (refine wpAnyE_take (i := 1) (oi := ?_) (v := ?_) ?_ (by kernel_rfl) ?_ ?_ (by assumption) ?_; rotate_left 2; (focus ((simp only [List.getElem?_toArray, List.getElem?_cons_succ, List.getElem?_cons_zero]; exact rfl))); (focus (exact fun _ _ _ h => h)); (focus (refine Or.inl ⟨by rfl, ?_⟩; intro w hSw; (try dsimp only at hSw); (first | (go_simp; done) | (go_simp; with_reducible rfl)))); (try simp only [Act.put, List.setIfInBounds_toArray, List.set_cons_zero, List.set_cons_succ])); (refine wpAnyE_take (i := 2) (oi := ?_) (v := ?_) ?_ (by kernel_rfl) ?_ ?_ (by assumption) ?_; rotate_left 2; (focus ((simp only [List.getElem?_toArray, List.getElem?_cons_succ, List.getElem?_cons_zero]; exact rfl))); (focus (exact fun _ _ _ h => h)); (focus (refine Or.inl ⟨by rfl, ?_⟩; intro w hSw; (try dsimp only at hSw); (first | (go_simp; done) | (go_simp; with_reducible rfl)))); (try simp only [Act.put, List.setIfInBounds_toArray, List.set_cons_zero, List.set_cons_succ])); (refine wpAnyE_take (i := 3) (oi := ?_) (v := ?_) ?_ (by kernel_rfl) ?_ ?_ (by assumption) ?_; rotate_left 2; (focus ((simp only [List.getElem?_toArray, List.getElem?_cons_succ, List.getElem?_cons_zero]; exact rfl))); (focus (exact fun _ _ _ h => h)); (focus (refine Or.inl ⟨by rfl, ?_⟩; intro w hSw; (try dsimp only at hSw); (first | (go_simp; done) | (go_simp; with_reducible rfl)))); (try simp only [Act.put, List.setIfInBounds_toArray, List.set_cons_zero, List.set_cons_succ])); (refine wpAnyE_take (i := 4) (oi := ?_) (v := ?_) ?_ (by kernel_rfl) ?_ ?_ (by assumption) ?_; rotate_left 2; (focus ((simp only [List.getElem?_toArray, List.getElem?_cons_succ, List.getElem?_cons_zero]; exact rfl))); (focus (exact fun _ _ _ h => h)); (focus (refine Or.inl ⟨by rfl, ?_⟩; intro w hSw; (try dsimp only at hSw); (first | (go_simp; done) | (go_simp; with_reducible rfl)))); (try simp only [Act.put, List.setIfInBounds_toArray, List.set_cons_zero, List.set_cons_succ])); (refine wpAnyE_take (i := 5) (oi := ?_) (v := ?_) ?_ (by kernel_rfl) ?_ ?_ (by assumption) ?_; rotate_left 2; (focus ((simp only [List.getElem?_toArray, List.getElem?_cons_succ, List.getElem?_cons_zero]; exact rfl))); (focus (exact fun _ _ _ h => h)); (focus (refine Or.inl ⟨by rfl, ?_⟩; intro w hSw; (try dsimp only at hSw); (first | (go_simp; done) | (go_simp; with_reducible rfl)))); (try simp only [Act.put, List.setIfInBounds_toArray, List.set_cons_zero, List.set_cons_succ])); (refine wpAnyE_take (i := 6) (oi := ?_) (v := ?_) ?_ (by kernel_rfl) ?_ ?_ (by assumption) ?_; rotate_left 2; (focus ((simp only [List.getElem?_toArray, List.getElem?_cons_succ, List.getElem?_cons_zero]; exact rfl))); (focus (exact fun _ _ _ h => h)); (focus (refine Or.inl ⟨by rfl, ?_⟩; intro w hSw; (try dsimp only at hSw); (first | (go_simp; done) | (go_simp; with_reducible rfl)))); (try simp only [Act.put, List.setIfInBounds_toArray, List.set_cons_zero, List.set_cons_succ])))
    refine wpAnyE_two (i := 7) (j := 11) (o := ?_) (p := ?_) ?_ ?_ (by kernel_rfl) (fun K hK => ?_) (fun K hK => ?_)
    rotate_left 2
    · simp only [List.getElem?_toArray, List.getElem?_cons_succ, List.getElem?_cons_zero]; exact rfl
    · simp only [List.getElem?_toArray, List.getElem?_cons_succ, List.getElem?_cons_zero]; exact rfl
    · go_simp
      refine (HMG.out _ (HC.out.ext (FA.trans ED))).mono ?_
      rintro e w8 h
      obtain ⟨ya, yc, rfl, hf, hfr, hE⟩ := h.at
      dsimp only at hf hfr ⊢
      have Y2 := Lib.hid hf
      have YR := Lib.hid hfr
      clear hf hfr h
      go_wp2_with fail
      refine hK.out _ _ ⟨hE.cell hS.1, hE.cell hS.2⟩ (fun hHeld => ?_)
      clear hK K
      (try simp only [Act.put, List.setIfInBounds_toArray, List.set_cons_zero, List.set_cons_succ])
      have hS8 : w8.cell? ⟨bs, 0, none⟩ = some (.int .i64 n) ∧ w8.cell? ⟨bs, 1, none⟩ = some (.slice a l.length ca) := hHeld
      ((refine wpAnyE_pure (i := 8) (oi := ?_) (v := ?_) ?_ (by kernel_rfl) ?_ ?_ ?_ ?_; rotate_left 2; (focus ((simp only [List.getElem?_toArray, List.getElem?_cons_succ, List.getElem?_cons_zero]; exact rfl))); (focus (exact fun _ _ _ h => h)); (focus (refine Or.inl ⟨by rfl, ?_⟩; intro w hSw; clear hSw; (first | (go_simp; done) | (go_simp; with_reducible rfl)))); (focus (first | exact (fun _ => by assumption) | (intro hlst; exact absurd hlst (by kernel_rfl)) | (intro hlst; cases hlst))); (try simp only [Act.put, List.setIfInBounds_toArray, List.set_cons_zero, List.set_cons_succ])); (refine wpAnyE_pure (i := 9) (oi := ?_) (v := ?_) ?_ (by kernel_rfl) ?_ ?_ ?_ ?_; rotate_left 2; (focus ((simp only [List.getElem?_toArray, List.getElem?_cons_succ, List.getElem?_cons_zero]; exact rfl))); (focus (exact fun _ _ _ h => h)); (focus (refine Or.inl ⟨by rfl, ?_⟩; intro w hSw; clear hSw; (first | (go_simp; done) | (go_simp; with_reducible rfl)))); (focus (first | exact (fun _ => by assumption) | (intro hlst; exact absurd hlst (by kernel_rfl)) | (intro hlst; cases hlst))); (try simp only [Act.put, List.setIfInBounds_toArray, List.set_cons_zero, List.set_cons_succ])); (refine wpAnyE_pure (i := 10) (oi := ?_) (v := ?_) ?_ (by kernel_rfl) ?_ ?_ ?_ ?_; rotate_left 2; (focus ((simp only [List.getElem?_toArray, List.getElem?_cons_succ, List.getElem?_cons_zero]; exact rfl))); (focus (exact fun _ _ _ h => h)); (focus (refine Or.inl ⟨by rfl, ?_⟩; intro w hSw; clear hSw; (first | (go_simp; done) | (go_simp; with_reducible rfl)))); (focus (first | exact (fun _ => by assumption) | (intro hlst; exact absurd hlst (by kernel_rfl)) | (intro hlst; cases hlst))); (try simp only [Act.put, List.setIfInBounds_toArray, List.set_cons_zero, List.set_cons_succ])))
      have E9 : Ext w8 (w8.alloc (.cells #[.int .i64 0, .slice none 0 0] 24)) := (by repeat (first | with_reducible exact Ext.refl _ | with_reducible assumption | with_reducible apply Ext.drewN | with_reducible apply Ext.drew | with_reducible apply Ext.alloc | ((with_reducible refine Ext.set ?_ ?_ _); rotate_left; first | omega | (simp; omega)) | (with_reducible refine Ext.trans ?_ (by with_reducible assumption))))
      (refine wpAnyE_one (i := 11) (o := ?_) ?_ (by kernel_rfl) (fun K hK => ?_); rotate_left; (focus ((simp only [List.getElem?_toArray, List.getElem?_cons_succ, List.getElem?_cons_zero]; exact rfl))); go_simp; refine hK.out _ _ ?_ (fun hHeld => ?_); rotate_left; clear hK K; (try simp only [Act.put, List.setIfInBounds_toArray, List.set_cons_zero, List.set_cons_succ]))
      rotate_left
      · exact ⟨E9.cell hS8.1, E9.cell hS8.2⟩
      (refine wpAnyE_free (i := 12) (o := ?_) ?_ (by kernel_rfl) (by kernel_rfl) (fun K hK => ?_); rotate_left; (focus ((simp only [List.getElem?_toArray, List.getElem?_cons_succ, List.getElem?_cons_zero]; exact rfl))); go_simp; refine hK.out _ _ ?_; clear hK K; (try simp only [Act.put, List.setIfInBounds_toArray, List.set_cons_zero, List.set_cons_succ]))
      (refine wpAnyE_pure (i := 13) (oi := ?_) (v := ?_) ?_ (by kernel_rfl) ?_ ?_ ?_ ?_; rotate_left 2; (focus ((simp only [List.getElem?_toArray, List.getElem?_cons_succ, List.getElem?_cons_zero]; exact rfl))); (focus (exact fun _ _ _ h => h)); (focus (refine Or.inl ⟨by rfl, ?_⟩; intro w hSw; clear hSw; (first | (go_simp; done) | (go_simp; with_reducible rfl)))); (focus (first | exact (fun _ => by assumption) | (intro hlst; exact absurd hlst (by kernel_rfl)) | (intro hlst; cases hlst))); (try simp only [Act.put, List.setIfInBounds_toArray, List.set_cons_zero, List.set_cons_succ]))
      refine wpAnyE_done (by kernel_rfl) ?_ _
      go_wp2_with fail
      go_meet
      have EA : Ext w8 (w8.alloc (.cells #[.int .i64 mn, .slice ya ml.length yc] 24)) := (by repeat (first | with_reducible exact Ext.refl _ | with_reducible assumption | with_reducible apply Ext.drewN | with_reducible apply Ext.drew | with_reducible apply Ext.alloc | ((with_reducible refine Ext.set ?_ ?_ _); rotate_left; first | omega | (simp; omega)) | (with_reducible refine Ext.trans ?_ (by with_reducible assumption))))
      exact ⟨w8.heap.size, ya, yc, rfl, rfl, ⟨by go_simp, by go_simp, Y2.out.ext EA, YR.out⟩, (ED.trans hE).trans EA⟩
    · go_simp
      have E9 : Ext W2 (W2.alloc (.cells #[.int .i64 0, .slice none 0 0] 24)) := (by repeat (first | with_reducible exact Ext.refl _ | with_reducible assumption | with_reducible apply Ext.drewN | with_reducible apply Ext.drew | with_reducible apply Ext.alloc | ((with_reducible refine Ext.set ?_ ?_ _); rotate_left; first | omega | (simp; omega)) | (with_reducible refine Ext.trans ?_ (by with_reducible assumption))))
      have BN := Lib.hid (Box.new W2 0 none 0 0)
      have hb2 : W2.heap.size < (W2.alloc (.cells #[.int .i64 0, .slice none 0 0] 24)).heap.size := by simp
      refine hK.out _ _ ⟨E9.cell hS.1, E9.cell hS.2⟩ (fun hHeld => ?_)
      clear hK K
      (try simp only [Act.put, List.setIfInBounds_toArray, List.set_cons_zero, List.set_cons_succ])
      have hS8 : (W2.alloc (.cells #[.int .i64 0, .slice none 0 0] 24)).cell? ⟨bs, 0, none⟩ = some (.int .i64 n) ∧ (W2.alloc (.cells #[.int .i64 0, .slice none 0 0] 24)).cell? ⟨bs, 1, none⟩ = some (.slice a l.length ca) := hHeld
      obtain ⟨nb, hnb⟩ : ∃ nb, nb = W2.heap.size := ⟨_, rfl⟩
      rw [← hnb] at BN hb2 ⊢
      have HNB := Lib.hid hnb
      clear hnb hS
      generalize (W2.alloc (.cells #[.int .i64 0, .slice none 0 0] 24)) = W3 at E9 BN hS8 hb2 ⊢
      (refine wpAnyE_one (i := 7) (o := ?_) ?_ (by kernel_rfl) (fun K hK => ?_); rotate_left; (focus ((simp only [List.getElem?_toArray, List.getElem?_cons_succ, List.getElem?_cons_zero]; exact rfl))); go_simp; refine (HMG.out _ (HC.out.ext ((FA.trans ED).trans E9))).mono ?_; rintro e w8 h; obtain ⟨ya, yc, rfl, hf, hfr, hE⟩ := h.at; dsimp only at hf hfr ⊢; have Y2 := Lib.hid hf; have YR := Lib.hid hfr; clear hf hfr h; go_wp2_with fail; refine hK.out _ _ ?_ (fun hHeld => ?_); rotate_left; clear hK K; (try simp only [Act.put, List.setIfInBounds_toArray, List.set_cons_zero, List.set_cons_succ]))
      rotate_left
      · exact ⟨hE.cell hS8.1, hE.cell hS8.2⟩
      have BN := Lib.hid (BN.out.ext hE)
      have q0 := BN.out.c0
      have q1 := BN.out.c1
      have q2 := BN.out.f0
      have q3 := BN.out.f1
      ((refine wpAnyE_pure (i := 8) (oi := ?_) (v := ?_) ?_ (by kernel_rfl) ?_ ?_ ?_ ?_; rotate_left 2; (focus ((simp only [List.getElem?_toArray, List.getElem?_cons_succ, List.getElem?_cons_zero]; exact rfl))); (focus (exact fun _ _ _ h => h)); (focus (refine Or.inl ⟨by rfl, ?_⟩; intro w hSw; clear hSw; (first | (go_simp; done) | (go_simp; with_reducible rfl)))); (focus (first | exact (fun _ => by assumption) | (intro hlst; exact absurd hlst (by kernel_rfl)) | (intro hlst; cases hlst))); (try simp only [Act.put, List.setIfInBounds_toArray, List.set_cons_zero, List.set_cons_succ])); (refine wpAnyE_pure (i := 9) (oi := ?_) (v := ?_) ?_ (by kernel_rfl) ?_ ?_ ?_ ?_; rotate_left 2; (focus ((simp only [List.getElem?_toArray, List.getElem?_cons_succ, List.getElem?_cons_zero]; exact rfl))); (focus (exact fun _ _ _ h => h)); (focus (refine Or.inl ⟨by rfl, ?_⟩; intro w hSw; clear hSw; (first | (go_simp; done) | (go_simp; with_reducible rfl)))); (focus (first | exact (fun _ => by assumption) | (intro hlst; exact absurd hlst (by kernel_rfl)) | (intro hlst; cases hlst))); (try simp only [Act.put, List.setIfInBounds_toArray, List.set_cons_zero, List.set_cons_succ])); (refine wpAnyE_pure (i := 10) (oi := ?_) (v := ?_) ?_ (by kernel_rfl) ?_ ?_ ?_ ?_; rotate_left 2; (focus ((simp only [List.getElem?_toArray, List.getElem?_cons_succ, List.getElem?_cons_zero]; exact rfl))); (focus (exact fun _ _ _ h => h)); (focus (refine Or.inl ⟨by rfl, ?_⟩; intro w hSw; clear hSw; (first | (go_simp; done) | (go_simp; with_reducible rfl)))); (focus (first | exact (fun _ => by assumption) | (intro hlst; exact absurd hlst (by kernel_rfl)) | (intro hlst; cases hlst))); (try simp only [Act.put, List.setIfInBounds_toArray, List.set_cons_zero, List.set_cons_succ])))
      (refine wpAnyE_free (i := 12) (o := ?_) ?_ (by kernel_rfl) (by kernel_rfl) (fun K hK => ?_); rotate_left; (focus ((simp only [List.getElem?_toArray, List.getElem?_cons_succ, List.getElem?_cons_zero]; exact rfl))); go_simp; refine hK.out _ _ ?_; clear hK K; (try simp only [Act.put, List.setIfInBounds_toArray, List.set_cons_zero, List.set_cons_succ]))
      (refine wpAnyE_pure (i := 13) (oi := ?_) (v := ?_) ?_ (by kernel_rfl) ?_ ?_ ?_ ?_; rotate_left 2; (focus ((simp only [List.getElem?_toArray, List.getElem?_cons_succ, List.getElem?_cons_zero]; exact rfl))); (focus (exact fun _ _ _ h => h)); (focus (refine Or.inl ⟨by rfl, ?_⟩; intro w hSw; clear hSw; (first | (go_simp; done) | (go_simp; with_reducible rfl)))); (focus (first | exact (fun _ => by assumption) | (intro hlst; exact absurd hlst (by kernel_rfl)) | (intro hlst; cases hlst))); (try simp only [Act.put, List.setIfInBounds_toArray, List.set_cons_zero, List.set_cons_succ]))
      refine wpAnyE_done (by kernel_rfl) ?_ _
      go_wp2_with fail
      go_meet
      have EB : Ext W2 ((w8.setCell ⟨nb, 0, none⟩ (.int .i64 mn)).setCell ⟨nb, 1, none⟩ (.slice ya ml.length yc)) := ((E9.trans hE).set (by have := HNB.out; omega) _).set (by have := HNB.out; omega) _
      have BM := BN.out.set mn (.slice ya ml.length yc)
      exact ⟨nb, ya, yc, rfl, rfl, ⟨BM.c0, BM.c1, BN.out.keep Y2.out (set2_block _ nb _ _), YR.out⟩, ED.trans EB⟩
  case rest =>
    obtain ⟨b3, ya, yc, rfl, rfl, HB3, hE⟩ := hcut
    have FB := FA.trans hE
    replace WC := Lib.hid (WC.out.ext hE)
    replace a0 := (hE).cell a0
    replace a1 := (hE).cell a1
    clear hE FA HMG u1 u2 u3 hmod
    have hcs := mergeE_cases HKA.out (kk : Int)
    rw [← HME.out] at hcs
    rcases hcs with h0 | h0 | h0
    · have hms := HMS.out
      rw [if_pos h0] at hms
      have hme0 : mergeE (n, l) (kk : Int) = 0 := HME.out.symm.trans h0
      obtain ⟨m1, m2, m3, m4⟩ := merged_right (ckSeq_right HKA.out) hme0
      rw [← hms] at m1 m2 m4
      have hmn : mn = n := congrArg Prod.fst hms
      subst hmn
      have hck : ckSeq (mn, ml) = 0 := m1.ck
      dsimp only at m2 m4
      have HML := Lib.hid m2
      have HAC := Lib.hid (fun W h1 h2 => Accepts_any mn ml ya yc (wordL l) wa wcp W HB3.out.2.2.2 h1 h2 ⟨WR.out.1, WR.out.2.1⟩)
      rw [hck, m4] at HAC
      have HCK := Lib.hid hck
      have HBK := Lib.hid HB3.out.2.2
      have r0 := HB3.out.1
      have r1 := HB3.out.2.1
      subst h0
      clear hms hme0 m1 m2 m4 hck HMS HME HB3
      go_wp2_with fail
      refine (HAC.out _ HBK.out.1 WC.out).mono ?_
      rintro e w11 ⟨rfl, hE⟩
      have FC := FB.trans hE
      replace a0 := (hE).cell a0
      replace a1 := (hE).cell a1
      replace r0 := (hE).cell r0
      replace r1 := (hE).cell r1
      have HBP := Lib.hid (HBK.out.1.ext hE)
      have HCC := Lib.hid (fun W h => Check_any mn ml ya yc W HBK.out.2 h)
      rw [HCK.out] at HCC
      clear hE FB HAC WC WR
      go_wp2_with fail
      refine (HCC.out _ HBP.out).mono ?_
      rintro e w12 ⟨rfl, hE⟩
      have FD := FC.trans hE
      replace a0 := (hE).cell a0
      replace a1 := (hE).cell a1
      replace r0 := (hE).cell r0
      replace r1 := (hE).cell r1
      have v1 : IntKind.i64.wrap ((l.length : Int) - 1) = (l.length : Int) - 1 := IntWalk.i64_in _ (by omega)
      have v2 : ((ml.length : Int) == (l.length : Int) - 1) = true := by rw [HML.out, beq_iff_eq]; omega
      clear hE FC HCC
      go_wp2_with fail
      refine (awake_any _).mono ?_
      rintro e w13 ⟨rfl, hE⟩
      go_wp2
      go_ret
      exact ⟨rfl, FD.trans hE⟩
    · subst h0
      clear HMS HME HB3
      go_wp2_with fail
      refine (awake_any _).mono ?_
      rintro e w11 ⟨rfl, hE⟩
      go_wp2
      go_ret
      exact ⟨rfl, FB.trans hE⟩
    · subst h0
      clear HMS HME HB3
      go_wp2_with fail
      refine (awake_any _).mono ?_
      rintro e w11 ⟨rfl, hE⟩
      go_wp2
      go_ret
      exact ⟨rfl, FB.trans hE⟩
end Go.Proofs.YtnhbogmihnnpjaaGreat
/- The arguments of the laws of sequences, opened. -/
namespace Go.Proofs.YtnhbogmihnnpjaaGreat
open Go.RowKit Go.ChangeShapes Go.WideShapes Go.Joins Go.Deep

theorem list2 {α : Type} {l : List α} (h : l.length = 2) : ∃ a b, l = [a, b] := by
  match l, h with
  | [a, b], _ => exact ⟨a, b, rfl⟩
theorem laidOut : laidOutB Tryz.prog = true := by kernel_rfl
theorem cellsOfStk : Tryz.prog.cellsOf 73 = 2 := by kernel_rfl
theorem cellsOfStp : Tryz.prog.cellsOf 87 = 2 := by kernel_rfl
theorem cellsOfInt : Tryz.prog.cellsOf 3 = 1 := by kernel_rfl
theorem cellsOfBool : Tryz.prog.cellsOf 4 = 1 := by kernel_rfl
theorem cellsOfSlk : Tryz.prog.cellsOf 66 = 1 := by kernel_rfl

section
variable {H : Type} {enc : TypeId × Value → H} {w : World} {base : Nat} {spare : Nat → Bool} {held : Bool}
theorem open_stk {fuel : Nat} {cs : List Value} {x : DataW H × List MemPlace} (h : DataW.trod enc Tryz.prog w base spare held fuel 73 cs = some x) : ∃ y : Stk, cs = [.int .i64 y.1, .bool y.2] := by
  obtain ⟨y0, y1, n, _, hl, h0, h1⟩ := trod_struct2 Tryz.underlying73 h
  rw [cellsOfStk] at hl
  obtain ⟨a, b, rfl⟩ := list2 hl
  rw [cellsOfInt] at h0
  rw [cellsOfBool] at h1
  obtain ⟨i, e0, _, w0⟩ := DataW.trod_int Tryz.underlying3 h0
  obtain ⟨j, e1, _⟩ := DataW.trod_bool Tryz.underlying4 h1
  simp at e0 e1
  subst e0; subst e1
  exact ⟨(i, j), rfl⟩
theorem open_stks {a : Addr} {len : Nat} (h : ∀ i, i < len → ∃ cs' n x, w.cells? base (a.add (i * 2)) 2 = some cs' ∧ DataW.trod enc Tryz.prog w base spare held n 73 cs' = some x) : ∃ l : List Stk, l.length = len ∧ CellsK w (some a) l := by
  have key : ∀ i, i < len → ∃ y : Stk, w.cell? (a.add (i * 2)) = some (.int .i64 y.1) ∧ w.cell? ((a.add (i * 2)).add 1) = some (.bool y.2) := fun i hi => by
    obtain ⟨cs', n, x, h1, h2⟩ := h i hi
    obtain ⟨y, rfl⟩ := open_stk h2
    obtain ⟨_, _, hc⟩ := World.cells?_some h1
    have c0 := hc 0 (by omega)
    have c1 := hc 1 (by omega)
    refine ⟨y, ?_, c1⟩
    have e : (a.add (i * 2)).add 0 = a.add (i * 2) := by simp [Addr.add]
    rw [e] at c0
    exact c0
  obtain ⟨f, hf⟩ := choose_lt (α := Stk) key
  refine ⟨(List.range len).map f, by simp, fun i hi => ?_⟩
  have hi' : i < len := by simpa using hi
  obtain ⟨h1, h2⟩ := hf i hi'
  have hp : ((List.range len).map f).getD i stk0 = f i := by simp [List.getD, hi']
  rw [hp]
  obtain ⟨b, off, spot⟩ := a
  have hs : spot = none := by
    have h0 := World.cell?_spot (hf 0 (by omega)).1
    simpa [Addr.add] using h0
  subst hs
  rw [Addr.add_lit] at h1 h2
  rw [Addr.add_lit] at h2
  exact ⟨b, off, rfl, h1, h2⟩
theorem open_slk {fuel : Nat} {v : Value} {x : DataW H × List MemPlace} (h : DataW.trod enc Tryz.prog w base spare held fuel 66 [v] = some x) : ∃ l : List Stk, SliceK w v l := by
  rcases open_slice Tryz.underlying66 h with ⟨h1, _⟩ | ⟨a, len, cap, m, n, D, Pl, h1, hb, hl, hm, hmm, _, hx⟩
  · simp at h1
    exact ⟨[], none, 0, h1, fun i hi => by simp at hi, by simp⟩
  · simp at h1
    rw [cellsOfStk] at hx
    have hlm : len ≤ m := by rw [hmm]; split <;> omega
    obtain ⟨l, hll, hc⟩ := open_stks (enc := enc) (spare := spare) (held := held) (w := w) (base := base) (a := a) (len := len) (fun i hi => by
      obtain ⟨cs', h2, h3⟩ := hx i (by omega)
      exact ⟨cs', n, _, h2, h3⟩)
    exact ⟨l, some a, cap, by rw [h1, hll], hc, by rw [hll]; omega⟩
theorem open_stp {fuel : Nat} {cs : List Value} {x : DataW H × List MemPlace} (h : DataW.trod enc Tryz.prog w base spare held fuel 87 cs = some x) : ∃ (v : Value) (y : Stp), cs = [v, .int .i64 y.2] ∧ SliceK w v y.1 := by
  obtain ⟨y0, y1, n, _, hl, h0, h1⟩ := trod_struct2 Tryz.underlying87 h
  rw [cellsOfStp] at hl
  obtain ⟨a, b, rfl⟩ := list2 hl
  rw [cellsOfInt] at h1
  rw [cellsOfSlk] at h0
  obtain ⟨i, e1, _, w0⟩ := DataW.trod_int Tryz.underlying3 h1
  obtain ⟨l, hv⟩ := open_slk (v := a) (by simpa using h0)
  simp at e1
  subst e1
  exact ⟨a, (l, i), rfl, hv⟩
theorem open_stps {a : Addr} {len : Nat} (h : ∀ i, i < len → ∃ cs' n x, w.cells? base (a.add (i * 2)) 2 = some cs' ∧ DataW.trod enc Tryz.prog w base spare held n 87 cs' = some x) : ∃ l : List Stp, l.length = len ∧ CellsP w (some a) l ∧ (0 < len → a.spot = none) := by
  have key : ∀ i, i < len → ∃ y : Value × Stp, w.cell? (a.add (i * 2)) = some y.1 ∧ w.cell? ((a.add (i * 2)).add 1) = some (.int .i64 y.2.2) ∧ SliceK w y.1 y.2.1 := fun i hi => by
    obtain ⟨cs', n, x, h1, h2⟩ := h i hi
    obtain ⟨v, y, rfl, hv⟩ := open_stp h2
    obtain ⟨_, _, hc⟩ := World.cells?_some h1
    have c0 := hc 0 (by omega)
    have c1 := hc 1 (by omega)
    refine ⟨(v, y), ?_, c1, hv⟩
    have e : (a.add (i * 2)).add 0 = a.add (i * 2) := by simp [Addr.add]
    rw [e] at c0
    exact c0
  obtain ⟨f, hf⟩ := choose_lt (α := Value × Stp) key
  have hs : 0 < len → a.spot = none := fun h0 => by
    have h0 := World.cell?_spot (hf 0 h0).1
    simpa [Addr.add] using h0
  refine ⟨(List.range len).map fun i => (f i).2, by simp, fun i hi => ?_, hs⟩
  have hi' : i < len := by simpa using hi
  obtain ⟨h1, h2, h3⟩ := hf i hi'
  have hp : ((List.range len).map fun i => (f i).2).getD i stp0 = (f i).2 := by simp [List.getD, hi']
  rw [hp]
  obtain ⟨b, off, spot⟩ := a
  have hs := hs (by omega)
  dsimp only at hs
  subst hs
  rw [Addr.add_lit] at h1 h2
  rw [Addr.add_lit] at h2
  exact ⟨b, off, _, rfl, h1, h3, h2⟩
theorem open_slp {fuel : Nat} {v : Value} {x : DataW H × List MemPlace} (h : DataW.trod enc Tryz.prog w base spare held fuel 22 [v] = some x) :
    ∃ (l : List Stp) (a : Option Addr) (cap : Nat), v = .slice a l.length cap ∧ CellsP w a l ∧ l.length ≤ maxLen ∧ Room a l.length cap := by
  rcases open_slice Tryz.underlying22 h with ⟨h1, _⟩ | ⟨a, len, cap, m, n, D, Pl, h1, hb, hl, hm, hmm, _, hx⟩
  · simp at h1
    exact ⟨[], none, 0, h1, fun i hi => by simp at hi, by simp, by simp, by simp, fun h0 => by simp at h0⟩
  · simp at h1
    rw [cellsOfStp] at hx
    have hlm : len ≤ m := by rw [hmm]; split <;> omega
    obtain ⟨l, hll, hc, hs⟩ := open_stps (enc := enc) (spare := spare) (held := held) (w := w) (base := base) (a := a) (len := len) (fun i hi => by
      obtain ⟨cs', h2, h3⟩ := hx i (by omega)
      exact ⟨cs', n, _, h2, h3⟩)
    refine ⟨l, some a, cap, by rw [h1, hll], hc, by rw [hll]; omega, by rw [hll]; exact hl, hm, fun h0 => ?_⟩
    obtain ⟨b, off, spot⟩ := a
    have := hs (by omega)
    dsimp only at this
    subst this
    exact ⟨b, off, rfl⟩
set_option maxRecDepth 100000 in
theorem open_seq {r : Reach} {b0 : Nat} {v : Value} {d : DataW H} {p : List MemPlace} (hv : Value.okWide Tryz.prog w r b0 24 v) (h : DataW.Trod enc Tryz.prog w base spare held 24 v d p) :
    ∃ (n : Int) (l : List Stp) (a : Option Addr) (cap : Nat), v = .agg #[.int .i64 n, .slice a l.length cap] ∧ CellsP w a l ∧ l.length ≤ maxLen ∧ Room a l.length cap ∧ (Lit.int .i64 n).wf = true := by
  obtain ⟨c0, c1, y0, y1, n, rfl, _, _, h0, h1⟩ := open_agg2 Tryz.underlying24 (by kernel_rfl) (by kernel_rfl) hv h
  obtain ⟨i, e0, _, w0⟩ := DataW.trod_int Tryz.underlying3 h0
  obtain ⟨l, a, cap, e1, hc, hl, hr⟩ := open_slp h1
  simp at e0
  subst e0; subst e1
  exact ⟨i, l, a, cap, rfl, hc, hl, hr, w0⟩
end
end Go.Proofs.YtnhbogmihnnpjaaGreat
/- Lists of ints as arguments, opened. -/
namespace Go.Proofs.YtnhbogmihnnpjaaGreat
open Go.RowKit Go.ChangeShapes Go.WideShapes Go.Joins Go.Deep

section
variable {H : Type} {enc : TypeId × Value → H} {w : World} {base : Nat} {spare : Nat → Bool} {held : Bool}
theorem open_cellsI {a : Addr} {len : Nat} (h : ∀ i, i < len → ∃ cs' n x, w.cells? base (a.add (i * 1)) 1 = some cs' ∧ DataW.trod enc Tryz.prog w base spare held n 3 cs' = some x) : ∃ l : List Int, l.length = len ∧ CellsI w (some a) l := by
  have key : ∀ i, i < len → ∃ y : Int, w.cell? (a.add (i * 1)) = some (.int .i64 y) := fun i hi => by
    obtain ⟨cs', n, x, h1, h2⟩ := h i hi
    obtain ⟨y, rfl, _, _⟩ := DataW.trod_int Tryz.underlying3 h2
    obtain ⟨_, _, hc⟩ := World.cells?_some h1
    have c0 := hc 0 (by omega)
    refine ⟨y, ?_⟩
    have e : (a.add (i * 1)).add 0 = a.add (i * 1) := by simp [Addr.add]
    rw [e] at c0
    exact c0
  obtain ⟨f, hf⟩ := choose_lt (α := Int) key
  refine ⟨(List.range len).map f, by simp, fun i hi => ?_⟩
  have hi' : i < len := by simpa using hi
  have h1 := hf i hi'
  have hp : ((List.range len).map f).getD i 0 = f i := by simp [List.getD, hi']
  rw [hp]
  obtain ⟨b, off, spot⟩ := a
  have hs : spot = none := by
    have h0 := World.cell?_spot (hf 0 (by omega))
    simpa [Addr.add] using h0
  subst hs
  rw [Addr.add_lit, Nat.mul_one] at h1
  exact ⟨b, off, rfl, h1⟩
set_option maxRecDepth 100000 in
theorem open_ints {r : Reach} {b0 : Nat} {v : Value} {d : DataW H} {p : List MemPlace} (hv : Value.okWide Tryz.prog w r b0 27 v) (h : DataW.Trod enc Tryz.prog w base spare held 27 v d p) :
    ∃ (l : List Int) (a : Option Addr) (cap : Nat), v = .slice a l.length cap ∧ CellsI w a l ∧ l.length ≤ cap ∧ cap ≤ maxLen := by
  have key : v.cells.toList = [v] := by
    simp only [Value.okWide, Tryz.underlying27] at hv
    cases v <;> first | rfl | (simp [Cell.okWide, Cell.ok, Tryz.underlying27] at hv)
  obtain ⟨fuel, hf⟩ := h
  rw [key] at hf
  rcases open_slice Tryz.underlying27 hf with ⟨h1, _⟩ | ⟨a, len, cap, m, n, D, Pl, h1, hb, hl, hm, hmm, _, hx⟩
  · simp at h1
    exact ⟨[], none, 0, h1, fun i hi => by simp at hi, by simp, by simp⟩
  · simp at h1
    rw [cellsOfInt] at hx
    have hlm : len ≤ m := by rw [hmm]; split <;> omega
    obtain ⟨l, hll, hc⟩ := open_cellsI (enc := enc) (spare := spare) (held := held) (w := w) (base := base) (a := a) (len := len) (fun i hi => by
      obtain ⟨cs', h2, h3⟩ := hx i (by omega)
      exact ⟨cs', n, _, h2, h3⟩)
    exact ⟨l, some a, cap, by rw [h1, hll], hc, by rw [hll]; exact hl, hm⟩
set_option maxRecDepth 100000 in
theorem open_u8 {r : Reach} {b0 : Nat} {v : Value} {d : DataW H} {p : List MemPlace} (hv : Value.okWide Tryz.prog w r b0 5 v) (h : DataW.Trod enc Tryz.prog w base spare held 5 v d p) :
    ∃ i : Int, v = .int .u8 i ∧ 0 ≤ i ∧ i ≤ 255 := by
  have key : v.cells.toList = [v] := by
    simp only [Value.okWide, Tryz.underlying5] at hv
    cases v <;> first | rfl | (simp [Cell.okWide, Cell.ok, Tryz.underlying5] at hv)
  obtain ⟨fuel, hf⟩ := h
  rw [key] at hf
  obtain ⟨i, e0, _, w0⟩ := DataW.trod_int Tryz.underlying5 hf
  simp at e0
  refine ⟨i, e0, ?_⟩
  simp [Lit.wf] at w0
  have h1 : IntKind.u8.min = 0 := by decide
  have h2 : IntKind.u8.max = 255 := by decide
  rw [h1, h2] at w0
  exact w0
end
end Go.Proofs.YtnhbogmihnnpjaaGreat
