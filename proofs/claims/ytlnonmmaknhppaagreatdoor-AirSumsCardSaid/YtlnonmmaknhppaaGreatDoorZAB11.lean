/- Steps of the proof: ABor, AAwk. No conditions. -/
import Derived.Test.YtlnonmmaknhppaaGreatDoorZAB1
import Derived.Test.YtlnonmmaknhppaaGreatDoorZAB2
import Derived.Test.YtlnonmmaknhppaaGreatDoorZAB3
import Derived.Test.YtlnonmmaknhppaaGreatDoorZAB4
import Derived.Test.YtlnonmmaknhppaaGreatDoorZAB5
import Derived.Test.YtlnonmmaknhppaaGreatDoorZAB6
import Derived.Test.YtlnonmmaknhppaaGreatDoorZAB7
import Derived.Test.YtlnonmmaknhppaaGreatDoorZAB8
import Derived.Test.YtlnonmmaknhppaaGreatDoorZAB9
import Derived.Test.YtlnonmmaknhppaaGreatDoorZAB10
namespace Go.Proofs.YtlnonmmaknhppaaGreatDoor
open Go.RowKit
open Go.Lib (decDigits itoa)
def lstGo (l : List Int) : Nat → Nat → Nat
  | 0, _ => 0
  | c + 1, k => if l.getD k 0 < 1 then 2 else if 500 < l.getD k 0 then 2 else if 0 < k ∧ l.getD k 0 ≤ l.getD (k - 1) 0 then 9 else lstGo l c (k + 1)
def listE (l : List Int) : Nat := if l.length = 0 then 13 else if 256 < l.length then 5 else lstGo l l.length 0
theorem lstGo_zero {l : List Int} : ∀ c k, lstGo l c k = 0 → ∀ j, k ≤ j → j < k + c → 1 ≤ l.getD j 0 ∧ l.getD j 0 ≤ 500 ∧ (0 < j → l.getD (j - 1) 0 < l.getD j 0) := by
  intro c
  induction c with
  | zero => intro k _ j h1 h2; omega
  | succ c ih =>
    intro k h j h1 h2
    unfold lstGo at h
    split at h
    · cases h
    · split at h
      · cases h
      · split at h
        · cases h
        · rename_i g1 g2 g3
          by_cases e : j = k
          · subst e
            exact ⟨by omega, by omega, fun hj => by
              have : ¬ (l.getD j 0 ≤ l.getD (j - 1) 0) := fun h => g3 ⟨hj, h⟩
              omega⟩
          · exact ih (k + 1) h j (by omega) (by omega)
theorem bores_of {l : List Int} (h : listE l = 0) : Bores l ∧ 0 < l.length ∧ l.length ≤ 256 := by
  unfold listE at h
  split at h
  · cases h
  · split at h
    · cases h
    · rename_i g1 g2
      have hz := lstGo_zero l.length 0 h
      refine ⟨⟨fun k hk => ?_, fun k hk => ?_⟩, by omega, by omega⟩
      · have := hz k (Nat.zero_le _) (by omega)
        exact ⟨this.1, this.2.1⟩
      · have := hz (k + 1) (Nat.zero_le _) (by omega)
        exact this.2.2 (by omega)
def boreX (load : Int) (m : Txt) : Rat := (load : Rat) * fracQ m
def boreE (l : List Int) (load p : Int) (m : Txt) : Nat :=
  if listE l ≠ 0 then listE l else if load < 0 then 2 else if 1000000 < load then 2 else if presB p = true then 2 else if demE m ≠ 0 then demE m else if boreN (boreX load m) p l = l.length then 6 else 0
def boreZ (l : List Int) (load p : Int) (m : Txt) : Int := if boreE l load p m = 0 then l.getD (boreN (boreX load m) p l) 0 else 0
theorem boreN_le {x : Rat} {p : Int} {l : List Int} (h : Bores l) (hp : 0 ≤ p) : boreN x p l ≤ l.length := by
  unfold boreN
  rw [halve_congr (g := atB x p l) l.length 0 l.length (by omega) (fun t ht => (atB_in ht).symm)]
  exact (halve_is (atB_mono h hp) l.length 0 l.length (by omega) (by omega)).2.1
set_option maxHeartbeats 16000000 in
set_option maxRecDepth 100000 in
theorem aBore_any (l : List Int) (a : Option Addr) (cap : Nat) (load p : Int) (m : Txt) (w : World) (hG : Glob w) (hm : m.length ≤ 400) (hc : CellsI w a l) :
    Calls Tryz.prog 14 #[.slice a l.length cap, .int .i64 load, .int .i64 p, txt m] w (IntP (boreZ l load p m) (boreE l load p m) w) := by
  have HG := Lib.hid hG
  have HC := Lib.hid hc
  obtain ⟨R, hR⟩ : ∃ R, R = boreE l load p m := ⟨_, rfl⟩
  obtain ⟨Z, hZ⟩ : ∃ Z, Z = boreZ l load p m := ⟨_, rfl⟩
  unfold IntP
  rw [← hR, ← hZ]
  unfold boreZ at hZ
  rw [← hR] at hZ
  unfold boreE at hR
  have HZ := Lib.hid hZ
  have c1 : (((w.alloc (.cells #[.slice a l.length cap] 22)).alloc (.cells #[.int .i64 p] 3))).cell? ⟨w.heap.size, 0, none⟩ = some (.slice a l.length cap) := by go_simp
  have c2 : (((w.alloc (.cells #[.slice a l.length cap] 22)).alloc (.cells #[.int .i64 p] 3))).cell? ⟨w.heap.size + 1, 0, none⟩ = some (.int .i64 p) := by go_simp
  have E : Ext w ((w.alloc (.cells #[.slice a l.length cap] 22)).alloc (.cells #[.int .i64 p] 3)) := extA
  obtain ⟨bs, hbs⟩ : ∃ bs, bs = w.heap.size := ⟨_, rfl⟩
  rw [← hbs] at c1 c2
  obtain ⟨LE, hLE⟩ : ∃ LE, LE = listE l := ⟨_, rfl⟩
  rw [← hLE] at hR
  have HLE := Lib.hid hLE
  unfold listE at hLE
  clear hZ hG hc
  by_cases h0 : l.length = 0
  · rw [if_pos h0] at hLE
    have HR : Hid (R = 13 ∧ Z = 0) := by
      have h1 : R = 13 := by rw [hR, hLE]; rfl
      exact ⟨h1, by rw [HZ.out, if_neg (by omega)]⟩
    have hz : ((l.length : Int) == 0) = true := by rw [h0]; rfl
    have hz2 : l = [] := List.eq_nil_of_length_eq_zero h0
    subst hz2
    clear hR hLE HLE hz h0
    go_enter Tryz.func14, Tryz.ntmps14
    go_wp2
    go_ret2
    exact ⟨by rw [HR.out.1, HR.out.2]; rfl, E⟩
  rw [if_neg h0] at hLE
  have hz1 : ((l.length : Int) == 0) = false := beq_eq_false_iff_ne.2 (by omega)
  have hz2 : ¬ (l = []) := fun h => h0 (by rw [h]; rfl)
  by_cases h256 : 256 < l.length
  · rw [if_pos h256] at hLE
    have HR : Hid (R = 5 ∧ Z = 0) := by
      have h1 : R = 5 := by rw [hR, hLE]; rfl
      exact ⟨h1, by rw [HZ.out, if_neg (by omega)]⟩
    have hz3 : (256 : Int) < (l.length : Int) := by omega
    clear hR hLE HLE
    go_enter Tryz.func14, Tryz.ntmps14
    go_wp2
    go_ret2
    exact ⟨by rw [HR.out.1, HR.out.2]; rfl, E⟩
  rw [if_neg h256] at hLE
  have hz3 : ¬ (256 : Int) < (l.length : Int) := by omega
  have HRR := Lib.hid hR
  clear hR
  go_enter Tryz.func14, Tryz.ntmps14
  go_wp2
  rw [← hbs]
  have HBS := Lib.hid hbs
  clear hbs
  generalize ((w.alloc (.cells #[.slice a l.length cap] 22)).alloc (.cells #[.int .i64 p] 3)) = W at c1 c2 E ⊢
  have M0 : Hid (LE = lstGo l l.length 0) := hLE
  clear hLE
  go_loopw [26] (fun x wr => ∃ k : Nat, k ≤ l.length ∧ x = .int .i64 k ∧ Hid (LE = lstGo l (l.length - k) k) ∧ Ext W wr) (fun x _ => l.length - (intOf x).toNat)
  case atStart => exact ⟨0, Nat.zero_le _, rfl, M0.out, Ext.refl _⟩
  case round =>
    obtain ⟨k, hk, rfl, hz, he⟩ := hrel
    have c1 := he.cell c1
    have c2 := he.cell c2
    have EE := E.trans he
    by_cases hlt : k < l.length
    · obtain ⟨cb, co, ha, e1⟩ := HC.out.ext EE k hlt
      have h1 := hz.out
      rw [show l.length - k = (l.length - (k + 1)) + 1 by omega] at h1
      unfold lstGo at h1
      obtain ⟨x, hx⟩ : ∃ x, x = l.getD k 0 := ⟨_, rfl⟩
      rw [← hx] at h1 e1
      have zc := cell_lt e1
      have z1 := cell_lt c1
      dsimp only at zc z1
      by_cases hx1 : x < 1
      · rw [if_pos hx1] at h1
        have HR : Hid (R = 2 ∧ Z = 0) := by
          have h2 : R = 2 := by rw [HRR.out, h1]; rfl
          exact ⟨h2, by rw [HZ.out, if_neg (by omega)]⟩
        subst ha
        clear h1 hz hx
        go_wp2
        go_ret2
        exact ⟨by rw [HR.out.1, HR.out.2]; rfl, EE⟩
      rw [if_neg hx1] at h1
      by_cases hx2 : 500 < x
      · rw [if_pos hx2] at h1
        have HR : Hid (R = 2 ∧ Z = 0) := by
          have h2 : R = 2 := by rw [HRR.out, h1]; rfl
          exact ⟨h2, by rw [HZ.out, if_neg (by omega)]⟩
        subst ha
        clear h1 hz hx
        go_wp2
        go_ret2
        exact ⟨by rw [HR.out.1, HR.out.2]; rfl, EE⟩
      rw [if_neg hx2] at h1
      by_cases hk0 : 0 < k
      · have hk1 : (0 : Int) < (k : Int) := by omega
        obtain ⟨cb2, co2, ha2, e2⟩ := HC.out.ext EE (k - 1) (by omega)
        rw [ha] at ha2
        cases ha2
        have u1 : IntKind.i64.wrap ((k : Int) - 1) = ((k - 1 : Nat) : Int) := by rw [IntWalk.i64_in _ (by omega)]; omega
        have hkl : k - 1 < l.length := by omega
        obtain ⟨k1, hkk⟩ : ∃ k1, k1 = k - 1 := ⟨_, rfl⟩
        rw [← hkk] at u1 hkl e2 h1
        obtain ⟨y, hy⟩ : ∃ y, y = l.getD k1 0 := ⟨_, rfl⟩
        rw [← hy] at e2 h1
        have hkl2 : (k1 : Int) < (l.length : Int) := by omega
        subst ha
        by_cases hxy : x ≤ y
        · rw [if_pos ⟨hk0, hxy⟩] at h1
          have HR : Hid (R = 9 ∧ Z = 0) := by
            have h2 : R = 9 := by rw [HRR.out, h1]; rfl
            exact ⟨h2, by rw [HZ.out, if_neg (by omega)]⟩
          clear h1 hz hx hy hkk
          go_wp2
          go_ret2
          exact ⟨by rw [HR.out.1, HR.out.2]; rfl, EE⟩
        · rw [if_neg (fun h => hxy h.2)] at h1
          have H1 := Lib.hid h1
          clear h1 hz hx hy hkk
          go_wp2
          refine ⟨⟨k + 1, by omega, by go_num, H1.out, he⟩, by simp [intOf]; omega⟩
      · have hk1 : ¬ (0 : Int) < (k : Int) := by omega
        rw [if_neg (fun h => hk0 h.1)] at h1
        have H1 := Lib.hid h1
        subst ha
        clear h1 hz hx
        go_wp2
        refine ⟨⟨k + 1, by omega, by go_num, H1.out, he⟩, by simp [intOf]; omega⟩
    · have hke : k = l.length := by omega
      subst hke
      have h1 := hz.out
      rw [Nat.sub_self] at h1
      have h1 : LE = 0 := h1
      have hB := bores_of (HLE.out.symm.trans h1)
      have h2 := HRR.out
      rw [h1, if_neg (not_not_intro rfl)] at h2
      have HH := Lib.hid (And.intro hB h2)
      clear h1 h2 hz hB
      have h2 := HH.out.2
      by_cases hl0 : load < 0
      · rw [if_pos hl0] at h2
        have HR : Hid (R = 2 ∧ Z = 0) := ⟨h2, by rw [HZ.out, if_neg (by omega)]⟩
        clear h2 HH
        go_wp2
        go_ret2
        exact ⟨by rw [HR.out.1, HR.out.2]; rfl, EE⟩
      rw [if_neg hl0] at h2
      by_cases hl1 : 1000000 < load
      · rw [if_pos hl1] at h2
        have HR : Hid (R = 2 ∧ Z = 0) := ⟨h2, by rw [HZ.out, if_neg (by omega)]⟩
        clear h2 HH
        go_wp2
        go_ret2
        exact ⟨by rw [HR.out.1, HR.out.2]; rfl, EE⟩
      rw [if_neg hl1] at h2
      have HPR : Hid (∀ W, Calls Tryz.prog 49 #[.int .i64 p] W fun e w' => e = .returned (.int .i64 (presE1 p : Nat)) ∧ w' = W) := fun W => aPress_any p W
      have hpe : presE1 p = if presB p = true then 2 else 0 := rfl
      rw [hpe] at HPR
      obtain ⟨pz, hpz⟩ : ∃ pz, pz = presB p := ⟨_, rfl⟩
      rw [← hpz] at HPR h2
      clear hpe
      cases pz
      rotate_left
      · rw [if_pos rfl] at h2
        have HR : Hid (R = 2 ∧ Z = 0) := ⟨h2, by rw [HZ.out, if_neg (by omega)]⟩
        clear h2 HH hpz
        go_wp2_with fail
        refine (HPR.out _).mono ?_
        rintro e w5 ⟨rfl, rfl⟩
        go_wp2
        go_ret2
        exact ⟨by rw [HR.out.1, HR.out.2]; rfl, EE⟩
      rw [if_neg (by simp)] at h2
      have hpz2 := hpz.symm
      unfold presB at hpz2
      simp only [Bool.or_eq_false_iff, decide_eq_false_iff_not] at hpz2
      have HDM := Lib.hid (fun W (g : Ext w W) => demand_any load m W (HG.out.ext g) hm (by omega) (by omega))
      have HNG := Lib.hid (fun h => (need_good (load := load) (m := m) h (by omega) (by omega)).2)
      obtain ⟨de, hde⟩ : ∃ de, de = demE m := ⟨_, rfl⟩
      rw [← hde] at HDM h2
      by_cases hd0 : de = 0
      rotate_left
      · rw [if_pos hd0] at h2
        rw [if_neg hd0] at HDM
        have HR : Hid (R = de ∧ Z = 0) := ⟨h2, by rw [HZ.out, if_neg (by omega)]⟩
        have hne : (((de : Nat) : Int) != 0) = true := by rw [bne_iff_ne]; omega
        clear h2 HH hpz hpz2 hde hd0
        go_wp2_with fail
        refine (HPR.out _).mono ?_
        rintro e w5 ⟨rfl, rfl⟩
        go_wp2_with fail
        refine (HDM.out _ EE).mono ?_
        rintro e w6 ⟨rfl, hE⟩
        have EX := EE.trans hE
        clear hE
        go_wp2
        go_ret2
        exact ⟨by rw [HR.out.1, HR.out.2]; rfl, extA⟩
      rw [if_neg (not_not_intro hd0)] at h2
      rw [if_pos hd0] at HDM
      have hng := HNG.out (hde.symm.trans hd0)
      have hB := HH.out.1
      have hbn := boreN_le (x := boreX load m) (p := p) hB.1 (by omega)
      have HSB : Hid (∀ (bb : Nat) W', Ext w W' → W'.cell? ⟨bs, 0, none⟩ = some (.slice a l.length cap) → W'.cell? ⟨bs + 1, 0, none⟩ = some (.int .i64 p) → W'.cell? ⟨bb, 0, none⟩ = some (txt (needT load m)) → Calls Tryz.prog 51 #[.int .i64 l.length, .func (.func 52) #[] #[.pointer (some ⟨bs, 0, none⟩), .pointer (some ⟨bs + 1, 0, none⟩), .pointer (some ⟨bb, 0, none⟩)]] W' fun e w' => e = .returned (.int .i64 ((boreN (boreX load m) p l : Nat) : Int)) ∧ Ext W' w') := fun bb W' g k1 k2 k3 => by
        have hb : ∀ i, (fun k => enoughB (boreX load m) p (l.getD k 0)) i = enoughB (fracQ (needT load m)) p (l.getD i 0) := fun i => by rw [hng.val]; rfl
        refine searchB_any (fun k => enoughB (boreX load m) p (l.getD k 0)) l.length bs (bs + 1) bb W' (by omega) (fun i hi W2 hW2 => ?_)
        rw [show enoughB (boreX load m) p (l.getD i 0) = enoughB (fracQ (needT load m)) p (l.getD i 0) from hb i]
        exact bore1_any l a cap i bs (bs + 1) bb p (needT load m) W2 (HG.out.ext (g.trans hW2)) hi (by omega) (hB.1.range i hi) (by omega) (by omega) hng.ok (HC.out.ext (g.trans hW2)) (hW2.cell k1) (hW2.cell k2) (hW2.cell k3)
      generalize needT load m = nt at HDM HSB
      obtain ⟨bn, hbN⟩ : ∃ bn, bn = boreN (boreX load m) p l := ⟨_, rfl⟩
      have hz := HZ.out
      rw [← hbN] at HSB h2 hbn hz
      have HF := Lib.hid (And.intro h2 hz)
      subst hd0
      have zs := cell_lt c1
      have zp := cell_lt c2
      dsimp only at zs zp
      clear h2 hz hpz hpz2 hde hng hB hbN HH HZ HRR HNG
      go_wp2_with fail
      refine (HPR.out _).mono ?_
      rintro e w5 ⟨rfl, rfl⟩
      go_wp2_with fail
      refine (HDM.out _ EE).mono ?_
      rintro e w6 ⟨rfl, hE⟩
      have c1 := hE.cell c1
      have c2 := hE.cell c2
      have EF := EE.trans hE
      have zs := cell_lt c1
      have zp := cell_lt c2
      dsimp only at zs zp
      clear hE
      go_wp2_with fail
      have E7 : Ext w6 (w6.alloc (.cells #[txt nt] 23)) := extA
      have c3 : ((w6.alloc (.cells #[txt nt] 23))).cell? ⟨w6.heap.size, 0, none⟩ = some (txt nt) := by go_simp
      refine (HSB.out _ _ (EF.trans E7) (E7.cell c1) (E7.cell c2) c3).mono ?_
      rintro e w7 ⟨rfl, hE7⟩
      have EG := EF.trans (E7.trans hE7)
      have c1 := hE7.cell (E7.cell c1)
      have zs := cell_lt c1
      dsimp only at zs
      clear c2 c3 zp hE7 E7
      by_cases hb : bn = l.length
      · have h8 := HF.out.1
        rw [if_pos hb] at h8
        have HR : Hid (R = 6 ∧ Z = 0) := ⟨h8, HF.out.2.trans (if_neg (by omega))⟩
        have hbe : ((bn : Int) == (l.length : Int)) = true := by rw [hb]; simp
        clear h8 HF
        subst hb
        go_wp2
        go_ret2
        exact ⟨by rw [HR.out.1, HR.out.2]; rfl, EG⟩
      · have h8 := HF.out.1
        rw [if_neg hb] at h8
        have HR : Hid (R = 0 ∧ Z = l.getD bn 0) := ⟨h8, HF.out.2.trans (if_pos h8)⟩
        have hbe : ((bn : Int) == (l.length : Int)) = false := beq_eq_false_iff_ne.2 (by omega)
        have hbl : bn < l.length := by omega
        obtain ⟨cb, co, ha, e1⟩ := HC.out.ext EG bn hbl
        subst ha
        generalize l.getD bn 0 = x at e1 HR
        have ze := cell_lt e1
        dsimp only at ze
        have hbl2 : (bn : Int) < (l.length : Int) := by omega
        clear h8 HF
        go_wp2
        go_ret2
        exact ⟨by rw [HR.out.1, HR.out.2]; rfl, EG⟩
end Go.Proofs.YtlnonmmaknhppaaGreatDoor
namespace Go.Proofs.YtlnonmmaknhppaaGreatDoor
open Go.RowKit
open Go.Lib (decDigits itoa)
theorem ex_bores : listE [12, 16, 20, 25] = 0 ∧ demE [51, 47, 50] = 0 := by decide +kernel
theorem ex_boreE : boreE [12, 16, 20, 25] 100 600 [51, 47, 50] = 0 ∧ boreZ [12, 16, 20, 25] 100 600 [51, 47, 50] = 20 := by
  have hx : boreN (boreX 100 [51, 47, 50]) 600 [12, 16, 20, 25] = 2 := by decide +kernel
  have h1 : boreE [12, 16, 20, 25] 100 600 [51, 47, 50] = 0 := by
    unfold boreE
    rw [if_neg (not_not_intro ex_bores.1), if_neg (by omega), if_neg (by omega), if_neg (by decide), if_neg (not_not_intro ex_bores.2), hx, if_neg (by decide)]
  refine ⟨h1, ?_⟩
  unfold boreZ
  rw [if_pos h1, hx]
  rfl
structure CylAt (b : Nat) (W : World) (x y z : Int) : Prop where
  c0 : W.cell? ⟨b, 0, none⟩ = some (.int .i64 x)
  c1 : W.cell? ⟨b, 1, none⟩ = some (.int .i64 y)
  c2 : W.cell? ⟨b, 2, none⟩ = some (.int .i64 z)
theorem CylAt.ext {b : Nat} {A B : World} {x y z : Int} (h : CylAt b A x y z) (e : Ext A B) : CylAt b B x y z := ⟨e.cell h.c0, e.cell h.c1, e.cell h.c2⟩
theorem sent_any (c : Cyl) (w : World) : Calls Tryz.prog 24 #[cylV c] w fun e w' => e = .returned (cylV c) ∧ Ext w w' := by
  obtain ⟨b, r, s⟩ := c
  dsimp only [cylV]
  go_enter Tryz.func24, Tryz.ntmps24
  go_wp2
  refine bodyPost_ret (v := .agg #[.int .i64 b, .int .i64 r, .int .i64 s]) (by rw [results_cell1 rfl]; go_simp) rfl ?_
  exact ⟨rfl, extA⟩
theorem cells4_new (w : World) (x y z u : Int) (t : TypeId) : CellsI (w.alloc (.cells #[.int .i64 x, .int .i64 y, .int .i64 z, .int .i64 u] t)) (some ⟨w.heap.size, 0, none⟩) [x, y, z, u] := fun i hi => by
  have : i = 0 ∨ i = 1 ∨ i = 2 ∨ i = 3 := by simp at hi; omega
  rcases this with rfl | rfl | rfl | rfl <;> exact ⟨w.heap.size, 0, rfl, by rw [World.cell?_alloc_new]; rfl⟩
set_option maxHeartbeats 16000000 in
set_option maxRecDepth 100000 in
theorem awake5_any (w : World) (hG : Glob w) : Calls Tryz.prog 13 #[] w fun e w' => e = .returned (.bool true) ∧ Ext w w' := by
  have HG := Lib.hid hG
  have X1 := Lib.hid (fun W (g : Ext w W) => aArea_any exC true W (HG.out.ext g))
  have X2 := Lib.hid (fun W (g : Ext w W) => aArea_any exC false W (HG.out.ext g))
  have X3 := Lib.hid (fun W (g : Ext w W) => aForce_any exC true 600 W (HG.out.ext g))
  have X4 := Lib.hid (fun W a cap (g : Ext w W) hc => aBore_any [12, 16, 20, 25] a cap 100 600 [51, 47, 50] W (HG.out.ext g) (by decide) hc)
  have X5 := Lib.hid (fun W (g : Ext w W) => aReceiver_any ([50], [50]) 600 499 W (HG.out.ext g) ⟨by decide, by decide⟩)
  have e1 : areaS exC true = (faceT exC true, 0) := by unfold areaS; rw [if_neg (not_not_intro ex_ok.1)]
  have e2 : areaS exC false = (faceT exC false, 0) := by unfold areaS; rw [if_neg (not_not_intro ex_ok.1)]
  have e3 : forceS exC true 600 = (forceT exC true 600, 0) := by unfold forceS; rw [if_neg (not_not_intro ex_ok.2)]
  rw [e1, ex_area] at X1
  rw [e2, ex_back] at X2
  rw [e3, ex_force] at X3
  rw [ex_boreE.1, ex_boreE.2] at X4
  rw [ex_rec.1, ex_rec.2] at X5
  have hl4 : ([12, 16, 20, 25] : List Int).length = 4 := rfl
  rw [hl4] at X4
  clear hl4
  obtain ⟨a1, ha1⟩ : ∃ x, x = ([50, 50, 51, 48, 48, 47, 55, 49] : Txt) := ⟨_, rfl⟩
  obtain ⟨a2, ha2⟩ : ∃ x, x = ([50, 50, 48, 48, 47, 55] : Txt) := ⟨_, rfl⟩
  obtain ⟨b1, hb1⟩ : ∃ x, x = ([49, 56, 55, 51, 50, 47, 55, 49] : Txt) := ⟨_, rfl⟩
  obtain ⟨b2, hb2⟩ : ∃ x, x = ([50, 54, 52] : Txt) := ⟨_, rfl⟩
  obtain ⟨d1, hd1⟩ : ∃ x, x = ([49, 51, 51, 56, 48, 47, 55, 49] : Txt) := ⟨_, rfl⟩
  obtain ⟨d2, hd2⟩ : ∃ x, x = ([49, 51, 50, 48, 47, 55] : Txt) := ⟨_, rfl⟩
  rw [← ha1, ← ha2] at X1
  rw [← hb1, ← hb2] at X2
  rw [← hd1, ← hd2] at X3
  have HT := Lib.hid (And.intro (And.intro ha1 ha2) (And.intro (And.intro hb1 hb2) (And.intro hd1 hd2)))
  unfold EncP at X1 X2 X3
  unfold IntP at X4 X5
  dsimp only [encV, cylV, exC] at X1 X2 X3 X5
  clear e1 e2 e3 hG ha1 ha2 hb1 hb2 hd1 hd2
  have C : CylAt w.heap.size (w.alloc (.cells #[.int .i64 20, .int .i64 8, .int .i64 100] 49)) 20 8 100 := ⟨by go_simp, by go_simp, by go_simp⟩
  have E : Ext w (w.alloc (.cells #[.int .i64 20, .int .i64 8, .int .i64 100] 49)) := extA
  go_enter Tryz.func13, Tryz.ntmps13
  go_wp2_with fail
  generalize (w.alloc (.cells #[.int .i64 20, .int .i64 8, .int .i64 100] 49)) = w0 at C E ⊢
  have v0 : IntKind.i64.wrap 0 = 0 := rfl
  refine (X1.out _ E).mono ?_
  rintro e w1 ⟨rfl, hE⟩
  replace E := E.trans hE
  replace C := C.ext hE
  clear hE
  have C' := C
  obtain ⟨c0, c1, c2⟩ := C'
  have zc := cell_lt c0
  dsimp only at zc
  go_wp2_with fail
  clear c0 c1 c2 zc
  have A : EncAt w1.heap.size (w1.alloc (.cells #[txt a1, txt a2] 35)) a1 a2 := ⟨by go_simp, by go_simp, by go_simp, by go_simp⟩
  have EA : Ext w1 (w1.alloc (.cells #[txt a1, txt a2] 35)) := extA
  replace C := C.ext EA
  replace E := E.trans EA
  clear EA
  obtain ⟨kA, hkA⟩ : ∃ k, k = w1.heap.size := ⟨_, rfl⟩
  rw [← hkA] at A ⊢
  clear hkA
  generalize (w1.alloc (.cells #[txt a1, txt a2] 35)) = w2 at C A E ⊢
  refine (X2.out _ E).mono ?_
  rintro e w3 ⟨rfl, hE⟩
  replace E := E.trans hE
  replace C := C.ext hE
  replace A := A.ext hE
  clear hE
  have C' := C
  obtain ⟨c0, c1, c2⟩ := C'
  have zc := cell_lt c0
  dsimp only at zc
  go_wp2_with fail
  clear c0 c1 c2 zc
  have B : EncAt w3.heap.size (w3.alloc (.cells #[txt b1, txt b2] 35)) b1 b2 := ⟨by go_simp, by go_simp, by go_simp, by go_simp⟩
  have EA : Ext w3 (w3.alloc (.cells #[txt b1, txt b2] 35)) := extA
  replace C := C.ext EA
  replace A := A.ext EA
  replace E := E.trans EA
  clear EA
  obtain ⟨kB, hkB⟩ : ∃ k, k = w3.heap.size := ⟨_, rfl⟩
  rw [← hkB] at B ⊢
  clear hkB
  generalize (w3.alloc (.cells #[txt b1, txt b2] 35)) = w4 at C A B E ⊢
  refine (X3.out _ E).mono ?_
  rintro e w5 ⟨rfl, hE⟩
  replace E := E.trans hE
  replace C := C.ext hE
  replace A := A.ext hE
  replace B := B.ext hE
  clear hE
  have C' := C
  obtain ⟨c0, c1, c2⟩ := C'
  have zc := cell_lt c0
  dsimp only at zc
  go_wp2_with fail
  clear c0 c1 c2 zc
  have D : EncAt w5.heap.size (w5.alloc (.cells #[txt d1, txt d2] 35)) d1 d2 := ⟨by go_simp, by go_simp, by go_simp, by go_simp⟩
  have EA : Ext w5 (w5.alloc (.cells #[txt d1, txt d2] 35)) := extA
  replace C := C.ext EA
  replace A := A.ext EA
  replace B := B.ext EA
  replace E := E.trans EA
  clear EA
  have hz6 : (w5.alloc (.cells #[txt d1, txt d2] 35)).heap.size = w5.heap.size + 1 := Array.size_push _
  obtain ⟨kD, hkD⟩ : ∃ k, k = w5.heap.size := ⟨_, rfl⟩
  rw [← hkD] at D hz6 ⊢
  clear hkD
  generalize (w5.alloc (.cells #[txt d1, txt d2] 35)) = w6 at C A B D E hz6 ⊢
  have CI := Lib.hid (cells4_new w6 12 16 20 25 3)
  rw [hz6] at CI
  clear hz6
  have E4 : Ext w6 (w6.alloc (.cells #[.int .i64 12, .int .i64 16, .int .i64 20, .int .i64 25] 3)) := extA
  replace A := A.ext E4
  replace B := B.ext E4
  replace C := C.ext E4
  replace D := D.ext E4
  replace E := E.trans E4
  clear E4
  generalize (w6.alloc (.cells #[.int .i64 12, .int .i64 16, .int .i64 20, .int .i64 25] 3)) = w7 at A B C D E CI ⊢
  refine (X4.out _ _ 4 E CI.out).mono ?_
  rintro e w8 ⟨rfl, hE⟩
  replace E := E.trans hE
  replace C := C.ext hE
  replace A := A.ext hE
  replace B := B.ext hE
  replace D := D.ext hE
  clear hE
  clear CI
  go_wp2_with fail
  refine (X5.out _ E).mono ?_
  rintro e w9 ⟨rfl, hE⟩
  replace E := E.trans hE
  replace C := C.ext hE
  replace A := A.ext hE
  replace B := B.ext hE
  replace D := D.ext hE
  clear hE
  obtain ⟨⟨rfl, rfl⟩, ⟨rfl, rfl⟩, rfl, rfl⟩ := HT.out
  obtain ⟨a0, a1, a2, a3⟩ := A
  obtain ⟨b0, b1, b2, b3⟩ := B
  obtain ⟨d0, d1, d2, d3⟩ := D
  have z0 := cell_lt a0
  have z1 := cell_lt b0
  have z2 := cell_lt d0
  dsimp only at z0 z1 z2
  go_wp2
  go_ret
  exact ⟨rfl, E⟩
end Go.Proofs.YtlnonmmaknhppaaGreatDoor
