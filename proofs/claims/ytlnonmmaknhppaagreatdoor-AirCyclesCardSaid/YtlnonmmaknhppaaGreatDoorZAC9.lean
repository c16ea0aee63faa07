/- Steps of the proof: AChk, ATim, AFac, AApi, AFaR, AFaS, ASea, ARec, UOwn, ABo1, FPrtF, ADem, ABor, AAwk. No conditions. -/
import Derived.Test.YtlnonmmaknhppaaGreatDoorZAC1
import Derived.Test.YtlnonmmaknhppaaGreatDoorZAC2
import Derived.Test.YtlnonmmaknhppaaGreatDoorZAC3
import Derived.Test.YtlnonmmaknhppaaGreatDoorZAC4
import Derived.Test.YtlnonmmaknhppaaGreatDoorZAC5
import Derived.Test.YtlnonmmaknhppaaGreatDoorZAC6
import Derived.Test.YtlnonmmaknhppaaGreatDoorZAC7
import Derived.Test.YtlnonmmaknhppaaGreatDoorZAC8
namespace Go.Proofs.YtlnonmmaknhppaaGreatDoor
open Go.RowKit
def cylV (c : Cyl) : Value := .agg #[.int .i64 c.bore, .int .i64 c.rod, .int .i64 c.stroke]
theorem cylE_yes {c : Cyl} (h : cylB c = true) : cylE c = 2 := by unfold cylE; rw [if_pos h]
theorem cylE_no {c : Cyl} (h : cylB c = false) : cylE c = 0 := by unfold cylE; rw [if_neg (by rw [h]; simp)]
set_option maxHeartbeats 4000000 in
theorem aCheck_any (c : Cyl) (w : World) : Calls Tryz.prog 28 #[cylV c] w fun e w' => e = .returned (.int .i64 (cylE c : Nat)) ∧ Ext w w' := by
  obtain ⟨b, r, s⟩ := c
  obtain ⟨q, hq⟩ : ∃ q, q = cylE ⟨b, r, s⟩ := ⟨_, rfl⟩
  rw [← hq]
  dsimp only [cylV]
  have E : Ext w (w.alloc (.cells #[.int .i64 b, .int .i64 r, .int .i64 s] 49)) := extA
  by_cases h0 : b < 1
  · have H : Hid (q = 2) := by show _ = _; rw [hq]; exact cylE_yes (by unfold cylB; simp [h0])
    clear hq
    go_enter Tryz.func28, Tryz.ntmps28
    go_wp2
    go_ret
    exact ⟨by rw [H.out]; rfl, E⟩
  by_cases h1 : 500 < b
  · have H : Hid (q = 2) := by show _ = _; rw [hq]; exact cylE_yes (by unfold cylB; simp [h1])
    clear hq
    go_enter Tryz.func28, Tryz.ntmps28
    go_wp2
    go_ret
    exact ⟨by rw [H.out]; rfl, E⟩
  by_cases h2 : r < 0
  · have H : Hid (q = 2) := by show _ = _; rw [hq]; exact cylE_yes (by unfold cylB; simp [h2])
    clear hq
    go_enter Tryz.func28, Tryz.ntmps28
    go_wp2
    go_ret
    exact ⟨by rw [H.out]; rfl, E⟩
  by_cases h3 : b ≤ r
  · have H : Hid (q = 2) := by show _ = _; rw [hq]; exact cylE_yes (by unfold cylB; simp [h3])
    clear hq
    go_enter Tryz.func28, Tryz.ntmps28
    go_wp2
    go_ret
    exact ⟨by rw [H.out]; rfl, E⟩
  by_cases h4 : s < 1
  · have H : Hid (q = 2) := by show _ = _; rw [hq]; exact cylE_yes (by unfold cylB; simp [h4])
    clear hq
    go_enter Tryz.func28, Tryz.ntmps28
    go_wp2
    go_ret
    exact ⟨by rw [H.out]; rfl, E⟩
  by_cases h5 : 3000 < s
  · have H : Hid (q = 2) := by show _ = _; rw [hq]; exact cylE_yes (by unfold cylB; simp [h5])
    clear hq
    go_enter Tryz.func28, Tryz.ntmps28
    go_wp2
    go_ret
    exact ⟨by rw [H.out]; rfl, E⟩
  have H : Hid (q = 0) := by show _ = _; rw [hq]; exact cylE_no (by unfold cylB; simp [h0, h1, h2, h3, h4, h5])
  clear hq
  go_enter Tryz.func28, Tryz.ntmps28
  go_wp2
  go_ret
  exact ⟨by rw [H.out]; rfl, E⟩
def presE1 (p : Int) : Nat := if presB p = true then 2 else 0
theorem aPress_any (p : Int) (w : World) : Calls Tryz.prog 49 #[.int .i64 p] w fun e w' => e = .returned (.int .i64 (presE1 p : Nat)) ∧ w' = w := by
  obtain ⟨q, hq⟩ : ∃ q, q = presE1 p := ⟨_, rfl⟩
  rw [← hq]
  unfold presE1 presB at hq
  by_cases h0 : p < 1
  · have H : Hid (q = 2) := by show _ = _; rw [hq]; simp [h0]
    clear hq
    go_enter Tryz.func49, Tryz.ntmps49
    go_wp2
    go_ret
    exact ⟨by rw [H.out]; rfl, rfl⟩
  by_cases h1 : 2000 < p
  · have H : Hid (q = 2) := by show _ = _; rw [hq]; simp [h1]
    clear hq
    go_enter Tryz.func49, Tryz.ntmps49
    go_wp2
    go_ret
    exact ⟨by rw [H.out]; rfl, rfl⟩
  have H : Hid (q = 0) := by show _ = _; rw [hq]; simp [h0, h1]
  clear hq
  go_enter Tryz.func49, Tryz.ntmps49
  go_wp2
  go_ret
  exact ⟨by rw [H.out]; rfl, rfl⟩
theorem presE_two (c : Cyl) (p : Int) : presE c p = if cylE c ≠ 0 then cylE c else presE1 p := rfl
set_option maxHeartbeats 4000000 in
theorem aChecked_any (c : Cyl) (p : Int) (w : World) : Calls Tryz.prog 76 #[cylV c, .int .i64 p] w fun e w' => e = .returned (.int .i64 (presE c p : Nat)) ∧ Ext w w' := by
  have HC := Lib.hid (fun W => aCheck_any c W)
  have HP := Lib.hid (fun W => aPress_any p W)
  rw [presE_two]
  obtain ⟨b, r, s⟩ := c
  generalize cylE ⟨b, r, s⟩ = n at HC ⊢
  generalize presE1 p = m at HP ⊢
  dsimp only [cylV] at HC ⊢
  obtain ⟨q, hq⟩ : ∃ q, q = (if n ≠ 0 then n else m) := ⟨_, rfl⟩
  rw [← hq]
  have E : Ext w (w.alloc (.cells #[.int .i64 b, .int .i64 r, .int .i64 s] 49)) := extA
  by_cases hn : n = 0
  · subst hn
    have H : Hid (q = m) := hq
    clear hq
    go_enter Tryz.func76, Tryz.ntmps76
    go_wp2_with fail
    refine (HC.out _).mono ?_
    rintro e w1 ⟨rfl, hE⟩
    go_wp2_with fail
    refine (HP.out _).mono ?_
    rintro e w2 ⟨rfl, rfl⟩
    go_wp2
    go_ret
    exact ⟨by rw [H.out]; rfl, E.trans hE⟩
  · have H : Hid (q = n) := by show _ = _; rw [hq, if_pos hn]
    have hne : (((n : Nat) : Int) != 0) = true := by rw [bne_iff_ne]; omega
    clear hq hn
    go_enter Tryz.func76, Tryz.ntmps76
    go_wp2_with fail
    refine (HC.out _).mono ?_
    rintro e w1 ⟨rfl, hE⟩
    go_wp2
    go_ret
    exact ⟨by rw [H.out]; rfl, E.trans hE⟩
def inB (n l h : Int) : Bool := decide (l ≤ n) && decide (n ≤ h)
theorem in5_any (n l h : Int) (w : World) : Calls Tryz.prog 55 #[.int .i64 n, .int .i64 l, .int .i64 h] w fun e w' => e = .returned (.bool (inB n l h)) ∧ w' = w := by
  obtain ⟨q, hq⟩ : ∃ q, q = inB n l h := ⟨_, rfl⟩
  rw [← hq]
  unfold inB at hq
  by_cases h0 : l ≤ n
  · have H : Hid (q = decide (n ≤ h)) := by show _ = _; rw [hq]; simp [h0]
    clear hq
    by_cases h1 : n ≤ h
    · have H : Hid (q = true) := by show _ = _; rw [H.out]; simp [h1]
      go_enter Tryz.func55, Tryz.ntmps55
      go_wp2
      go_ret
      exact ⟨by rw [H.out]; rfl, rfl⟩
    · have H : Hid (q = false) := by show _ = _; rw [H.out]; simp [h1]
      go_enter Tryz.func55, Tryz.ntmps55
      go_wp2
      go_ret
      exact ⟨by rw [H.out]; rfl, rfl⟩
  · have H : Hid (q = false) := by show _ = _; rw [hq]; simp [h0]
    clear hq
    go_enter Tryz.func55, Tryz.ntmps55
    go_wp2
    go_ret
    exact ⟨by rw [H.out]; rfl, rfl⟩
theorem cylB_in (b r s : Int) : cylB ⟨b, r, s⟩ = (!inB b 1 500 || !inB r 0 (b - 1) || !inB s 1 3000) := by
  unfold cylB inB
  rw [Bool.eq_iff_iff]
  simp only [Bool.or_eq_true, Bool.not_eq_true', Bool.and_eq_false_iff, decide_eq_true_eq, decide_eq_false_iff_not]
  omega
set_option maxHeartbeats 4000000 in
theorem rCheck5_any (c : Cyl) (w : World) (hb : -9223372036854775808 ≤ c.bore ∧ c.bore ≤ 9223372036854775807) : Calls Tryz.prog 29 #[cylV c] w fun e w' => e = .returned (.int .i64 (cylE c : Nat)) ∧ Ext w w' := by
  obtain ⟨b, r, s⟩ := c
  dsimp only at hb
  have H1 := Lib.hid (fun W => in5_any b 1 500 W)
  have H2 := Lib.hid (fun W => in5_any r 0 (b - 1) W)
  have H3 := Lib.hid (fun W => in5_any s 1 3000 W)
  have hcb := cylB_in b r s
  have hbo : inB b 1 500 = true → IntKind.i64.wrap (b - 1) = b - 1 := fun h => by
    unfold inB at h
    rw [Bool.and_eq_true, decide_eq_true_eq, decide_eq_true_eq] at h
    exact IntWalk.i64_in _ (by omega)
  obtain ⟨q, hq⟩ : ∃ q, q = cylE ⟨b, r, s⟩ := ⟨_, rfl⟩
  rw [← hq]
  unfold cylE at hq
  rw [hcb] at hq
  generalize inB b 1 500 = i1 at H1 hq hbo
  generalize inB r 0 (b - 1) = i2 at H2 hq
  generalize inB s 1 3000 = i3 at H3 hq
  dsimp only [cylV]
  have E : Ext w (w.alloc (.cells #[.int .i64 b, .int .i64 r, .int .i64 s] 46)) := extA
  have c0 : ((w.alloc (.cells #[.int .i64 b, .int .i64 r, .int .i64 s] 46))).cell? ⟨w.heap.size, 0, none⟩ = some (.int .i64 b) := by go_simp
  clear hcb hb
  cases i1
  · have H : Hid (q = 2) := hq
    clear hq hbo
    go_enter Tryz.func29, Tryz.ntmps29
    go_wp2_with fail
    refine (H1.out _).mono ?_
    rintro e w1 ⟨rfl, rfl⟩
    go_wp2
    go_ret
    exact ⟨by rw [H.out]; rfl, E⟩
  have hw := hbo rfl
  clear hbo
  cases i2
  · have H : Hid (q = 2) := hq
    clear hq
    go_enter Tryz.func29, Tryz.ntmps29
    go_wp2_with fail
    refine (H1.out _).mono ?_
    rintro e w1 ⟨rfl, rfl⟩
    go_wp2_with fail
    refine (H2.out _).mono ?_
    rintro e w2 ⟨rfl, rfl⟩
    go_wp2
    go_ret
    exact ⟨by rw [H.out]; rfl, E⟩
  cases i3
  all_goals
    have H := Lib.hid hq
    clear hq
    go_enter Tryz.func29, Tryz.ntmps29
    go_wp2_with fail
    refine (H1.out _).mono ?_
    rintro e w1 ⟨rfl, rfl⟩
    go_wp2_with fail
    refine (H2.out _).mono ?_
    rintro e w2 ⟨rfl, rfl⟩
    go_wp2_with fail
    refine (H3.out _).mono ?_
    rintro e w3 ⟨rfl, rfl⟩
    go_wp2
    go_ret
    exact ⟨by rw [H.out]; rfl, E⟩
end Go.Proofs.YtlnonmmaknhppaaGreatDoor
namespace Go.Proofs.YtlnonmmaknhppaaGreatDoor
open Go.RowKit
open Go.Lib (decDigits itoa)
structure QOk (x : Int × Int) : Prop where
  n0 : 0 ≤ x.1
  n1 : x.1 < 10 ^ 18
  d0 : 0 < x.2
  d1 : x.2 < 10 ^ 18
def quoT (x : Int × Int) : Txt := fracT ((x.1 : Rat) / (x.2 : Rat))
theorem QOk.is {x : Int × Int} (h : QOk x) : makeR (itoa x.1) (itoa x.2) = (quoT x, 0) ∧ (quoT x).length ≤ 400 ∧ pointE (quoT x) = ((quoT x, quoT x), 0) ∧ quoS x.1 x.2 = ((quoT x, quoT x), 0) := by
  have h1 := h.n0
  have h2 := h.n1
  have h3 := h.d0
  have h4 := h.d1
  obtain ⟨g1, g2⟩ := quo_good (n := x.1) (d := x.2) (K := 18) h3 (by omega) (by omega) (by omega)
  refine ⟨g1, g2.len, g2.point.1, ?_⟩
  unfold quoS quoT
  rw [g1, if_neg (by simp), g2.point.1]
theorem times_cons {a : Enc} {x : Int × Int} {l : List (Int × Int)} (h : QOk x) : timesE a (x :: l) = if (mulE a (quoT x, quoT x)).2 ≠ 0 then badEnc (mulE a (quoT x, quoT x)).2 else timesE (mulE a (quoT x, quoT x)).1 l := by
  conv => lhs; unfold timesE
  rw [h.is.2.2.2, if_neg (by simp)]
set_option maxHeartbeats 4000000 in
set_option maxRecDepth 100000 in
theorem enclosed_any (n d : Int) (w : World) (hG : Glob w) (h : QOk (n, d)) : Calls Tryz.prog 121 #[.agg #[.int .i64 n, .int .i64 d]] w (EncP ((quoT (n, d), quoT (n, d)), 0) w) := by
  obtain ⟨h1, h2, h3, _⟩ := h.is
  have k1 := h.n0
  have k2 := h.n1
  have k3 := h.d0
  have k4 := h.d1
  dsimp only at h1 k1 k2 k3 k4
  have HO := Lib.hid (fun W (g : Ext w W) => of_any n d W (hG.ext g) (by omega) (by omega) (by omega) (by omega))
  rw [h1] at HO
  have HP := Lib.hid (fun W (g : Ext w W) => ePoint_any (quoT (n, d)) W (hG.ext g) h2)
  rw [h3] at HP
  clear h1 h2 h3 h k1 k2 k3 k4 hG
  generalize quoT (n, d) = t at HO HP ⊢
  unfold EncP at HP ⊢
  unfold ResP at HO
  dsimp only [encV] at HP ⊢
  have X : EncAt (w.heap.size + 1) ((w.alloc (.cells #[.int .i64 n, .int .i64 d] 90)).alloc (.cells #[.string ⟨#[]⟩, .string ⟨#[]⟩] 35)) [] [] := ⟨by go_simp, by go_simp, by go_simp, by go_simp⟩
  have E : Ext w ((w.alloc (.cells #[.int .i64 n, .int .i64 d] 90)).alloc (.cells #[.string ⟨#[]⟩, .string ⟨#[]⟩] 35)) := extA
  go_enter Tryz.func121, Tryz.ntmps121
  go_wp2_with fail
  generalize ((w.alloc (.cells #[.int .i64 n, .int .i64 d] 90)).alloc (.cells #[.string ⟨#[]⟩, .string ⟨#[]⟩] 35)) = w0 at X E ⊢
  refine (HO.out _ E).mono ?_
  rintro e w1 ⟨rfl, hE⟩
  replace X := X.ext hE
  replace E := E.trans hE
  clear hE
  go_wp2_with fail
  refine (HP.out _ E).mono ?_
  rintro e w2 ⟨rfl, hE⟩
  obtain ⟨d0, d1, g0, g1⟩ := X.ext hE
  replace E := E.trans hE
  clear hE X
  go_wp2
  refine bodyPost_ret (v := .tuple #[.agg #[txt t, txt t], .int .i64 0]) (by rw [results_cell_tmp1 rfl]; go_simp) rfl ?_
  exact ⟨rfl, extA⟩
theorem drop_consA {α : Type} (l : List α) (d : α) {k : Nat} (h : k < l.length) : l.drop k = l.getD k d :: l.drop (k + 1) := by
  rw [List.getD_eq_getElem?_getD, List.getElem?_eq_getElem h]; exact List.drop_eq_getElem_cons h
theorem getD_inA {α : Type} {l : List α} {d : α} {k : Nat} (h : k < l.length) : l.getD k d ∈ l := by
  rw [List.getD_eq_getElem?_getD, List.getElem?_eq_getElem h]; exact List.getElem_mem h
def CellsQt (w : World) (a : Option Addr) (l : List (Int × Int)) : Prop := ∀ i, i < l.length → ∃ b off, a = some ⟨b, off, none⟩ ∧ w.cell? ⟨b, off + i * 2, none⟩ = some (.int .i64 (l.getD i (0, 1)).1) ∧ w.cell? ⟨b, off + i * 2 + 1, none⟩ = some (.int .i64 (l.getD i (0, 1)).2)
theorem CellsQt.ext {A B : World} {a : Option Addr} {l : List (Int × Int)} (h : CellsQt A a l) (e : Ext A B) : CellsQt B a l := fun i hi => by
  obtain ⟨b, off, h1, h2, h3⟩ := h i hi
  exact ⟨b, off, h1, e.cell h2, e.cell h3⟩
set_option maxHeartbeats 8000000 in
set_option maxRecDepth 100000 in
theorem aTimes_any (a : Enc) (l : List (Int × Int)) (qa : Option Addr) (qc : Nat) (w : World) (hG : Glob w) (hl : LenE a) (hc : CellsQt w qa l) (hq : ∀ x ∈ l, QOk x) (h9 : l.length ≤ 9) :
    Calls Tryz.prog 80 #[encV a, .slice qa l.length qc] w (EncP (timesE a l) w) := by
  have HC := Lib.hid hc
  have HQ := Lib.hid hq
  have HG := Lib.hid hG
  obtain ⟨R, hR⟩ : ∃ R, R = timesE a l := ⟨_, rfl⟩
  rw [← hR]
  unfold EncP
  have HR := Lib.hid hR
  have HLA := Lib.hid hl
  clear hc hq hG hR hl
  obtain ⟨t, u⟩ := a
  dsimp only [encV]
  have A : EncAt w.heap.size ((w.alloc (.cells #[txt t, txt u] 35)).alloc (.cells #[.string ⟨#[]⟩, .string ⟨#[]⟩] 35)) t u := ⟨by go_simp, by go_simp, by go_simp, by go_simp⟩
  have X : EncAt (w.heap.size + 1) ((w.alloc (.cells #[txt t, txt u] 35)).alloc (.cells #[.string ⟨#[]⟩, .string ⟨#[]⟩] 35)) [] [] := ⟨by go_simp, by go_simp, by go_simp, by go_simp⟩
  have E : Ext w ((w.alloc (.cells #[txt t, txt u] 35)).alloc (.cells #[.string ⟨#[]⟩, .string ⟨#[]⟩] 35)) := extA
  go_enter Tryz.func80, Tryz.ntmps80
  go_wp2_with fail
  generalize ((w.alloc (.cells #[txt t, txt u] 35)).alloc (.cells #[.string ⟨#[]⟩, .string ⟨#[]⟩] 35)) = w0 at A X E ⊢
  go_loopw [12] (fun x wr => ∃ (k : Nat) (p q : Txt), k ≤ l.length ∧ x = .int .i64 k ∧ Hid (timesE (p, q) (l.drop k) = R ∧ LenE (p, q)) ∧ EncAt w.heap.size wr p q ∧ EncAt (w.heap.size + 1) wr [] [] ∧ Ext w wr) (fun x _ => l.length - (intOf x).toNat)
  case atStart => exact ⟨0, t, u, Nat.zero_le _, rfl, ⟨HR.out.symm, HLA.out⟩, A, X, E⟩
  case round =>
    clear A X E
    obtain ⟨k, p, q, hk, rfl, hz, A, X, E⟩ := hrel
    by_cases hlt : k < l.length
    · obtain ⟨b, off, ha, e1, e2⟩ := HC.out.ext E k hlt
      subst ha
      have hz1 := hz.out.1
      have hqk := HQ.out (l.getD k (0, 1)) (getD_inA hlt)
      rw [drop_consA l (0, 1) hlt, times_cons hqk] at hz1
      have HZ := Lib.hid hz1
      have HL := Lib.hid hz.out.2
      clear hz hz1
      generalize l.getD k (0, 1) = x at e1 e2 hqk HZ
      obtain ⟨n, d⟩ := x
      dsimp only at e1 e2
      have HEN := Lib.hid (fun W (g : Ext w W) => enclosed_any n d W (HG.out.ext g) hqk)
      have HML := Lib.hid (fun W (g : Ext w W) => eMul_any (p, q) (quoT (n, d), quoT (n, d)) W (HG.out.ext g) HL.out ⟨hqk.is.2.1, hqk.is.2.1⟩)
      have hml := mulE_len (a := (p, q)) (b := (quoT (n, d), quoT (n, d)))
      generalize mulE (p, q) (quoT (n, d), quoT (n, d)) = M at HML HZ hml
      generalize quoT (n, d) = tq at HEN HML
      clear hqk
      obtain ⟨⟨m1, m2⟩, me⟩ := M
      unfold EncP at HEN HML
      dsimp only [encV] at HEN HML hml
      dsimp only at HZ
      have A' := A
      have X' := X
      obtain ⟨a0, a1, a2, a3⟩ := A
      obtain ⟨x0, x1, x2, x3⟩ := X
      have z0 := cell_lt a0
      have z1 := cell_lt x0
      have z2 := cell_lt e1
      dsimp only at z0 z1 z2
      go_wp2_with fail
      have E1 : Ext wr (wr.alloc (.cells #[.int .i64 n, .int .i64 d] 90)) := extA
      replace A' := A'.ext E1
      replace X' := X'.ext E1
      replace E := E.trans E1
      clear E1 a0 a1 a2 a3 x0 x1 x2 x3 z0 z1 z2 e1 e2
      generalize (wr.alloc (.cells #[.int .i64 n, .int .i64 d] 90)) = w1 at A' X' E ⊢
      refine (HEN.out _ E).mono ?_
      rintro e w2 ⟨rfl, hE⟩
      replace A' := A'.ext hE
      replace X' := X'.ext hE
      replace E := E.trans hE
      have A := A'
      have X := X'
      obtain ⟨a0, a1, a2, a3⟩ := A
      obtain ⟨x0, x1, x2, x3⟩ := X
      have z0 := cell_lt a0
      have z1 := cell_lt x0
      dsimp only at z0 z1
      clear hE
      go_wp2_with fail
      have E2 : Ext w2 (w2.alloc (.cells #[txt tq, txt tq] 35)) := extA
      replace A' := A'.ext E2
      replace X' := X'.ext E2
      replace E := E.trans E2
      clear E2 a0 a1 a2 a3 x0 x1 x2 x3 z0 z1
      generalize (w2.alloc (.cells #[txt tq, txt tq] 35)) = w3 at A' X' E ⊢
      refine (HML.out _ E).mono ?_
      rintro e w4 ⟨rfl, hE⟩
      replace A' := A'.ext hE
      replace X' := X'.ext hE
      replace E := E.trans hE
      clear hE
      have A := A'
      have X := X'
      obtain ⟨a0, a1, a2, a3⟩ := A
      obtain ⟨x0, x1, x2, x3⟩ := X
      have z0 := cell_lt a0
      have z1 := cell_lt x0
      dsimp only at z0 z1
      have AS := (A'.set0 m1).set1 m2
      have XS := X'.two (c := w.heap.size) (o1 := 0) (v := txt m1) (o2 := 1) (u := txt m2) (by omega)
      have ES : Ext w ((w4.setCell ⟨w.heap.size, 0, none⟩ (txt m1)).setCell ⟨w.heap.size, 1, none⟩ (txt m2)) := (E.set (b := w.heap.size) (o := 0) (by omega) (txt m1)).set (b := w.heap.size) (o := 1) (by omega) (txt m2)
      by_cases hm : me = 0
      · subst hm
        have hz2 := HZ.out
        rw [if_neg (by simp)] at hz2
        have HZ2 := Lib.hid (And.intro hz2 (hml rfl))
        clear HZ hz2 hml
        go_wp2
        refine ⟨⟨k + 1, m1, m2, by omega, by go_num, HZ2.out, AS, XS, ES⟩, by simp [intOf]; omega⟩
      · have hne : (((me : Nat) : Int) != 0) = true := by rw [bne_iff_ne]; omega
        have hz2 := HZ.out
        rw [if_pos hm] at hz2
        have HZ2 := Lib.hid hz2.symm
        clear HZ hz2 hml hm
        go_wp2_with fail
        refine bodyPost_ret (v := .tuple #[.agg #[txt [], txt []], .int .i64 (me : Nat)]) (by rw [results_cell_tmp1 rfl]; go_simp) rfl ?_
        exact ⟨by rw [HZ2.out]; rfl, extA⟩
    · have hke : k = l.length := by omega
      subst hke
      have hz1 := hz.out.1
      rw [List.drop_eq_nil_of_le (Nat.le_refl _)] at hz1
      have HZ : Hid (R = ((p, q), 0)) := hz1.symm
      obtain ⟨a0, a1, a2, a3⟩ := A
      obtain ⟨x0, x1, x2, x3⟩ := X
      have z0 := cell_lt a0
      have z1 := cell_lt x0
      dsimp only at z0 z1
      clear hz hz1
      go_wp2_with fail
      refine bodyPost_ret (v := .tuple #[.agg #[txt p, txt q], .int .i64 0]) (by rw [results_cell_tmp1 rfl]; go_simp) rfl ?_
      exact ⟨by rw [HZ.out]; rfl, extA⟩
end Go.Proofs.YtlnonmmaknhppaaGreatDoor
namespace Go.Proofs.YtlnonmmaknhppaaGreatDoor
open Go.RowKit
open Go.Lib (decDigits itoa)
theorem run_append_emptyA {P : Program} (w : World) (t ty e : TypeId) (i : TypeInfo) (ht : P.underlying t = some (.slice e)) (hi : P.info? e = some i) (g : Addr) (n cap : Nat) (hn : n ≤ cap) (a : Option Addr) (c : Nat) :
    (Builtin.append_ #[t, t] ty #[.slice (some g) n cap, .slice a 0 c]).run P w = .ok (.slice (some g) n cap) w := by
  cases a <;> simp [Builtin.append_, run_underlying ht, sizeOf, typeInfo, hi, hn, Builtin.lenOf, Builtin.firstCells, loadCells, storeCells, loadCellsFrom]
theorem wpList_appRun {P : Program} (w : World) {ops : Array Oper} {rest : List Oper} {o : Oper} {a : Act} {Q : Exit → Act → World → Prop} (hgd : o.guard = none) (s x : Operand) (t : TypeId)
    (ho : o.op = .call { callee := .builtin .append, args := #[s, x], argTypes := #[t, t] }) (v y : Value) (hs : a.eval s = v) (hx : a.eval x = y)
    (v' : Value) (w' : World) (hr : (Builtin.append_ #[t, t] o.type #[v, y]).run P w = .ok v' w')
    (h : wpList P ops Q rest (a.put o.dst v') w') : wpList P ops Q (o :: rest) a w := by
  refine wpList_plain hgd fun K hK => ?_
  unfold Oper.wp execOp
  simp only [ho, resolve, invoke, builtin, Sem.run_bind, Sem.run_pure, Result.andThen_ok, List.map_toArray, List.map_cons, List.map_nil, hs, hx, hr]
  exact hK _ _ h
theorem infoQt : (Tryz.prog.info? 90).map (fun i => (i.zero, i.size, i.bytes)) = some (some (.agg #[.int .i64 0, .int .i64 0]), 2, 16) := by kernel_rfl
def pairZ (l : List (Int × Int)) : List (Value × Value) := l.map fun x => (.int .i64 x.1, .int .i64 x.2)
theorem flat2_twoA {l : List (Value × Value)} {j : Nat} {u : Value} (h : (flat2 l)[j]? = some u) : ∃ i, ∃ hi : i < l.length, (j = i * 2 ∧ u = l[i].1) ∨ (j = i * 2 + 1 ∧ u = l[i].2) := by
  have hj := (List.getElem?_eq_some_iff.1 h).1
  rw [flat2_length] at hj
  have hi : j / 2 < l.length := by omega
  have hg := flat2_get l (j / 2) hi
  refine ⟨j / 2, hi, ?_⟩
  rcases Nat.mod_two_eq_zero_or_one j with h0 | h0
  · have e : j / 2 * 2 = j := by omega
    rw [e] at hg
    exact .inl ⟨e.symm, by rw [hg.1] at h; exact (Option.some.inj h).symm⟩
  · have e : j / 2 * 2 + 1 = j := by omega
    rw [e] at hg
    exact .inr ⟨e.symm, by rw [hg.2] at h; exact (Option.some.inj h).symm⟩
theorem cellsQt_row {w : World} {v : Value} {l : List (Int × Int)} (h : w.ownsRow 0 90 2 v l.length (flat2 (pairZ l))) : ∃ a c, v = .slice a l.length c ∧ CellsQt w a l := by
  obtain ⟨a, c, hv, hm, hr⟩ := rowReads h
  refine ⟨a, c, hv, fun i hi => ?_⟩
  have hg := flat2_get (pairZ l) i (by simpa [pairZ] using hi)
  obtain ⟨b, hb, _, h1, _⟩ := hr _ _ hg.1
  obtain ⟨b', hb', _, h2, _⟩ := hr _ _ hg.2
  rw [hb] at hb'
  cases hb'
  refine ⟨b, 0, hb, ?_, ?_⟩
  · rw [Nat.zero_add, h1]; simp [pairZ, List.getD, hi]
  · rw [Nat.zero_add, h2]; simp [pairZ, List.getD, hi]
theorem run_appQ {w w1 : World} (x : Int × Int) (g : Nat) (hg : w1.heap.size ≤ g) (hO : w.ownsRow 0 90 2 (.slice (some ⟨g, 0, none⟩) 1 1) 1 [.int .i64 x.1, .int .i64 x.2]) (E : Ext w1 w) (l : List (Int × Int)) (qa : Option Addr) (qc : Nat) (hc : CellsQt w qa l) (hn : l.length ≤ 9) :
    ∃ a c w', (Builtin.append_ #[139, 139] 139 #[.slice (some ⟨g, 0, none⟩) 1 1, .slice qa l.length qc]).run Tryz.prog w = .ok (.slice a (x :: l).length c) w' ∧ CellsQt w' a (x :: l) ∧ Ext w1 w' := by
  obtain ⟨i0, hi, hi0, hi1, hi2⟩ := info_parts infoQt
  by_cases h0 : l.length = 0
  · have hz : l = [] := List.eq_nil_of_length_eq_zero h0
    subst hz
    obtain ⟨a, c, hv, hcq⟩ := cellsQt_row (l := [x]) hO
    injection hv with h1 h2 h3
    subst h1
    exact ⟨some ⟨g, 0, none⟩, 1, w, run_append_emptyA w _ _ _ i0 Tryz.underlying139 hi _ _ _ (Nat.le_refl _) _ _, hcq, E⟩
  · obtain ⟨b, off, rfl, _⟩ := hc 0 (by omega)
    obtain ⟨v', w', hr, h2, h3⟩ := run_append1 (P := Tryz.prog) w 139 139 90 i0 (.agg #[.int .i64 0, .int .i64 0]) 2 16 Tryz.underlying139 hi hi0 hi1 hi2 rfl (by decide) (.slice (some ⟨g, 0, none⟩) 1 1) 1 _ hO ⟨b, off, none⟩ l.length qc (by omega) (flat2 (pairZ l)) (by rw [flat2_length]; simp [pairZ]) (fun j u hu => by
      obtain ⟨i, hi, hh⟩ := flat2_twoA hu
      have hi' : i < l.length := by simpa [pairZ] using hi
      obtain ⟨b', off', hb, k1, k2⟩ := hc i hi'
      cases hb
      rw [Addr.add_lit]
      rcases hh with ⟨rfl, rfl⟩ | ⟨rfl, rfl⟩
      · rw [k1]; simp [pairZ, List.getD, hi']
      · rw [← Nat.add_assoc, k2]; simp [pairZ, List.getD, hi']) (fun u hu => by
      obtain ⟨j, hj, e⟩ := List.mem_iff_getElem.1 hu
      obtain ⟨i, hi, ⟨_, h⟩ | ⟨_, h⟩⟩ := flat2_twoA (l := pairZ l) (j := j) (u := u) (by rw [← e]; exact List.getElem?_eq_getElem hj)
      · rw [h]; simp only [pairZ, List.getElem_map]; rfl
      · rw [h]; simp only [pairZ, List.getElem_map]; rfl) (by unfold maxLen; omega) (by omega)
    have h4 : w'.ownsRow 0 90 2 v' (x :: l).length (flat2 (pairZ (x :: l))) := by
      rw [List.length_cons, Nat.add_comm]
      exact h2
    obtain ⟨a, c, hv, hcq⟩ := cellsQt_row h4
    subst hv
    exact ⟨a, c, w', hr, hcq, E.trans' (h3.below (n := w1.heap.size) E.size (fun q hq => by cases hq; exact hg)) (Nat.le_refl _)⟩
theorem ownsQt_one (w : World) (x : Int × Int) : (w.alloc (.cells #[.int .i64 x.1, .int .i64 x.2] 90)).ownsRow 0 90 2 (.slice (some ⟨w.heap.size, 0, none⟩) 1 1) 1 [.int .i64 x.1, .int .i64 x.2] :=
  ⟨rfl, .inr ⟨w.heap.size, 1, #[.int .i64 x.1, .int .i64 x.2], rfl, Nat.zero_le _, heap_alloc_new w _, Nat.le_refl _, by decide, rfl, rfl⟩⟩
theorem faceN_bd2 {c : Cyl} (h : 1 ≤ c.bore ∧ c.bore ≤ 500 ∧ 0 ≤ c.rod ∧ c.rod < c.bore) (out : Bool) : 1 ≤ faceN c out ∧ faceN c out ≤ 250000 := faceN_bd (c := ⟨c.bore, c.rod, 1⟩) ⟨h.1, h.2.1, h.2.2.1, h.2.2.2, by dsimp only; omega, by dsimp only; omega⟩ out
set_option maxHeartbeats 8000000 in
set_option maxRecDepth 100000 in
theorem face_any (c : Cyl) (out : Bool) (l : List (Int × Int)) (qa : Option Addr) (qc : Nat) (w : World) (hG : Glob w) (hk : 1 ≤ c.bore ∧ c.bore ≤ 500 ∧ 0 ≤ c.rod ∧ c.rod < c.bore) (hc : CellsQt w qa l) (hq : ∀ x ∈ l, QOk x) (h9 : l.length ≤ 6) :
    Calls Tryz.prog 53 #[cylV c, .bool out, .slice qa l.length qc] w (EncP (timesE piE ((faceN c out, 4) :: l)) w) := by
  have HC := Lib.hid hc
  have HG := Lib.hid hG
  have hfb := faceN_bd2 hk out
  have HT := Lib.hid (fun W a cc hg hcc => aTimes_any piE ((faceN c out, 4) :: l) a cc W hg ⟨by decide, by decide⟩ hcc (fun x hx => by
    rcases List.mem_cons.1 hx with rfl | hx
    · exact ⟨by dsimp only; omega, by dsimp only; omega, by dsimp only; omega, by dsimp only; omega⟩
    · exact hq x hx) (by rw [List.length_cons]; omega))
  have hrow := fun W W1 g h1 h2 h3 h4 => run_appQ (w := W) (w1 := W1) (faceN c out, 4) g h1 h2 h3 l qa qc h4 (by omega)
  have HROW := Lib.hid hrow
  unfold EncP at HT ⊢
  generalize timesE piE ((faceN c out, 4) :: l) = R at HT ⊢
  clear hc hG hq hrow
  obtain ⟨⟨r1, r2⟩, re⟩ := R
  dsimp only [encV] at HT ⊢
  obtain ⟨b, r, s⟩ := c
  dsimp only at hk
  dsimp only [cylV]
  dsimp only [piE] at HT
  obtain ⟨h1, h2, h3, h4⟩ := hk
  have q1 : b * b ≤ 500 * 500 := Int.mul_le_mul h2 h2 (by omega) (by omega)
  have q2 : 0 ≤ b * b := Int.mul_nonneg (by omega) (by omega)
  have q3 : r * r ≤ 500 * 500 := Int.mul_le_mul (by omega) (by omega) h3 (by omega)
  have q4 : 0 ≤ r * r := Int.mul_nonneg h3 h3
  have u1 : IntKind.i64.wrap (b * b) = b * b := IntWalk.i64_in _ (by omega)
  have u2 : IntKind.i64.wrap (r * r) = r * r := IntWalk.i64_in _ (by omega)
  have u3 : IntKind.i64.wrap (b * b - r * r) = b * b - r * r := IntWalk.i64_in _ (by omega)
  clear q1 q2 q3 q4 h1 h2 h3 h4
  have X : EncAt (w.heap.size + 1) ((w.alloc (.cells #[.int .i64 b, .int .i64 r, .int .i64 s] 49)).alloc (.cells #[.string ⟨#[]⟩, .string ⟨#[]⟩] 35)) [] [] := ⟨by go_simp, by go_simp, by go_simp, by go_simp⟩
  have E : Ext w ((w.alloc (.cells #[.int .i64 b, .int .i64 r, .int .i64 s] 49)).alloc (.cells #[.string ⟨#[]⟩, .string ⟨#[]⟩] 35)) := extA
  cases out
  · rw [show faceN ⟨b, r, s⟩ false = b * b - r * r from rfl] at HROW hfb
    go_enter Tryz.func53, Tryz.ntmps53
    go_wp2_with fail
    generalize ((w.alloc (.cells #[.int .i64 b, .int .i64 r, .int .i64 s] 49)).alloc (.cells #[.string ⟨#[]⟩, .string ⟨#[]⟩] 35)) = w0 at X E ⊢
    refine (ePi_any _).mono ?_
    rintro e w1 ⟨rfl, hE⟩
    dsimp only [encV]
    replace X := X.ext hE
    replace E := E.trans hE
    clear hE
    have E1 : Ext w1 (w1.alloc (.cells #[.int .i64 (b * b - r * r), .int .i64 4] 90)) := extA
    obtain ⟨a, cc, w4, hr, hcq, hE4⟩ := HROW.out (w1.alloc (.cells #[.int .i64 (b * b - r * r), .int .i64 4] 90)) w1 w1.heap.size (Nat.le_refl _) (ownsQt_one w1 (b * b - r * r, 4)) E1 (HC.out.ext (E.trans E1))
    have HR := Lib.hid hr
    have HCQ := Lib.hid hcq
    have E4 := E.trans hE4
    replace X := X.ext hE4
    clear hr hcq hE4 E1 E
    go_wp2_with (at_builtin; refine wpList_appRun _ rfl _ _ 139 rfl (.slice (some ⟨w1.heap.size, 0, none⟩) 1 1) (.slice qa l.length qc) rfl rfl _ _ HR.out ?_)
    go_wp2_with fail
    refine (HT.out w4 a cc (HG.out.ext E4) HCQ.out).mono ?_
    rintro e w5 ⟨rfl, hE⟩
    obtain ⟨d0, d1, g0, g1⟩ := X.ext hE
    have E5 := E4.trans hE
    clear hE E4 X
    go_wp2
    refine bodyPost_ret (v := .tuple #[.agg #[txt r1, txt r2], .int .i64 (re : Nat)]) (by rw [results_cell_tmp1 rfl]; go_simp) rfl ?_
    exact ⟨rfl, extA⟩
  · rw [show faceN ⟨b, r, s⟩ true = b * b from rfl] at HROW hfb
    go_enter Tryz.func53, Tryz.ntmps53
    go_wp2_with fail
    generalize ((w.alloc (.cells #[.int .i64 b, .int .i64 r, .int .i64 s] 49)).alloc (.cells #[.string ⟨#[]⟩, .string ⟨#[]⟩] 35)) = w0 at X E ⊢
    refine (ePi_any _).mono ?_
    rintro e w1 ⟨rfl, hE⟩
    dsimp only [encV]
    replace X := X.ext hE
    replace E := E.trans hE
    clear hE
    have E1 : Ext w1 (w1.alloc (.cells #[.int .i64 (b * b), .int .i64 4] 90)) := extA
    obtain ⟨a, cc, w4, hr, hcq, hE4⟩ := HROW.out (w1.alloc (.cells #[.int .i64 (b * b), .int .i64 4] 90)) w1 w1.heap.size (Nat.le_refl _) (ownsQt_one w1 (b * b, 4)) E1 (HC.out.ext (E.trans E1))
    have HR := Lib.hid hr
    have HCQ := Lib.hid hcq
    have E4 := E.trans hE4
    replace X := X.ext hE4
    clear hr hcq hE4 E1 E
    go_wp2_with (at_builtin; refine wpList_appRun _ rfl _ _ 139 rfl (.slice (some ⟨w1.heap.size, 0, none⟩) 1 1) (.slice qa l.length qc) rfl rfl _ _ HR.out ?_)
    go_wp2_with fail
    refine (HT.out w4 a cc (HG.out.ext E4) HCQ.out).mono ?_
    rintro e w5 ⟨rfl, hE⟩
    obtain ⟨d0, d1, g0, g1⟩ := X.ext hE
    have E5 := E4.trans hE
    clear hE E4 X
    go_wp2
    refine bodyPost_ret (v := .tuple #[.agg #[txt r1, txt r2], .int .i64 (re : Nat)]) (by rw [results_cell_tmp1 rfl]; go_simp) rfl ?_
    exact ⟨rfl, extA⟩
end Go.Proofs.YtlnonmmaknhppaaGreatDoor
namespace Go.Proofs.YtlnonmmaknhppaaGreatDoor
open Go.RowKit
open Go.Lib (decDigits itoa)
theorem cellsQt_one (w : World) (x : Int × Int) (t : TypeId) : CellsQt (w.alloc (.cells #[.int .i64 x.1, .int .i64 x.2] t)) (some ⟨w.heap.size, 0, none⟩) [x] := fun i hi => by
  have : i = 0 := by simp at hi; omega
  subst this
  exact ⟨w.heap.size, 0, rfl, by rw [World.cell?_alloc_new]; rfl, by rw [World.cell?_alloc_new]; rfl⟩
theorem cellsQt_two (w : World) (x y : Int × Int) (t : TypeId) : CellsQt (w.alloc (.cells #[.int .i64 x.1, .int .i64 x.2, .int .i64 y.1, .int .i64 y.2] t)) (some ⟨w.heap.size, 0, none⟩) [x, y] := fun i hi => by
  have : i = 0 ∨ i = 1 := by simp at hi; omega
  rcases this with rfl | rfl
  · exact ⟨w.heap.size, 0, rfl, by rw [World.cell?_alloc_new]; rfl, by rw [World.cell?_alloc_new]; rfl⟩
  · exact ⟨w.heap.size, 0, rfl, by rw [World.cell?_alloc_new]; rfl, by rw [World.cell?_alloc_new]; rfl⟩
theorem CylOk.four {c : Cyl} (h : CylOk c) : 1 ≤ c.bore ∧ c.bore ≤ 500 ∧ 0 ≤ c.rod ∧ c.rod < c.bore := ⟨h.b1, h.b2, h.r1, h.r2⟩
theorem qok_small {n d : Int} (h1 : 0 ≤ n) (h2 : n ≤ 1000000) (h3 : 0 < d) (h4 : d ≤ 101000000) : QOk (n, d) := ⟨h1, by dsimp only; omega, h3, by dsimp only; omega⟩
theorem cylV_eq (b r s : Int) : cylV ⟨b, r, s⟩ = .agg #[.int .i64 b, .int .i64 r, .int .i64 s] := rfl
set_option maxHeartbeats 8000000 in
set_option maxRecDepth 100000 in
theorem aArea_any (c : Cyl) (out : Bool) (w : World) (hG : Glob w) : Calls Tryz.prog 23 #[cylV c, .bool out] w (EncP (areaS c out) w) := by
  have HK := Lib.hid (fun W => aCheck_any c W)
  have HG := Lib.hid hG
  obtain ⟨R, hR⟩ : ∃ R, R = areaS c out := ⟨_, rfl⟩
  rw [← hR]
  unfold areaS at hR
  have hok := fun h : cylE c = 0 => cylOk_of h
  unfold EncP
  clear hG
  obtain ⟨b, r, s⟩ := c
  generalize cylE ⟨b, r, s⟩ = n at HK hR hok
  have V := cylV_eq b r s
  have X : EncAt (w.heap.size + 1) ((w.alloc (.cells #[.int .i64 b, .int .i64 r, .int .i64 s] 49)).alloc (.cells #[.string ⟨#[]⟩, .string ⟨#[]⟩] 35)) [] [] := ⟨by go_simp, by go_simp, by go_simp, by go_simp⟩
  have E : Ext w ((w.alloc (.cells #[.int .i64 b, .int .i64 r, .int .i64 s] 49)).alloc (.cells #[.string ⟨#[]⟩, .string ⟨#[]⟩] 35)) := extA
  have c0 : (((w.alloc (.cells #[.int .i64 b, .int .i64 r, .int .i64 s] 49)).alloc (.cells #[.string ⟨#[]⟩, .string ⟨#[]⟩] 35))).cell? ⟨w.heap.size, 0, none⟩ = some (.int .i64 b) := by go_simp
  have c1 : (((w.alloc (.cells #[.int .i64 b, .int .i64 r, .int .i64 s] 49)).alloc (.cells #[.string ⟨#[]⟩, .string ⟨#[]⟩] 35))).cell? ⟨w.heap.size, 1, none⟩ = some (.int .i64 r) := by go_simp
  have c2 : (((w.alloc (.cells #[.int .i64 b, .int .i64 r, .int .i64 s] 49)).alloc (.cells #[.string ⟨#[]⟩, .string ⟨#[]⟩] 35))).cell? ⟨w.heap.size, 2, none⟩ = some (.int .i64 s) := by go_simp
  rw [V] at HK ⊢
  by_cases hn : n = 0
  · subst hn
    rw [if_neg (by simp)] at hR
    have hk := hok rfl
    clear hok
    have HF := Lib.hid (fun W qa qc (hg : Glob W) hc => face_any ⟨b, r, s⟩ out [] qa qc W hg hk.four hc (fun x hx => by cases hx) (by simp))
    rw [area_times hk] at HF
    unfold EncP at HF
    rw [V] at HF
    generalize faceT ⟨b, r, s⟩ out = tt at HF hR
    obtain ⟨t1, t2⟩ := tt
    dsimp only [encV] at HF
    have HR := Lib.hid hR
    clear hR hk
    go_enter Tryz.func23, Tryz.ntmps23
    go_wp2_with fail
    generalize ((w.alloc (.cells #[.int .i64 b, .int .i64 r, .int .i64 s] 49)).alloc (.cells #[.string ⟨#[]⟩, .string ⟨#[]⟩] 35)) = w0 at X E c0 c1 c2 ⊢
    refine (HK.out _).mono ?_
    rintro e w1 ⟨rfl, hE⟩
    replace X := X.ext hE
    replace E := E.trans hE
    have c0 := (hE).cell c0
    have c1 := (hE).cell c1
    have c2 := (hE).cell c2
    have z0 := cell_lt c0
    have z1 := cell_lt X.c0
    dsimp only at z0 z1
    clear hE
    go_wp2_with fail
    refine (HF.out _ none 0 (HG.out.ext E) (fun i hi => by simp at hi)).mono ?_
    rintro e w2 ⟨rfl, hE⟩
    obtain ⟨d0, d1, g0, g1⟩ := X.ext hE
    replace E := E.trans hE
    clear hE X c0 c1 c2 z0 z1
    go_wp2
    refine bodyPost_ret (v := .tuple #[.agg #[txt t1, txt t2], .int .i64 0]) (by rw [results_cell_tmp1 rfl]; go_simp) rfl ?_
    exact ⟨by rw [HR.out]; rfl, extA⟩
  · rw [if_pos hn] at hR
    have HR := Lib.hid hR
    have hne : (((n : Nat) : Int) != 0) = true := by rw [bne_iff_ne]; omega
    clear hR hok hn
    go_enter Tryz.func23, Tryz.ntmps23
    go_wp2_with fail
    generalize ((w.alloc (.cells #[.int .i64 b, .int .i64 r, .int .i64 s] 49)).alloc (.cells #[.string ⟨#[]⟩, .string ⟨#[]⟩] 35)) = w0 at X E c0 c1 c2 ⊢
    refine (HK.out _).mono ?_
    rintro e w1 ⟨rfl, hE⟩
    obtain ⟨d0, d1, g0, g1⟩ := X.ext hE
    replace E := E.trans hE
    clear hE X c0 c1 c2
    go_wp2
    refine bodyPost_ret (v := .tuple #[.agg #[txt [], txt []], .int .i64 (n : Nat)]) (by rw [results_cell_tmp1 rfl]; go_simp) rfl ?_
    exact ⟨by rw [HR.out]; rfl, extA⟩
set_option maxHeartbeats 8000000 in
set_option maxRecDepth 100000 in
theorem aForce_any (c : Cyl) (out : Bool) (p : Int) (w : World) (hG : Glob w) : Calls Tryz.prog 30 #[cylV c, .bool out, .int .i64 p] w (EncP (forceS c out p) w) := by
  have HK := Lib.hid (fun W => aChecked_any c p W)
  have HG := Lib.hid hG
  obtain ⟨R, hR⟩ : ∃ R, R = forceS c out p := ⟨_, rfl⟩
  rw [← hR]
  unfold forceS at hR
  have hok := fun h : presE c p = 0 => presOk_of h
  unfold EncP
  clear hG
  obtain ⟨b, r, s⟩ := c
  generalize presE ⟨b, r, s⟩ p = n at HK hR hok
  have V := cylV_eq b r s
  have X : EncAt (w.heap.size + 1) ((w.alloc (.cells #[.int .i64 b, .int .i64 r, .int .i64 s] 49)).alloc (.cells #[.string ⟨#[]⟩, .string ⟨#[]⟩] 35)) [] [] := ⟨by go_simp, by go_simp, by go_simp, by go_simp⟩
  have E : Ext w ((w.alloc (.cells #[.int .i64 b, .int .i64 r, .int .i64 s] 49)).alloc (.cells #[.string ⟨#[]⟩, .string ⟨#[]⟩] 35)) := extA
  have c0 : (((w.alloc (.cells #[.int .i64 b, .int .i64 r, .int .i64 s] 49)).alloc (.cells #[.string ⟨#[]⟩, .string ⟨#[]⟩] 35))).cell? ⟨w.heap.size, 0, none⟩ = some (.int .i64 b) := by go_simp
  have c1 : (((w.alloc (.cells #[.int .i64 b, .int .i64 r, .int .i64 s] 49)).alloc (.cells #[.string ⟨#[]⟩, .string ⟨#[]⟩] 35))).cell? ⟨w.heap.size, 1, none⟩ = some (.int .i64 r) := by go_simp
  have c2 : (((w.alloc (.cells #[.int .i64 b, .int .i64 r, .int .i64 s] 49)).alloc (.cells #[.string ⟨#[]⟩, .string ⟨#[]⟩] 35))).cell? ⟨w.heap.size, 2, none⟩ = some (.int .i64 s) := by go_simp
  rw [V] at HK ⊢
  by_cases hn : n = 0
  · subst hn
    rw [if_neg (by simp)] at hR
    have hk := hok rfl
    clear hok
    have HF := Lib.hid (fun W qa qc (hg : Glob W) hc => face_any ⟨b, r, s⟩ out [(p, 1000)] qa qc W hg hk.1.four hc (fun x hx => by simp at hx; subst hx; exact qok_small (by have := hk.2; omega) (by have := hk.2; omega) (by decide) (by decide)) (by simp))
    rw [force_times hk.1 out hk.2.1 hk.2.2] at HF
    unfold EncP at HF
    rw [V] at HF
    generalize forceT ⟨b, r, s⟩ out p = tt at HF hR
    obtain ⟨t1, t2⟩ := tt
    dsimp only [encV] at HF
    have HR := Lib.hid hR
    clear hR hk
    go_enter Tryz.func30, Tryz.ntmps30
    go_wp2_with fail
    generalize ((w.alloc (.cells #[.int .i64 b, .int .i64 r, .int .i64 s] 49)).alloc (.cells #[.string ⟨#[]⟩, .string ⟨#[]⟩] 35)) = w0 at X E c0 c1 c2 ⊢
    refine (HK.out _).mono ?_
    rintro e w1 ⟨rfl, hE⟩
    replace X := X.ext hE
    replace E := E.trans hE
    have c0 := (hE).cell c0
    have c1 := (hE).cell c1
    have c2 := (hE).cell c2
    have z0 := cell_lt c0
    have z1 := cell_lt X.c0
    dsimp only at z0 z1
    clear hE
    go_wp2_with fail
    have E1 : Ext w1 (w1.alloc (.cells #[.int .i64 p, .int .i64 1000] 90)) := extA
    refine (HF.out _ _ 1 (HG.out.ext (E.trans E1)) (cellsQt_one w1 (p, 1000) _)).mono ?_
    rintro e w2 ⟨rfl, hE⟩
    obtain ⟨d0, d1, g0, g1⟩ := X.ext (E1.trans hE)
    replace E := E.trans (E1.trans hE)
    clear E1
    clear hE X c0 c1 c2 z0 z1
    go_wp2
    refine bodyPost_ret (v := .tuple #[.agg #[txt t1, txt t2], .int .i64 0]) (by rw [results_cell_tmp1 rfl]; go_simp) rfl ?_
    exact ⟨by rw [HR.out]; rfl, extA⟩
  · rw [if_pos hn] at hR
    have HR := Lib.hid hR
    have hne : (((n : Nat) : Int) != 0) = true := by rw [bne_iff_ne]; omega
    clear hR hok hn
    go_enter Tryz.func30, Tryz.ntmps30
    go_wp2_with fail
    generalize ((w.alloc (.cells #[.int .i64 b, .int .i64 r, .int .i64 s] 49)).alloc (.cells #[.string ⟨#[]⟩, .string ⟨#[]⟩] 35)) = w0 at X E c0 c1 c2 ⊢
    refine (HK.out _).mono ?_
    rintro e w1 ⟨rfl, hE⟩
    obtain ⟨d0, d1, g0, g1⟩ := X.ext hE
    replace E := E.trans hE
    clear hE X c0 c1 c2
    go_wp2
    refine bodyPost_ret (v := .tuple #[.agg #[txt [], txt []], .int .i64 (n : Nat)]) (by rw [results_cell_tmp1 rfl]; go_simp) rfl ?_
    exact ⟨by rw [HR.out]; rfl, extA⟩
set_option maxHeartbeats 8000000 in
set_option maxRecDepth 100000 in
theorem aLitres_any (c : Cyl) (out : Bool) (p : Int) (w : World) (hG : Glob w) (hk : CylOk c) (h1 : 1 ≤ p) (h2 : p ≤ 2000) : Calls Tryz.prog 78 #[cylV c, .bool out, .int .i64 p] w (EncP (litT c out p, 0) w) := by
  have HG := Lib.hid hG
  have hs1 := hk.s1
  have hs2 := hk.s2
  obtain ⟨b, r, s⟩ := c
  dsimp only at hs1 hs2
  have V := cylV_eq b r s
  have HF := Lib.hid (fun W qa qc (hg : Glob W) hc => face_any ⟨b, r, s⟩ out [(s, 1), (p + 101, 101000000)] qa qc W hg hk.four hc (fun x hx => by
    simp at hx
    rcases hx with rfl | rfl
    · exact qok_small (by omega) (by omega) (by decide) (by decide)
    · exact qok_small (by omega) (by omega) (by decide) (by decide)) (by simp))
  rw [lit_times hk out h1 h2] at HF
  unfold EncP at HF ⊢
  rw [V] at HF ⊢
  generalize litT ⟨b, r, s⟩ out p = tt at HF ⊢
  obtain ⟨t1, t2⟩ := tt
  dsimp only [encV] at HF ⊢
  have u1 : IntKind.i64.wrap (p + 101) = p + 101 := IntWalk.i64_in _ (by omega)
  clear hk hs1 hs2 hG
  have X : EncAt (w.heap.size + 1) ((w.alloc (.cells #[.int .i64 b, .int .i64 r, .int .i64 s] 49)).alloc (.cells #[.string ⟨#[]⟩, .string ⟨#[]⟩] 35)) [] [] := ⟨by go_simp, by go_simp, by go_simp, by go_simp⟩
  have E : Ext w ((w.alloc (.cells #[.int .i64 b, .int .i64 r, .int .i64 s] 49)).alloc (.cells #[.string ⟨#[]⟩, .string ⟨#[]⟩] 35)) := extA
  have E1 : Ext ((w.alloc (.cells #[.int .i64 b, .int .i64 r, .int .i64 s] 49)).alloc (.cells #[.string ⟨#[]⟩, .string ⟨#[]⟩] 35)) (((w.alloc (.cells #[.int .i64 b, .int .i64 r, .int .i64 s] 49)).alloc (.cells #[.string ⟨#[]⟩, .string ⟨#[]⟩] 35)).alloc (.cells #[.int .i64 s, .int .i64 1, .int .i64 (p + 101), .int .i64 101000000] 90)) := extA
  have hz : (((w.alloc (.cells #[.int .i64 b, .int .i64 r, .int .i64 s] 49)).alloc (.cells #[.string ⟨#[]⟩, .string ⟨#[]⟩] 35))).heap.size = w.heap.size + 1 + 1 := by simp
  have HQ := Lib.hid (cellsQt_two ((w.alloc (.cells #[.int .i64 b, .int .i64 r, .int .i64 s] 49)).alloc (.cells #[.string ⟨#[]⟩, .string ⟨#[]⟩] 35)) (s, 1) (p + 101, 101000000) 90)
  rw [hz] at HQ
  have X1 := X.ext E1
  have E2 := E.trans E1
  go_enter Tryz.func78, Tryz.ntmps78
  go_wp2_with fail
  generalize (((w.alloc (.cells #[.int .i64 b, .int .i64 r, .int .i64 s] 49)).alloc (.cells #[.string ⟨#[]⟩, .string ⟨#[]⟩] 35)).alloc (.cells #[.int .i64 s, .int .i64 1, .int .i64 (p + 101), .int .i64 101000000] 90)) = w0 at X1 E2 HQ ⊢
  refine (HF.out _ _ 2 (HG.out.ext E2) HQ.out).mono ?_
  rintro e w2 ⟨rfl, hE⟩
  obtain ⟨d0, d1, g0, g1⟩ := X1.ext hE
  replace E := E2.trans hE
  clear hE X1 E2 X E1
  go_wp2
  refine bodyPost_ret (v := .tuple #[.agg #[txt t1, txt t2], .int .i64 0]) (by rw [results_cell_tmp1 rfl]; go_simp) rfl ?_
  exact ⟨rfl, extA⟩
set_option maxHeartbeats 8000000 in
set_option maxRecDepth 100000 in
theorem aStroke_any (c : Cyl) (out : Bool) (p : Int) (w : World) (hG : Glob w) : Calls Tryz.prog 32 #[cylV c, .bool out, .int .i64 p] w (EncP (strokeS c out p) w) := by
  have HK := Lib.hid (fun W => aChecked_any c p W)
  have HG := Lib.hid hG
  obtain ⟨R, hR⟩ : ∃ R, R = strokeS c out p := ⟨_, rfl⟩
  rw [← hR]
  unfold strokeS at hR
  have hok := fun h : presE c p = 0 => presOk_of h
  unfold EncP
  clear hG
  obtain ⟨b, r, s⟩ := c
  generalize presE ⟨b, r, s⟩ p = n at HK hR hok
  have V := cylV_eq b r s
  have X : EncAt (w.heap.size + 1) ((w.alloc (.cells #[.int .i64 b, .int .i64 r, .int .i64 s] 49)).alloc (.cells #[.string ⟨#[]⟩, .string ⟨#[]⟩] 35)) [] [] := ⟨by go_simp, by go_simp, by go_simp, by go_simp⟩
  have E : Ext w ((w.alloc (.cells #[.int .i64 b, .int .i64 r, .int .i64 s] 49)).alloc (.cells #[.string ⟨#[]⟩, .string ⟨#[]⟩] 35)) := extA
  have c0 : (((w.alloc (.cells #[.int .i64 b, .int .i64 r, .int .i64 s] 49)).alloc (.cells #[.string ⟨#[]⟩, .string ⟨#[]⟩] 35))).cell? ⟨w.heap.size, 0, none⟩ = some (.int .i64 b) := by go_simp
  have c1 : (((w.alloc (.cells #[.int .i64 b, .int .i64 r, .int .i64 s] 49)).alloc (.cells #[.string ⟨#[]⟩, .string ⟨#[]⟩] 35))).cell? ⟨w.heap.size, 1, none⟩ = some (.int .i64 r) := by go_simp
  have c2 : (((w.alloc (.cells #[.int .i64 b, .int .i64 r, .int .i64 s] 49)).alloc (.cells #[.string ⟨#[]⟩, .string ⟨#[]⟩] 35))).cell? ⟨w.heap.size, 2, none⟩ = some (.int .i64 s) := by go_simp
  rw [V] at HK ⊢
  by_cases hn : n = 0
  · subst hn
    rw [if_neg (by simp)] at hR
    have hk := hok rfl
    clear hok
    have HF := Lib.hid (fun W (hg : Glob W) => aLitres_any ⟨b, r, s⟩ out p W hg hk.1 hk.2.1 hk.2.2)
    unfold EncP at HF
    rw [V] at HF
    generalize litT ⟨b, r, s⟩ out p = tt at HF hR
    obtain ⟨t1, t2⟩ := tt
    dsimp only [encV] at HF
    have HR := Lib.hid hR
    clear hR hk
    go_enter Tryz.func32, Tryz.ntmps32
    go_wp2_with fail
    generalize ((w.alloc (.cells #[.int .i64 b, .int .i64 r, .int .i64 s] 49)).alloc (.cells #[.string ⟨#[]⟩, .string ⟨#[]⟩] 35)) = w0 at X E c0 c1 c2 ⊢
    refine (HK.out _).mono ?_
    rintro e w1 ⟨rfl, hE⟩
    replace X := X.ext hE
    replace E := E.trans hE
    have c0 := (hE).cell c0
    have c1 := (hE).cell c1
    have c2 := (hE).cell c2
    have z0 := cell_lt c0
    have z1 := cell_lt X.c0
    dsimp only at z0 z1
    clear hE
    go_wp2_with fail
    refine (HF.out _ (HG.out.ext E)).mono ?_
    rintro e w2 ⟨rfl, hE⟩
    obtain ⟨d0, d1, g0, g1⟩ := X.ext hE
    replace E := E.trans hE
    clear hE X c0 c1 c2 z0 z1
    go_wp2
    refine bodyPost_ret (v := .tuple #[.agg #[txt t1, txt t2], .int .i64 0]) (by rw [results_cell_tmp1 rfl]; go_simp) rfl ?_
    exact ⟨by rw [HR.out]; rfl, extA⟩
  · rw [if_pos hn] at hR
    have HR := Lib.hid hR
    have hne : (((n : Nat) : Int) != 0) = true := by rw [bne_iff_ne]; omega
    clear hR hok hn
    go_enter Tryz.func32, Tryz.ntmps32
    go_wp2_with fail
    generalize ((w.alloc (.cells #[.int .i64 b, .int .i64 r, .int .i64 s] 49)).alloc (.cells #[.string ⟨#[]⟩, .string ⟨#[]⟩] 35)) = w0 at X E c0 c1 c2 ⊢
    refine (HK.out _).mono ?_
    rintro e w1 ⟨rfl, hE⟩
    obtain ⟨d0, d1, g0, g1⟩ := X.ext hE
    replace E := E.trans hE
    clear hE X c0 c1 c2
    go_wp2
    refine bodyPost_ret (v := .tuple #[.agg #[txt [], txt []], .int .i64 (n : Nat)]) (by rw [results_cell_tmp1 rfl]; go_simp) rfl ?_
    exact ⟨by rw [HR.out]; rfl, extA⟩
end Go.Proofs.YtlnonmmaknhppaaGreatDoor
namespace Go.Proofs.YtlnonmmaknhppaaGreatDoor
open Go.RowKit
open Go.Lib (decDigits itoa)
end Go.Proofs.YtlnonmmaknhppaaGreatDoor
namespace Go.Proofs.YtlnonmmaknhppaaGreatDoor
open Go.RowKit
open Go.Lib (decDigits itoa)
def Cyl64 (c : Cyl) : Prop := -9223372036854775808 ≤ c.bore ∧ c.bore ≤ 9223372036854775807
end Go.Proofs.YtlnonmmaknhppaaGreatDoor
namespace Go.Proofs.YtlnonmmaknhppaaGreatDoor
open Go.RowKit
set_option maxHeartbeats 4000000 in
set_option maxRecDepth 100000 in
theorem searchB_any (f : Nat → Bool) (n p1 p2 p3 : Nat) (w : World) (hn : n ≤ 2000000) (hf : ∀ i, i < n → ∀ W, Ext w W → Calls Tryz.prog 52 #[.int .i64 i, .pointer (some ⟨p1, 0, none⟩), .pointer (some ⟨p2, 0, none⟩), .pointer (some ⟨p3, 0, none⟩)] W fun e W' => e = .returned (.bool (f i)) ∧ Ext W W') :
    Calls Tryz.prog 51 #[.int .i64 n, .func (.func 52) #[] #[.pointer (some ⟨p1, 0, none⟩), .pointer (some ⟨p2, 0, none⟩), .pointer (some ⟨p3, 0, none⟩)]] w fun e w' => e = .returned (.int .i64 ((halve f 0 n : Nat) : Int)) ∧ Ext w w' := by
  have HF := Lib.hid hf
  clear hf
  obtain ⟨R, hR⟩ : ∃ R, R = halve f 0 n := ⟨_, rfl⟩
  rw [← hR]
  have HR := Lib.hid hR
  clear hR
  go_enter Tryz.func51, Tryz.ntmps51
  go_wp2
  go_loopw [5, 6] (fun x y wr => ∃ i j : Nat, i ≤ j ∧ j ≤ n ∧ x = .int .i64 i ∧ y = .int .i64 j ∧ Hid (R = halve f i j) ∧ Ext w wr) (fun x y _ => (intOf y).toNat - (intOf x).toNat)
  case atStart => exact ⟨0, n, Nat.zero_le _, Nat.le_refl _, rfl, rfl, HR.out, Ext.refl _⟩
  case round =>
    obtain ⟨i, j, hij, hjn, rfl, rfl, hz, he⟩ := hrel
    by_cases hlt : i < j
    · obtain ⟨m, hm⟩ : ∃ m, m = (i + j) / 2 := ⟨_, rfl⟩
      have u2 : ((i : Int) + (j : Int)) / 2 = (m : Int) := by omega
      have hmj : m < j := by omega
      have him : i ≤ m := by omega
      have HC := Lib.hid (HF.out m (by omega))
      obtain ⟨q, hq⟩ : ∃ q, f m = q := ⟨_, rfl⟩
      rw [hq] at HC
      have hq2 := hq
      rw [hm] at hq2
      have HZ : Hid (R = if q = true then halve f i m else halve f (m + 1) j) := by
        show _ = _
        rw [hz.out, hm]
        cases q
        · rw [halve_no hlt hq2]; rfl
        · rw [halve_yes hlt hq2]; rfl
      clear hq hq2 hm hz
      go_wp2_with fail
      refine (HC.out _ he).mono ?_
      rintro e w1 ⟨rfl, hE⟩
      have E1 := he.trans hE
      cases q
      · have h1 : Hid (R = halve f (m + 1) j) := HZ.out
        clear HZ
        go_wp2
        refine ⟨⟨m + 1, j, by omega, hjn, by go_num, rfl, h1.out, E1⟩, by simp [intOf]; omega⟩
      · have h1 : Hid (R = halve f i m) := HZ.out
        clear HZ
        go_wp2
        refine ⟨⟨i, m, him, by omega, rfl, rfl, h1.out, E1⟩, by simp [intOf]; omega⟩
    · have hke : i = j := by omega
      subst hke
      have h1 := hz.out
      rw [halve_end (by omega)] at h1
      have H1 := Lib.hid h1
      go_wp2
      go_ret
      exact ⟨by rw [H1.out]; rfl, he⟩
set_option maxHeartbeats 4000000 in
set_option maxRecDepth 100000 in
theorem searchR_any (f : Nat → Bool) (n p1 p2 p3 : Nat) (w : World) (hn : n ≤ 2000000) (hf : ∀ i, i < n → ∀ W, Ext w W → Calls Tryz.prog 66 #[.int .i64 i, .pointer (some ⟨p1, 0, none⟩), .pointer (some ⟨p2, 0, none⟩), .pointer (some ⟨p3, 0, none⟩)] W fun e W' => e = .returned (.bool (f i)) ∧ Ext W W') :
    Calls Tryz.prog 51 #[.int .i64 n, .func (.func 66) #[] #[.pointer (some ⟨p1, 0, none⟩), .pointer (some ⟨p2, 0, none⟩), .pointer (some ⟨p3, 0, none⟩)]] w fun e w' => e = .returned (.int .i64 ((halve f 0 n : Nat) : Int)) ∧ Ext w w' := by
  have HF := Lib.hid hf
  clear hf
  obtain ⟨R, hR⟩ : ∃ R, R = halve f 0 n := ⟨_, rfl⟩
  rw [← hR]
  have HR := Lib.hid hR
  clear hR
  go_enter Tryz.func51, Tryz.ntmps51
  go_wp2
  go_loopw [5, 6] (fun x y wr => ∃ i j : Nat, i ≤ j ∧ j ≤ n ∧ x = .int .i64 i ∧ y = .int .i64 j ∧ Hid (R = halve f i j) ∧ Ext w wr) (fun x y _ => (intOf y).toNat - (intOf x).toNat)
  case atStart => exact ⟨0, n, Nat.zero_le _, Nat.le_refl _, rfl, rfl, HR.out, Ext.refl _⟩
  case round =>
    obtain ⟨i, j, hij, hjn, rfl, rfl, hz, he⟩ := hrel
    by_cases hlt : i < j
    · obtain ⟨m, hm⟩ : ∃ m, m = (i + j) / 2 := ⟨_, rfl⟩
      have u2 : ((i : Int) + (j : Int)) / 2 = (m : Int) := by omega
      have hmj : m < j := by omega
      have him : i ≤ m := by omega
      have HC := Lib.hid (HF.out m (by omega))
      obtain ⟨q, hq⟩ : ∃ q, f m = q := ⟨_, rfl⟩
      rw [hq] at HC
      have hq2 := hq
      rw [hm] at hq2
      have HZ : Hid (R = if q = true then halve f i m else halve f (m + 1) j) := by
        show _ = _
        rw [hz.out, hm]
        cases q
        · rw [halve_no hlt hq2]; rfl
        · rw [halve_yes hlt hq2]; rfl
      clear hq hq2 hm hz
      go_wp2_with fail
      refine (HC.out _ he).mono ?_
      rintro e w1 ⟨rfl, hE⟩
      have E1 := he.trans hE
      cases q
      · have h1 : Hid (R = halve f (m + 1) j) := HZ.out
        clear HZ
        go_wp2
        refine ⟨⟨m + 1, j, by omega, hjn, by go_num, rfl, h1.out, E1⟩, by simp [intOf]; omega⟩
      · have h1 : Hid (R = halve f i m) := HZ.out
        clear HZ
        go_wp2
        refine ⟨⟨i, m, him, by omega, rfl, rfl, h1.out, E1⟩, by simp [intOf]; omega⟩
    · have hke : i = j := by omega
      subst hke
      have h1 := hz.out
      rw [halve_end (by omega)] at h1
      have H1 := Lib.hid h1
      go_wp2
      go_ret
      exact ⟨by rw [H1.out]; rfl, he⟩
end Go.Proofs.YtlnonmmaknhppaaGreatDoor
namespace Go.Proofs.YtlnonmmaknhppaaGreatDoor
open Go.RowKit
open Go.Lib (decDigits itoa)
set_option maxHeartbeats 4000000 in
set_option maxRecDepth 100000 in
theorem recv1_any (h : Txt) (high low : Int) (v p1 p2 p3 : Nat) (w : World) (hG : Glob w) (hh : fracE h = 0) (hv : v ≤ 1048577) (h1 : 1 ≤ low) (h2 : low < high) (h3 : high ≤ 2000)
    (c1 : w.cell? ⟨p1, 0, none⟩ = some (.int .i64 high)) (c2 : w.cell? ⟨p2, 0, none⟩ = some (.int .i64 low)) (c3 : w.cell? ⟨p3, 1, none⟩ = some (txt h)) :
    Calls Tryz.prog 66 #[.int .i64 v, .pointer (some ⟨p1, 0, none⟩), .pointer (some ⟨p2, 0, none⟩), .pointer (some ⟨p3, 0, none⟩)] w fun e w' => e = .returned (.bool (givesB (fracQ h) (high - low) v)) ∧ Ext w w' := by
  obtain ⟨g1, g2, g3⟩ := gives_ord (v := v) (d := high - low) hv (by omega) (by omega)
  have hb0 : 0 ≤ (v : Int) * (high - low) := Int.mul_nonneg (by omega) (by omega)
  have hb1 : (v : Int) * (high - low) ≤ 1048577 * 2000 := Int.mul_le_mul (by omega) (by omega) (by omega) (by omega)
  have HO := Lib.hid (fun W (g : Ext w W) => of_any ((v : Int) * (high - low)) 101 W (hG.ext g) (by omega) (by omega) (by omega) (by omega))
  rw [g1] at HO
  have HC := Lib.hid (fun W (g : Ext w W) => compareF_any (fracT ((((v : Int) * (high - low) : Int) : Rat) / ((101 : Int) : Rat))) h W (hG.ext g) g2.len (len_right hh))
  have hc : bothE (fracT ((((v : Int) * (high - low) : Int) : Rat) / ((101 : Int) : Rat))) h = 0 := bothE_zero g2.ok hh
  rw [cmp_good hc] at HC
  have hg := g3 h
  unfold ResP at HO
  unfold IntP at HC
  generalize fracT ((((v : Int) * (high - low) : Int) : Rat) / ((101 : Int) : Rat)) = t at HO HC hg
  generalize ordQ t h = q at HC hg
  obtain ⟨R, hR⟩ : ∃ R, R = givesB (fracQ h) (high - low) v := ⟨_, rfl⟩
  rw [← hR] at hg ⊢
  have u1 : IntKind.i64.wrap (high - low) = high - low := IntWalk.i64_in _ (by omega)
  have u2 : IntKind.i64.wrap ((v : Int) * (high - low)) = (v : Int) * (high - low) := IntWalk.i64_in _ (by omega)
  have hRq : Hid (R = decide (0 ≤ q)) := by
    show _ = _
    cases hr : R
    · rw [hr] at hg
      have : ¬ (0 ≤ q) := fun h => by have := hg.1 h; cases this
      rw [decide_eq_false this]
    · rw [hr] at hg
      rw [decide_eq_true (hg.2 rfl)]
  have z1 := cell_lt c1
  have z2 := cell_lt c2
  have z3 := cell_lt c3
  dsimp only at z1 z2 z3
  clear g1 g2 g3 hb0 hb1 hc hg hR hG
  go_enter Tryz.func66, Tryz.ntmps66
  go_wp2_with fail
  refine (HO.out _ (Ext.refl _)).mono ?_
  rintro e w1 ⟨rfl, hE1⟩
  have c3 := hE1.cell c3
  have z3 := cell_lt c3
  dsimp only at z3
  go_wp2_with fail
  refine (HC.out _ hE1).mono ?_
  rintro e w2 ⟨rfl, hE2⟩
  have E := hE1.trans hE2
  have hx := hRq.out
  go_wp2
  go_ret
  exact ⟨ret_bool hx.symm, E⟩
theorem sign_good {a : Txt} (h : fracE a = 0) : signS a = ((fracQ a).num.sign, 0) := by unfold signS ifOk; rw [if_pos h]
theorem sign_neg (q : Rat) : q.num.sign < 0 ↔ q < 0 := by
  rw [Int.sign_neg_iff, ← Int.not_le, ← Rat.not_le, Rat.num_nonneg]
set_option maxHeartbeats 8000000 in
set_option maxRecDepth 100000 in
theorem aReceiver_any (used : Enc) (high low : Int) (w : World) (hG : Glob w) (hl : LenE used) : Calls Tryz.prog 19 #[encV used, .int .i64 high, .int .i64 low] w (IntP (recS used high low) (recE used high low) w) := by
  have HCK := Lib.hid (fun W (g : Ext w W) => eCheck_any used W (hG.ext g) hl)
  have HSG := Lib.hid (fun W (g : Ext w W) => signF_any used.1 W (hG.ext g) hl.1)
  have HPH := Lib.hid (fun W => aPress_any high W)
  have HPL := Lib.hid (fun W => aPress_any low W)
  have HG := Lib.hid hG
  obtain ⟨R, hR⟩ : ∃ R, R = recE used high low := ⟨_, rfl⟩
  obtain ⟨Z, hZ⟩ : ∃ Z, Z = recS used high low := ⟨_, rfl⟩
  unfold IntP
  rw [← hR, ← hZ]
  unfold recS at hZ
  rw [← hR] at hZ
  unfold recE at hR
  have HZ := Lib.hid hZ
  obtain ⟨t, u⟩ := used
  dsimp only at HSG
  dsimp only [encV] at HCK ⊢
  obtain ⟨n, hn⟩ : ∃ n, n = encE (t, u) := ⟨_, rfl⟩
  rw [← hn] at HCK hR
  have A : EncAt w.heap.size (((w.alloc (.cells #[txt t, txt u] 35)).alloc (.cells #[.int .i64 high] 3)).alloc (.cells #[.int .i64 low] 3)) t u := ⟨by go_simp, by go_simp, by go_simp, by go_simp⟩
  have c1 : ((((w.alloc (.cells #[txt t, txt u] 35)).alloc (.cells #[.int .i64 high] 3)).alloc (.cells #[.int .i64 low] 3))).cell? ⟨w.heap.size + 1, 0, none⟩ = some (.int .i64 high) := by go_simp
  have c2 : ((((w.alloc (.cells #[txt t, txt u] 35)).alloc (.cells #[.int .i64 high] 3)).alloc (.cells #[.int .i64 low] 3))).cell? ⟨w.heap.size + 1 + 1, 0, none⟩ = some (.int .i64 low) := by go_simp
  have E : Ext w (((w.alloc (.cells #[txt t, txt u] 35)).alloc (.cells #[.int .i64 high] 3)).alloc (.cells #[.int .i64 low] 3)) := extA
  clear hZ hG
  go_enter Tryz.func19, Tryz.ntmps19
  go_wp2_with fail
  generalize (((w.alloc (.cells #[txt t, txt u] 35)).alloc (.cells #[.int .i64 high] 3)).alloc (.cells #[.int .i64 low] 3)) = w0 at A c1 c2 E ⊢
  refine (HCK.out _ E).mono ?_
  rintro e w1 ⟨rfl, hE⟩
  replace A := A.ext hE
  replace E := E.trans hE
  have c1 := (hE).cell c1
  have c2 := (hE).cell c2
  clear hE HCK
  by_cases h0 : n = 0
  rotate_left
  · rw [if_pos h0] at hR
    have HR := Lib.hid (And.intro hR (HZ.out.trans (if_neg (by omega))))
    have hne : (((n : Nat) : Int) != 0) = true := by rw [bne_iff_ne]; omega
    clear hR h0 hn HZ
    go_wp2
    go_ret2
    exact ⟨by rw [HR.out.1, HR.out.2]; rfl, E⟩
  subst h0
  have hr := enc_right hn.symm
  dsimp only at hr
  have hnn : Hid (encE (t, u) = 0) := hn.symm
  clear hn
  rw [if_neg (not_not_intro rfl)] at hR
  rw [sign_good hr.1] at HSG
  have hsn := sign_neg (fracQ t)
  unfold IntP at HSG
  dsimp only at HSG hR
  generalize (fracQ t).num.sign = sg at HSG hsn
  have a0 := A.c0
  have a1 := A.c1
  have z0 := cell_lt a0
  have z1 := cell_lt c1
  have z2 := cell_lt c2
  dsimp only at z0 z1 z2
  go_wp2_with fail
  refine (HSG.out _ E).mono ?_
  rintro e w2 ⟨rfl, hE⟩
  replace A := A.ext hE
  replace E := E.trans hE
  have c1 := (hE).cell c1
  have c2 := (hE).cell c2
  clear hE HSG a0 a1 z0 z1 z2
  by_cases hsg : sg < 0
  · rw [if_pos (hsn.1 hsg)] at hR
    have HR := Lib.hid (And.intro hR (HZ.out.trans (if_neg (by omega))))
    clear hR hsn HZ
    go_wp2
    go_ret2
    exact ⟨by rw [HR.out.1, HR.out.2]; rfl, E⟩
  rw [if_neg (fun h => hsg (hsn.2 h))] at hR
  have z1 := cell_lt c1
  have z2 := cell_lt c2
  dsimp only at z1 z2
  have hsg2 : (0 : Int) ≤ sg := by omega
  clear hsn
  go_wp2
  have E1 : Ext w2 (w2.alloc (.cells #[.int .i64 high, .int .i64 low] 3)) := extA
  have l0 : ((w2.alloc (.cells #[.int .i64 high, .int .i64 low] 3))).cell? ⟨w2.heap.size, 0, none⟩ = some (.int .i64 high) := by go_simp
  have l1 : ((w2.alloc (.cells #[.int .i64 high, .int .i64 low] 3))).cell? ⟨w2.heap.size, 1, none⟩ = some (.int .i64 low) := by go_simp
  replace A := A.ext E1
  replace E := E.trans E1
  have c1 := (E1).cell c1
  have c2 := (E1).cell c2
  obtain ⟨lb, hlb⟩ : ∃ lb, lb = w2.heap.size := ⟨_, rfl⟩
  rw [← hlb] at l0 l1 ⊢
  clear hlb E1 z1 z2
  generalize (w2.alloc (.cells #[.int .i64 high, .int .i64 low] 3)) = w3 at A c1 c2 l0 l1 E ⊢
  have M0 : Hid (R = if presB high = true then 2 else if presB low = true then 2 else if high ≤ low then 9 else if 1048576 < recN (fracQ u) (high - low) then 11 else 0) := hR
  have hru := Lib.hid hr.2.1
  clear hR hr
  have PH : Hid (∀ k : Nat, k < 2 → ∃ z, w3.cell? ⟨lb, k, none⟩ = some (.int .i64 z) ∧ (k = 0 → z = high) ∧ (k = 1 → z = low)) := fun k hk => by
    have : k = 0 ∨ k = 1 := by omega
    rcases this with rfl | rfl
    · exact ⟨high, l0, fun _ => rfl, fun h => (by cases h)⟩
    · exact ⟨low, l1, fun h => (by cases h), fun _ => rfl⟩
  clear l0 l1
  go_loopw [32] (fun x wr => ∃ k : Nat, k ≤ 2 ∧ x = .int .i64 k ∧ Hid ((1 ≤ k → presB high = false) ∧ (2 ≤ k → presB low = false)) ∧ Ext w3 wr) (fun x _ => 2 - (intOf x).toNat)
  case atStart => exact ⟨0, Nat.zero_le _, rfl, ⟨fun h => (by omega), fun h => (by omega)⟩, Ext.refl _⟩
  case round =>
    obtain ⟨k, hk, rfl, hz, he⟩ := hrel
    by_cases hlt : k < 2
    · obtain ⟨z, q0, q1, q2⟩ := PH.out k hlt
      have q0 := he.cell q0
      have zl := cell_lt q0
      dsimp only at zl
      have HPZ : Hid (∀ W, Calls Tryz.prog 49 #[.int .i64 z] W fun e w' => e = .returned (.int .i64 (presE1 z : Nat)) ∧ w' = W) := fun W => aPress_any z W
      obtain ⟨pz, hpz⟩ : ∃ pz, pz = presB z := ⟨_, rfl⟩
      have hpe : presE1 z = if pz = true then 2 else 0 := by unfold presE1; rw [hpz]
      rw [hpe] at HPZ
      have HK0 := Lib.hid (And.intro q1 (And.intro q2 hpz))
      clear q1 q2 hpz hpe
      cases pz
      · have HN : Hid ((1 ≤ k + 1 → presB high = false) ∧ (2 ≤ k + 1 → presB low = false)) := by
          obtain ⟨k1, k2, k3⟩ := HK0.out
          have : k = 0 ∨ k = 1 := by omega
          rcases this with rfl | rfl
          · have := k1 rfl
            subst this
            exact ⟨fun _ => k3.symm, fun h => (by omega)⟩
          · have := k2 rfl
            subst this
            exact ⟨fun _ => hz.out.1 (by omega), fun _ => k3.symm⟩
        clear HK0 hz
        go_wp2_with fail
        refine (HPZ.out _).mono ?_
        rintro e w5 ⟨rfl, rfl⟩
        go_wp2
        refine ⟨⟨k + 1, by omega, by go_num, HN.out, he⟩, by simp [intOf]; omega⟩
      · have HN : Hid (R = 2 ∧ Z = 0) := by
          obtain ⟨k1, k2, k3⟩ := HK0.out
          have hR2 : R = 2 := by
            have : k = 0 ∨ k = 1 := by omega
            rw [M0.out]
            rcases this with rfl | rfl
            · have := k1 rfl
              subst this
              rw [if_pos k3.symm]
            · have := k2 rfl
              subst this
              rw [hz.out.1 (by omega), if_neg (by simp), if_pos k3.symm]
          exact ⟨hR2, by rw [HZ.out, if_neg (by omega)]⟩
        clear HK0 hz
        go_wp2_with fail
        refine (HPZ.out _).mono ?_
        rintro e w5 ⟨rfl, rfl⟩
        go_wp2
        go_ret2
        exact ⟨by rw [HN.out.1, HN.out.2]; rfl, E.trans he⟩
    · have hke : k = 2 := by omega
      subst hke
      have hz1 := hz.out.1 (by omega)
      have hz2 := hz.out.2 (by omega)
      have m1 := M0.out
      rw [hz1, hz2, if_neg (by simp), if_neg (by simp)] at m1
      replace A := A.ext he
      have EE := E.trans he
      have c1 := he.cell c1
      have c2 := he.cell c2
      unfold presB at hz1 hz2
      simp only [Bool.or_eq_false_iff, decide_eq_false_iff_not] at hz1 hz2
      by_cases hlh : high ≤ low
      · rw [if_pos hlh] at m1
        have HN := Lib.hid (And.intro m1 (HZ.out.trans (if_neg (by omega))))
        clear m1 hz hz1 hz2
        go_wp2
        go_ret2
        exact ⟨by rw [HN.out.1, HN.out.2]; rfl, EE⟩
      · rw [if_neg hlh] at m1
        have hlh2 : ¬ (high ≤ low) := hlh
        have HS := Lib.hid (searchR_any (givesB (fracQ u) (high - low)) 1048577 (w.heap.size + 1) (w.heap.size + 1 + 1) w.heap.size wr (by omega) (fun i hi W hW => recv1_any u high low i _ _ _ W (HG.out.ext (EE.trans hW)) hru.out (by omega) (by omega) (by omega) (by omega) (hW.cell c1) (hW.cell c2) (hW.cell A.c1)))
        have hrn : halve (givesB (fracQ u) (high - low)) 0 1048577 = recN (fracQ u) (high - low) := rfl
        rw [hrn] at HS
        have hle := (rec_is (x := fracQ u) (d := high - low) (by omega)).1
        have hz3 := HZ.out
        generalize recN (fracQ u) (high - low) = N at HS m1 hle hz3
        have HM := Lib.hid (And.intro m1 hz3)
        clear m1 hz hz1 hz2 hz3 HZ M0 hrn
        go_wp2_with fail
        refine HS.out.mono ?_
        rintro e w5 ⟨rfl, hE5⟩
        by_cases hN : 1048576 < N
        · have h8 := HM.out.1
          rw [if_pos hN] at h8
          have HN := Lib.hid (And.intro h8 (HM.out.2.trans (if_neg (by omega))))
          clear h8 HM
          go_wp2
          go_ret2
          exact ⟨by rw [HN.out.1, HN.out.2]; rfl, EE.trans hE5⟩
        · have h8 := HM.out.1
          rw [if_neg hN] at h8
          have HN := Lib.hid (And.intro h8 (HM.out.2.trans (if_pos h8)))
          clear h8 HM
          go_wp2
          go_ret2
          exact ⟨by rw [HN.out.1, HN.out.2]; rfl, EE.trans hE5⟩
end Go.Proofs.YtlnonmmaknhppaaGreatDoor
namespace Go.Proofs.YtlnonmmaknhppaaGreatDoor
open Go.RowKit
def CellsI (w : World) (a : Option Addr) (l : List Int) : Prop := ∀ i, i < l.length → ∃ b off, a = some ⟨b, off, none⟩ ∧ w.cell? ⟨b, off + i, none⟩ = some (.int .i64 (l.getD i 0))
theorem CellsI.ext {w w' : World} {a : Option Addr} {l : List Int} (h : CellsI w a l) (he : Ext w w') : CellsI w' a l := fun i hi => by
  obtain ⟨b, off, h1, h2⟩ := h i hi
  exact ⟨b, off, h1, he.cell h2⟩
theorem CellsI.nil (w : World) (a : Option Addr) : CellsI w a [] := fun i hi => by simp at hi
def vals (l : List Int) : List Value := l.map (Value.int .i64)
def OwnsI (w : World) (v : Value) (l : List Int) : Prop := w.ownsRow 0 3 1 v l.length (vals l)
theorem OwnsI.nil (w : World) : OwnsI w (.slice none 0 0) [] := World.ownsRow_nil w 0 _ _
theorem OwnsI.ext {A B : World} {v : Value} {N : List Int} (ho : OwnsI A v N) (h : Ext A B) : OwnsI B v N := rowExt ho h
theorem OwnsI.lt {A : World} {v : Value} {N : List Int} (ho : OwnsI A v N) {b : Nat} (hb : v.ownBlock = some b) : b < A.heap.size := (World.ownsRow.lt ho b hb).2
theorem OwnsI.reads {A : World} {v : Value} {N : List Int} (ho : OwnsI A v N) : ∃ a cap, v = .slice a N.length cap ∧ CellsI A a N ∧ (N = [] ∨ ∃ b, a = some ⟨b, 0, none⟩ ∧ v.ownBlock = some b ∧ ∀ i, i < N.length → A.cell? ⟨b, i, none⟩ = some (.int .i64 (N.getD i 0)) ∧ A.frozen? ⟨b, i, none⟩ = false) := by
  rcases ho.2 with ⟨hv, hn⟩ | ⟨g, cap, cur, hv, hg, hh, hnc, hm, hcs, ht⟩
  · have : N = [] := List.eq_nil_of_length_eq_zero hn
    subst this
    exact ⟨none, 0, hv, CellsI.nil _ _, .inl rfl⟩
  · have key : ∀ i, i < N.length → A.cell? ⟨g, i, none⟩ = some (.int .i64 (N.getD i 0)) := fun i hi => by
      have hc := World.ownsRow.cells ho (g := g) (by rw [hv]; rfl)
      have := hc i (.int .i64 (N.getD i 0)) (by simp [vals, List.getD, hi])
      rwa [Addr.add_lit, Nat.zero_add] at this
    refine ⟨some ⟨g, 0, none⟩, cap, hv, fun i hi => ⟨g, 0, rfl, by rw [Nat.zero_add]; exact key i hi⟩, .inr ⟨g, rfl, by rw [hv]; rfl, fun i hi => ⟨key i hi, ?_⟩⟩⟩
    have ho' : A.ownsRow 0 3 1 (.slice (some ⟨g, 0, none⟩) N.length cap) N.length (vals N) := by have h9 := ho; unfold OwnsI at h9; rw [hv] at h9; exact h9
    exact ho'.frozenAt i
theorem OwnsI.isCells {A : World} {v : Value} {N : List Int} (h : OwnsI A v N) {b : Nat} (hb : v.ownBlock = some b) {o : Obj} (ho : A.heap[b]? = some o) : o.isCells = true := by
  rcases h.2 with ⟨hv, _⟩ | ⟨g, cap, cur, hv, _, hh, _⟩
  · rw [hv] at hb; cases hb
  · rw [hv] at hb; cases hb
    rw [hh] at ho; cases ho; rfl
end Go.Proofs.YtlnonmmaknhppaaGreatDoor
namespace Go.Proofs.YtlnonmmaknhppaaGreatDoor
open Go.RowKit
open Go.Lib (decDigits itoa)
theorem bore_force {b p : Int} (h1 : 1 ≤ b) (h2 : b ≤ 500) (h3 : 1 ≤ p) (h4 : p ≤ 2000) : timesE piE [(faceN ⟨b, 0, 0⟩ true, 4), (p, 1000)] = (forceT ⟨b, 0, 1⟩ true p, 0) ∧ GoodE 13 (forceT ⟨b, 0, 1⟩ true p) (pushL b p) (byQ (faceH ⟨b, 0, 1⟩ true) p 1000) := by
  have hk : CylOk ⟨b, 0, 1⟩ := ⟨h1, h2, by dsimp only; omega, by dsimp only; omega, by dsimp only; omega, by dsimp only; omega⟩
  exact ⟨force_times hk true h3 h4, force_good hk true h3 h4⟩
set_option maxHeartbeats 16000000 in
set_option maxRecDepth 100000 in
theorem bore1_any (l : List Int) (a : Option Addr) (cap i p1 p2 p3 : Nat) (p : Int) (nd : Txt) (w : World) (hG : Glob w) (hi : i < l.length) (_ : l.length ≤ 1000) (hb : 1 ≤ l.getD i 0 ∧ l.getD i 0 ≤ 500) (hp1 : 1 ≤ p) (hp2 : p ≤ 2000) (hn : fracE nd = 0) (hc : CellsI w a l)
    (c1 : w.cell? ⟨p1, 0, none⟩ = some (.slice a l.length cap)) (c2 : w.cell? ⟨p2, 0, none⟩ = some (.int .i64 p)) (c3 : w.cell? ⟨p3, 0, none⟩ = some (txt nd)) :
    Calls Tryz.prog 52 #[.int .i64 i, .pointer (some ⟨p1, 0, none⟩), .pointer (some ⟨p2, 0, none⟩), .pointer (some ⟨p3, 0, none⟩)] w fun e w' => e = .returned (.bool (enoughB (fracQ nd) p (l.getD i 0))) ∧ Ext w w' := by
  obtain ⟨cb, co, rfl, c4⟩ := hc i hi
  generalize l.getD i 0 = b at hb c4 ⊢
  obtain ⟨g1, g2⟩ := bore_force hb.1 hb.2 hp1 hp2
  have HF := Lib.hid (fun W qa qc (g : Ext w W) hq => face_any ⟨b, 0, 0⟩ true [(p, 1000)] qa qc W (hG.ext g) ⟨hb.1, hb.2, by dsimp only; omega, by dsimp only; omega⟩ hq (fun x hx => by simp at hx; subst hx; exact qok_small (by omega) (by omega) (by decide) (by decide)) (by simp))
  rw [g1] at HF
  have HC := Lib.hid (fun W (g : Ext w W) => compareF_any (forceT ⟨b, 0, 1⟩ true p).1 nd W (hG.ext g) g2.lo.len (len_right hn))
  rw [cmp_good (bothE_zero g2.lo.ok hn)] at HC
  have hord : 0 ≤ ordQ (forceT ⟨b, 0, 1⟩ true p).1 nd ↔ enoughB (fracQ nd) p b = true := by
    rw [ord_ge, g2.lo.val]
    unfold enoughB
    rw [decide_eq_true_eq]
  unfold EncP at HF
  unfold IntP at HC
  generalize forceT ⟨b, 0, 1⟩ true p = tt at HF HC hord
  obtain ⟨t1, t2⟩ := tt
  dsimp only [encV, cylV] at HF HC hord
  generalize ordQ t1 nd = q at HC hord
  obtain ⟨R, hR⟩ : ∃ R, R = enoughB (fracQ nd) p b := ⟨_, rfl⟩
  rw [← hR] at hord ⊢
  have hRq : Hid (R = decide (0 ≤ q)) := by
    show _ = _
    cases hr : R
    · rw [hr] at hord
      have : ¬ (0 ≤ q) := fun h => by have := hord.1 h; cases this
      rw [decide_eq_false this]
    · rw [hr] at hord
      rw [decide_eq_true (hord.2 rfl)]
  clear hord hR g1 g2 hb hp1 hp2 hn hG hc
  have hlt : (i : Int) < (l.length : Int) := by omega
  go_enter Tryz.func52, Tryz.ntmps52
  go_wp2
  go_cut [6, 7] (fun x y wx => ∃ b2, x = .pointer (some ⟨b2, 0, none⟩) ∧ y = .int .i64 0 ∧ Hid (EncAt b2 wx t1 t2) ∧ Ext w wx)
  case first =>
    refine wp_region_heldE 13 (fun w' => w'.cell? ⟨p1, 0, none⟩ = some (.slice (some ⟨cb, co, none⟩) l.length cap) ∧ w'.cell? ⟨p2, 0, none⟩ = some (.int .i64 p) ∧ w'.cell? ⟨cb, co + i, none⟩ = some (.int .i64 b)) (by kernel_rfl) ?_
    have ED : Ext w w.drew := extA
    have hS : w.drew.cell? ⟨p1, 0, none⟩ = some (.slice (some ⟨cb, co, none⟩) l.length cap) ∧ w.drew.cell? ⟨p2, 0, none⟩ = some (.int .i64 p) ∧ w.drew.cell? ⟨cb, co + i, none⟩ = some (.int .i64 b) := ⟨ED.cell c1, ED.cell c2, ED.cell c4⟩
    clear c1 c2 c3 c4
    generalize w.drew = W2 at ED hS ⊢
    have E := ED
    clear ED
    (refine eTk 0 ?_)
    (refine ePu 1 ?_)
    ((refine eTk 2 ?_); (refine eTk 3 ?_); (refine eTk 5 ?_))
    ((refine ePu 4 ?_); (refine ePu 6 ?_))
    refine wpAnyE_two (i := 7) (j := 12) (o := ?_) (p := ?_) ?_ ?_ (by kernel_rfl) (fun K hK => ?_) (fun K hK => ?_)
    rotate_left 2
    · simp only [List.getElem?_toArray, List.getElem?_cons_succ, List.getElem?_cons_zero]; exact rfl
    · simp only [List.getElem?_toArray, List.getElem?_cons_succ, List.getElem?_cons_zero]; exact rfl
    · have EQ : Ext W2 (W2.alloc (.cells #[.int .i64 p, .int .i64 1000] 90)) := extA
      have CQ := Lib.hid (cellsQt_one W2 (p, 1000) 90)
      have hS7 : (W2.alloc (.cells #[.int .i64 p, .int .i64 1000] 90)).cell? ⟨p1, 0, none⟩ = some (.slice (some ⟨cb, co, none⟩) l.length cap) ∧ (W2.alloc (.cells #[.int .i64 p, .int .i64 1000] 90)).cell? ⟨p2, 0, none⟩ = some (.int .i64 p) ∧ (W2.alloc (.cells #[.int .i64 p, .int .i64 1000] 90)).cell? ⟨cb, co + i, none⟩ = some (.int .i64 b) := ⟨EQ.cell hS.1, EQ.cell hS.2.1, EQ.cell hS.2.2⟩
      obtain ⟨qb, hqb⟩ : ∃ q, q = W2.heap.size := ⟨_, rfl⟩
      go_simp
      refine hK.out _ _ hS7 (fun hHeld => ?_)
      clear hK K hHeld
      (try simp only [Act.put, List.setIfInBounds_toArray, List.set_cons_zero, List.set_cons_succ])
      rw [← hqb] at CQ ⊢
      clear hqb hS
      replace E := E.trans EQ
      clear EQ
      have hS := hS7
      clear hS7
      generalize (W2.alloc (.cells #[.int .i64 p, .int .i64 1000] 90)) = W2 at E CQ hS ⊢
      refine wpAnyE_two (i := 8) (j := 12) (o := ?_) (p := ?_) ?_ ?_ (by kernel_rfl) (fun K hK => ?_) (fun K hK => ?_)
      rotate_left 2
      · simp only [List.getElem?_toArray, List.getElem?_cons_succ, List.getElem?_cons_zero]; exact rfl
      · simp only [List.getElem?_toArray, List.getElem?_cons_succ, List.getElem?_cons_zero]; exact rfl
      · go_simp
        refine (HF.out _ _ 1 E CQ.out).mono ?_
        rintro e w8 ⟨rfl, hE⟩
        go_wp2_with fail
        refine hK.out _ _ ⟨hE.cell hS.1, hE.cell hS.2.1, hE.cell hS.2.2⟩ (fun hHeld => ?_)
        clear hK K hHeld
        (try simp only [Act.put, List.setIfInBounds_toArray, List.set_cons_zero, List.set_cons_succ])
        replace E := E.trans hE
        replace hS : w8.cell? ⟨p1, 0, none⟩ = some (.slice (some ⟨cb, co, none⟩) l.length cap) ∧ w8.cell? ⟨p2, 0, none⟩ = some (.int .i64 p) ∧ w8.cell? ⟨cb, co + i, none⟩ = some (.int .i64 b) := ⟨hE.cell hS.1, hE.cell hS.2.1, hE.cell hS.2.2⟩
        clear hE
        generalize w8 = W2 at E hS ⊢
        ((refine ePu 9 ?_); (refine ePu 10 ?_); (refine ePu 11 ?_))
        have EA : Ext W2 (W2.alloc (.cells #[.string ⟨#[]⟩, .string ⟨#[]⟩] 35)) := extA
        have X : EncAt W2.heap.size (W2.alloc (.cells #[.string ⟨#[]⟩, .string ⟨#[]⟩] 35)) [] [] := ⟨by go_simp, by go_simp, by go_simp, by go_simp⟩
        have hS12 : (W2.alloc (.cells #[.string ⟨#[]⟩, .string ⟨#[]⟩] 35)).cell? ⟨p1, 0, none⟩ = some (.slice (some ⟨cb, co, none⟩) l.length cap) ∧ (W2.alloc (.cells #[.string ⟨#[]⟩, .string ⟨#[]⟩] 35)).cell? ⟨p2, 0, none⟩ = some (.int .i64 p) ∧ (W2.alloc (.cells #[.string ⟨#[]⟩, .string ⟨#[]⟩] 35)).cell? ⟨cb, co + i, none⟩ = some (.int .i64 b) := ⟨EA.cell hS.1, EA.cell hS.2.1, EA.cell hS.2.2⟩
        obtain ⟨xb, hxb⟩ : ∃ q, q = W2.heap.size := ⟨_, rfl⟩
        have hxg : w.heap.size ≤ xb := by rw [hxb]; exact E.size
        (refine wpAnyE_one (i := 12) (o := ?_) ?_ (by kernel_rfl) (fun K hK => ?_); rotate_left; (focus ((simp only [List.getElem?_toArray, List.getElem?_cons_succ, List.getElem?_cons_zero]; exact rfl))); go_simp; refine hK.out _ _ ?_ (fun hHeld => ?_); rotate_left; clear hK K; (try simp only [Act.put, List.setIfInBounds_toArray, List.set_cons_zero, List.set_cons_succ]))
        rotate_left
        · exact hS12
        clear hHeld
        rw [← hxb] at X ⊢
        clear hxb hS
        replace E := E.trans EA
        clear EA
        have hS := hS12
        clear hS12
        generalize (W2.alloc (.cells #[.string ⟨#[]⟩, .string ⟨#[]⟩] 35)) = W2 at E X hS ⊢
        obtain ⟨x0, x1, x2, x3⟩ := X
        have z0 := cell_lt x0
        dsimp only at z0
        (refine wpAnyE_free (i := 13) (o := ?_) ?_ (by kernel_rfl) (by kernel_rfl) (fun K hK => ?_); rotate_left; (focus ((simp only [List.getElem?_toArray, List.getElem?_cons_succ, List.getElem?_cons_zero]; exact rfl))); go_simp; refine hK.out _ _ ?_; clear hK K; (try simp only [Act.put, List.setIfInBounds_toArray, List.set_cons_zero, List.set_cons_succ]))
        (refine ePu 14 ?_)
        refine wpAnyE_done (by kernel_rfl) ?_ _
        go_wp2_with fail
        go_meet
        have XF : EncAt xb ((W2.setCell ⟨xb, 0, none⟩ (txt t1)).setCell ⟨xb, 1, none⟩ (txt t2)) t1 t2 := ((EncAt.mk x0 x1 x2 x3).set0 t1).set1 t2
        exact ⟨xb, rfl, rfl, XF, (E.set (b := xb) (o := 0) hxg (txt t1)).set (b := xb) (o := 1) hxg (txt t2)⟩
      · have EA : Ext W2 (W2.alloc (.cells #[.string ⟨#[]⟩, .string ⟨#[]⟩] 35)) := extA
        have X : EncAt W2.heap.size (W2.alloc (.cells #[.string ⟨#[]⟩, .string ⟨#[]⟩] 35)) [] [] := ⟨by go_simp, by go_simp, by go_simp, by go_simp⟩
        have hS12 : (W2.alloc (.cells #[.string ⟨#[]⟩, .string ⟨#[]⟩] 35)).cell? ⟨p1, 0, none⟩ = some (.slice (some ⟨cb, co, none⟩) l.length cap) ∧ (W2.alloc (.cells #[.string ⟨#[]⟩, .string ⟨#[]⟩] 35)).cell? ⟨p2, 0, none⟩ = some (.int .i64 p) ∧ (W2.alloc (.cells #[.string ⟨#[]⟩, .string ⟨#[]⟩] 35)).cell? ⟨cb, co + i, none⟩ = some (.int .i64 b) := ⟨EA.cell hS.1, EA.cell hS.2.1, EA.cell hS.2.2⟩
        obtain ⟨xb, hxb⟩ : ∃ q, q = W2.heap.size := ⟨_, rfl⟩
        have hxg : w.heap.size ≤ xb := by rw [hxb]; exact E.size
        go_simp
        refine hK.out _ _ hS12 (fun hHeld => ?_)
        clear hK K hHeld
        (try simp only [Act.put, List.setIfInBounds_toArray, List.set_cons_zero, List.set_cons_succ])
        rw [← hxb] at X ⊢
        clear hxb hS
        replace E := E.trans EA
        replace CQ := Lib.hid (CQ.out.ext EA)
        clear EA
        have hS := hS12
        clear hS12
        generalize (W2.alloc (.cells #[.string ⟨#[]⟩, .string ⟨#[]⟩] 35)) = W2 at E X CQ hS ⊢
        (refine wpAnyE_one (i := 8) (o := ?_) ?_ (by kernel_rfl) (fun K hK => ?_); rotate_left; (focus ((simp only [List.getElem?_toArray, List.getElem?_cons_succ, List.getElem?_cons_zero]; exact rfl))); go_simp; refine (HF.out _ _ 1 E CQ.out).mono ?_; rintro e w8 ⟨rfl, hE⟩; go_wp2_with fail; refine hK.out _ _ ?_ (fun hHeld => ?_); rotate_left; clear hK K; (try simp only [Act.put, List.setIfInBounds_toArray, List.set_cons_zero, List.set_cons_succ]))
        rotate_left
        · exact ⟨hE.cell hS.1, hE.cell hS.2.1, hE.cell hS.2.2⟩
        clear hHeld
        replace E := E.trans hE
        replace hS : w8.cell? ⟨p1, 0, none⟩ = some (.slice (some ⟨cb, co, none⟩) l.length cap) ∧ w8.cell? ⟨p2, 0, none⟩ = some (.int .i64 p) ∧ w8.cell? ⟨cb, co + i, none⟩ = some (.int .i64 b) := ⟨hE.cell hS.1, hE.cell hS.2.1, hE.cell hS.2.2⟩
        replace X := X.ext hE
        clear hE
        generalize w8 = W2 at E hS X ⊢
        ((refine ePu 9 ?_); (refine ePu 10 ?_); (refine ePu 11 ?_))
        obtain ⟨x0, x1, x2, x3⟩ := X
        have z0 := cell_lt x0
        dsimp only at z0
        (refine wpAnyE_free (i := 13) (o := ?_) ?_ (by kernel_rfl) (by kernel_rfl) (fun K hK => ?_); rotate_left; (focus ((simp only [List.getElem?_toArray, List.getElem?_cons_succ, List.getElem?_cons_zero]; exact rfl))); go_simp; refine hK.out _ _ ?_; clear hK K; (try simp only [Act.put, List.setIfInBounds_toArray, List.set_cons_zero, List.set_cons_succ]))
        (refine ePu 14 ?_)
        refine wpAnyE_done (by kernel_rfl) ?_ _
        go_wp2_with fail
        go_meet
        have XF : EncAt xb ((W2.setCell ⟨xb, 0, none⟩ (txt t1)).setCell ⟨xb, 1, none⟩ (txt t2)) t1 t2 := ((EncAt.mk x0 x1 x2 x3).set0 t1).set1 t2
        exact ⟨xb, rfl, rfl, XF, (E.set (b := xb) (o := 0) hxg (txt t1)).set (b := xb) (o := 1) hxg (txt t2)⟩
    · have EA : Ext W2 (W2.alloc (.cells #[.string ⟨#[]⟩, .string ⟨#[]⟩] 35)) := extA
      have X : EncAt W2.heap.size (W2.alloc (.cells #[.string ⟨#[]⟩, .string ⟨#[]⟩] 35)) [] [] := ⟨by go_simp, by go_simp, by go_simp, by go_simp⟩
      have hS12 : (W2.alloc (.cells #[.string ⟨#[]⟩, .string ⟨#[]⟩] 35)).cell? ⟨p1, 0, none⟩ = some (.slice (some ⟨cb, co, none⟩) l.length cap) ∧ (W2.alloc (.cells #[.string ⟨#[]⟩, .string ⟨#[]⟩] 35)).cell? ⟨p2, 0, none⟩ = some (.int .i64 p) ∧ (W2.alloc (.cells #[.string ⟨#[]⟩, .string ⟨#[]⟩] 35)).cell? ⟨cb, co + i, none⟩ = some (.int .i64 b) := ⟨EA.cell hS.1, EA.cell hS.2.1, EA.cell hS.2.2⟩
      obtain ⟨xb, hxb⟩ : ∃ q, q = W2.heap.size := ⟨_, rfl⟩
      have hxg : w.heap.size ≤ xb := by rw [hxb]; exact E.size
      go_simp
      refine hK.out _ _ hS12 (fun hHeld => ?_)
      clear hK K hHeld
      (try simp only [Act.put, List.setIfInBounds_toArray, List.set_cons_zero, List.set_cons_succ])
      rw [← hxb] at X ⊢
      clear hxb hS
      replace E := E.trans EA
      clear EA
      have hS := hS12
      clear hS12
      generalize (W2.alloc (.cells #[.string ⟨#[]⟩, .string ⟨#[]⟩] 35)) = W2 at E X hS ⊢
      have EQ : Ext W2 (W2.alloc (.cells #[.int .i64 p, .int .i64 1000] 90)) := extA
      have CQ := Lib.hid (cellsQt_one W2 (p, 1000) 90)
      have hS7 : (W2.alloc (.cells #[.int .i64 p, .int .i64 1000] 90)).cell? ⟨p1, 0, none⟩ = some (.slice (some ⟨cb, co, none⟩) l.length cap) ∧ (W2.alloc (.cells #[.int .i64 p, .int .i64 1000] 90)).cell? ⟨p2, 0, none⟩ = some (.int .i64 p) ∧ (W2.alloc (.cells #[.int .i64 p, .int .i64 1000] 90)).cell? ⟨cb, co + i, none⟩ = some (.int .i64 b) := ⟨EQ.cell hS.1, EQ.cell hS.2.1, EQ.cell hS.2.2⟩
      obtain ⟨qb, hqb⟩ : ∃ q, q = W2.heap.size := ⟨_, rfl⟩
      (refine wpAnyE_one (i := 7) (o := ?_) ?_ (by kernel_rfl) (fun K hK => ?_); rotate_left; (focus ((simp only [List.getElem?_toArray, List.getElem?_cons_succ, List.getElem?_cons_zero]; exact rfl))); go_simp; refine hK.out _ _ ?_ (fun hHeld => ?_); rotate_left; clear hK K; (try simp only [Act.put, List.setIfInBounds_toArray, List.set_cons_zero, List.set_cons_succ]))
      rotate_left
      · exact hS7
      clear hHeld
      rw [← hqb] at CQ ⊢
      clear hqb hS
      replace X := X.ext EQ
      replace E := E.trans EQ
      clear EQ
      have hS := hS7
      clear hS7
      generalize (W2.alloc (.cells #[.int .i64 p, .int .i64 1000] 90)) = W2 at E X CQ hS ⊢
      (refine wpAnyE_one (i := 8) (o := ?_) ?_ (by kernel_rfl) (fun K hK => ?_); rotate_left; (focus ((simp only [List.getElem?_toArray, List.getElem?_cons_succ, List.getElem?_cons_zero]; exact rfl))); go_simp; refine (HF.out _ _ 1 E CQ.out).mono ?_; rintro e w8 ⟨rfl, hE⟩; go_wp2_with fail; refine hK.out _ _ ?_ (fun hHeld => ?_); rotate_left; clear hK K; (try simp only [Act.put, List.setIfInBounds_toArray, List.set_cons_zero, List.set_cons_succ]))
      rotate_left
      · exact ⟨hE.cell hS.1, hE.cell hS.2.1, hE.cell hS.2.2⟩
      clear hHeld
      replace E := E.trans hE
      replace hS : w8.cell? ⟨p1, 0, none⟩ = some (.slice (some ⟨cb, co, none⟩) l.length cap) ∧ w8.cell? ⟨p2, 0, none⟩ = some (.int .i64 p) ∧ w8.cell? ⟨cb, co + i, none⟩ = some (.int .i64 b) := ⟨hE.cell hS.1, hE.cell hS.2.1, hE.cell hS.2.2⟩
      replace X := X.ext hE
      clear hE
      generalize w8 = W2 at E hS X ⊢
      ((refine ePu 9 ?_); (refine ePu 10 ?_); (refine ePu 11 ?_))
      obtain ⟨x0, x1, x2, x3⟩ := X
      have z0 := cell_lt x0
      dsimp only at z0
      (refine wpAnyE_free (i := 13) (o := ?_) ?_ (by kernel_rfl) (by kernel_rfl) (fun K hK => ?_); rotate_left; (focus ((simp only [List.getElem?_toArray, List.getElem?_cons_succ, List.getElem?_cons_zero]; exact rfl))); go_simp; refine hK.out _ _ ?_; clear hK K; (try simp only [Act.put, List.setIfInBounds_toArray, List.set_cons_zero, List.set_cons_succ]))
      (refine ePu 14 ?_)
      refine wpAnyE_done (by kernel_rfl) ?_ _
      go_wp2_with fail
      go_meet
      have XF : EncAt xb ((W2.setCell ⟨xb, 0, none⟩ (txt t1)).setCell ⟨xb, 1, none⟩ (txt t2)) t1 t2 := ((EncAt.mk x0 x1 x2 x3).set0 t1).set1 t2
      exact ⟨xb, rfl, rfl, XF, (E.set (b := xb) (o := 0) hxg (txt t1)).set (b := xb) (o := 1) hxg (txt t2)⟩
  case rest =>
    obtain ⟨b2, rfl, rfl, HB2, hE⟩ := hcut
    have c3 := hE.cell c3
    have z3 := cell_lt c3
    obtain ⟨x0, x1, x2, x3⟩ := HB2.out
    have z0 := cell_lt x0
    dsimp only at z0 z3
    go_wp2_with fail
    refine (HC.out _ hE).mono ?_
    rintro e w2 ⟨rfl, hE2⟩
    have E := hE.trans hE2
    have hx := hRq.out
    go_wp2
    go_ret
    exact ⟨ret_bool hx.symm, E⟩
end Go.Proofs.YtlnonmmaknhppaaGreatDoor
namespace Go.Proofs.YtlnonmmaknhppaaGreatDoor
open Go.RowKit
open Go.Lib (decDigits itoa)
set_option maxHeartbeats 4000000 in
set_option maxRecDepth 100000 in
theorem partsF_any (a : Txt) (w : World) (hG : Glob w) (ha : a.length ≤ 400) : Calls Tryz.prog 94 #[txt a] w (ParP (partsR a) w) := by
  have HC := Lib.hid (check_any a w hG ha)
  have HCut := Lib.hid (fun W (hW : Ext w W) => Cut_any a W (hG.ext hW) (by omega))
  clear hG
  unfold ParP
  by_cases ea : fracE a = 0
  · rw [parts_ok ea]
    rw [ea] at HC
    clear ea
    have hne0 : (((0 : Nat) : Int) != 0) = false := rfl
    by_cases hs : 47 ∈ a
    · rw [if_pos hs, decide_eq_true hs] at HCut
      clear hs
      generalize topS a = n at *
      generalize lowS a = d at *
      go_enter Tryz.func94, Tryz.ntmps94
      go_wp2_with (first
        | (go_at_call 137; with_reducible refine HC.out.mono ?_; rintro e w1 ⟨rfl, hE⟩)
        | (go_at_call 113; with_reducible refine (HCut.out _ hE).mono ?_; rintro e w2 ⟨rfl, hE2⟩))
      go_ret3
      exact ⟨rfl, hE.trans hE2⟩
    · rw [if_neg hs, decide_eq_false hs] at HCut
      rw [(split_none hs).2]
      clear hs
      generalize topS a = n at *
      go_enter Tryz.func94, Tryz.ntmps94
      go_wp2_with (first
        | (go_at_call 137; with_reducible refine HC.out.mono ?_; rintro e w1 ⟨rfl, hE⟩)
        | (go_at_call 113; with_reducible refine (HCut.out _ hE).mono ?_; rintro e w2 ⟨rfl, hE2⟩))
      go_ret3
      exact ⟨rfl, hE.trans hE2⟩
  · rw [parts_bad ea]
    have hne : (((fracE a : Nat) : Int) != 0) = true := by rw [bne_iff_ne]; omega
    clear ea HCut
    generalize fracE a = n at *
    go_enter Tryz.func94, Tryz.ntmps94
    go_wp2_with (go_at_call 137; with_reducible refine HC.out.mono ?_; rintro e w1 ⟨rfl, hE⟩)
    go_ret3
    exact ⟨rfl, hE⟩
end Go.Proofs.YtlnonmmaknhppaaGreatDoor
namespace Go.Proofs.YtlnonmmaknhppaaGreatDoor
open Go.RowKit
open Go.Lib (decDigits itoa)
def largeB (m : Txt) : Bool := decide (30 < (topS m).length) || decide (30 < (lowS m).length)
def demE (m : Txt) : Nat := if fracE m ≠ 0 then fracE m else if fracQ m < 1 then 2 else if 10 < fracQ m then 2 else if largeB m = true then 11 else 0
theorem margin_good {m : Txt} (h : fracE m = 0) (hb : largeB m = false) : Good 30 m (fracQ m) := by
  obtain ⟨h1, h2, h3, h4, h5, _, _⟩ := frac_parts h
  unfold largeB at hb
  simp only [Bool.or_eq_false_iff, decide_eq_false_iff_not] at hb
  refine ⟨h, rfl, ?_⟩
  unfold fracQ
  have hd : ∀ l : Txt, DigitL l → l.length ≤ 30 → decV l < 10 ^ 30 := fun l hl hn => Nat.lt_of_lt_of_le (decV_lt hl) (Nat.pow_le_pow_right (by omega) hn)
  refine fit_mk (by omega) ?_ ?_
  · rw [intV_abs]
    refine hd _ h1.1.1 ?_
    have : (bareS (topS m)).length ≤ (topS m).length := by unfold bareS; split <;> simp
    omega
  · exact hd _ h3.1 (by omega)
def needT (load : Int) (m : Txt) : Txt := fracT ((load : Rat) * fracQ m)
theorem need_good {load : Int} {m : Txt} (h : demE m = 0) (h0 : 0 ≤ load) (h1 : load ≤ 1000000) : mulS (itoa load) m = (needT load m, 0) ∧ Good 38 (needT load m) ((load : Rat) * fracQ m) := by
  unfold demE at h
  split at h
  · rename_i g; exact absurd h g
  · rename_i g
    split at h
    · cases h
    · split at h
      · cases h
      · split at h
        · cases h
        · rename_i g2
          have hb : largeB m = false := by simpa using g2
          exact (int_good (n := load) (K := 8) (by omega) (by omega) (by omega)).mul (margin_good (Decidable.not_not.1 g) hb) (by omega)
theorem one1_good : Good 1 [49] 1 := ⟨by decide, by decide +kernel, by unfold FitB; decide +kernel⟩
theorem ten_good : Good 2 [49, 48] 10 := ⟨by decide, by decide +kernel, by unfold FitB; decide +kernel⟩
theorem ord_vals (a b : Txt) : ordQ a b = -1 ∨ ordQ a b = 0 ∨ ordQ a b = 1 := by
  unfold ordQ
  rcases Int.lt_trichotomy (fracQ a - fracQ b).num 0 with h | h | h
  · exact .inl (Int.sign_eq_neg_one_of_neg h)
  · rw [h]; exact .inr (.inl rfl)
  · exact .inr (.inr (Int.sign_eq_one_of_pos h))
theorem lim_one {m : Txt} : (ordQ m [49] == (-1 : Int)) = decide (fracQ m < 1) := by
  have h1 := ord_lt (a := m) (b := [49])
  rw [one1_good.val] at h1
  rw [Bool.eq_iff_iff, beq_iff_eq, decide_eq_true_eq, ← h1]
  rcases ord_vals m [49] with h | h | h <;> omega
theorem lim_ten {m : Txt} : (ordQ m [49, 48] == (1 : Int)) = decide (10 < fracQ m) := by
  have h1 := ord_gt (a := m) (b := [49, 48])
  rw [ten_good.val] at h1
  rw [Bool.eq_iff_iff, beq_iff_eq, decide_eq_true_eq, ← h1]
  rcases ord_vals m [49, 48] with h | h | h <;> omega
set_option maxHeartbeats 8000000 in
set_option maxRecDepth 100000 in
theorem demand_any (load : Int) (m : Txt) (w : World) (hG : Glob w) (hm : m.length ≤ 400) (h0 : 0 ≤ load) (h1 : load ≤ 1000000) :
    Calls Tryz.prog 50 #[.int .i64 load, txt m] w fun e w' => e = .returned (.tuple #[txt (if demE m = 0 then needT load m else []), .int .i64 (demE m : Nat)]) ∧ Ext w w' := by
  have HPA := Lib.hid (fun W (g : Ext w W) => partsF_any m W (hG.ext g) hm)
  have HG := Lib.hid hG
  obtain ⟨R, hR⟩ : ∃ R, R = demE m := ⟨_, rfl⟩
  obtain ⟨Z, hZ⟩ : ∃ Z, Z = (if demE m = 0 then needT load m else []) := ⟨_, rfl⟩
  rw [← hZ, ← hR]
  have HNG := Lib.hid (fun h => (need_good (load := load) (m := m) h h0 h1).1)
  rw [← hR] at hZ
  have HRE := Lib.hid hR
  unfold demE at hR
  unfold ParP at HPA
  by_cases hf : fracE m = 0
  rotate_left
  · rw [parts_bad hf] at HPA
    rw [if_pos hf] at hR
    generalize fracE m = n at HPA hR hf
    have hne : (((n : Nat) : Int) != 0) = true := by rw [bne_iff_ne]; omega
    have HR := Lib.hid (And.intro hR (hZ.trans (if_neg (by omega))))
    clear hR hZ hf hG
    go_enter Tryz.func50, Tryz.ntmps50
    go_wp2_with fail
    refine (HPA.out _ (Ext.refl _)).mono ?_
    rintro e w1 ⟨rfl, hE⟩
    go_wp2
    go_ret2
    exact ⟨by rw [HR.out.1, HR.out.2]; rfl, hE⟩
  rw [parts_ok hf] at HPA
  rw [if_neg (not_not_intro hf)] at hR
  have HC := Lib.hid (fun (lt : Txt) W (g : Ext w W) (hl : fracE lt = 0) => compareF_any m lt W (hG.ext g) hm (len_right hl))
  have HM := Lib.hid (fun W (g : Ext w W) => mul_any (itoa load) m W (hG.ext g) (by have := itoa_len (n := load) (by omega) (by omega); omega) hm)
  have HW := Lib.hid (fun W (g : Ext w W) => whole_any load W (hG.ext g) (by omega) (by omega))
  have HL1 := Lib.hid (lim_one (m := m))
  have HL2 := Lib.hid (lim_ten (m := m))
  have HLG : Hid (largeB m = (decide (30 < (topS m).length) || decide (30 < (lowS m).length))) := rfl
  have HZ := Lib.hid hZ
  have HR := Lib.hid hR
  have HFM := Lib.hid hf
  clear hZ hR hf hG h0 h1
  go_enter Tryz.func50, Tryz.ntmps50
  go_wp2_with fail
  refine (HPA.out _ (Ext.refl _)).mono ?_
  rintro e w1 ⟨rfl, E⟩
  go_wp2
  have E1 : Ext w1 (w1.alloc (.cells #[txt [49], .int .i64 (-1), txt [49, 48], .int .i64 1] 136)) := extA
  have l0 : ((w1.alloc (.cells #[txt [49], .int .i64 (-1), txt [49, 48], .int .i64 1] 136))).cell? ⟨w1.heap.size, 0, none⟩ = some (txt [49]) := by go_simp
  have l1 : ((w1.alloc (.cells #[txt [49], .int .i64 (-1), txt [49, 48], .int .i64 1] 136))).cell? ⟨w1.heap.size, 1, none⟩ = some (.int .i64 (-1)) := by go_simp
  have l2 : ((w1.alloc (.cells #[txt [49], .int .i64 (-1), txt [49, 48], .int .i64 1] 136))).cell? ⟨w1.heap.size, 2, none⟩ = some (txt [49, 48]) := by go_simp
  have l3 : ((w1.alloc (.cells #[txt [49], .int .i64 (-1), txt [49, 48], .int .i64 1] 136))).cell? ⟨w1.heap.size, 3, none⟩ = some (.int .i64 1) := by go_simp
  obtain ⟨lb, hlb⟩ : ∃ lb, lb = w1.heap.size := ⟨_, rfl⟩
  rw [← hlb] at l0 l1 l2 l3 ⊢
  clear hlb
  replace E := E.trans E1
  clear E1
  generalize (w1.alloc (.cells #[txt [49], .int .i64 (-1), txt [49, 48], .int .i64 1] 136)) = W at E l0 l1 l2 l3 ⊢
  have PL : Hid (∀ k : Nat, k < 2 → ∃ (lt : Txt) (sg : Int), W.cell? ⟨lb, k * 2, none⟩ = some (txt lt) ∧ W.cell? ⟨lb, k * 2 + 1, none⟩ = some (.int .i64 sg) ∧ fracE lt = 0 ∧ (k = 0 → (ordQ m lt == sg) = decide (fracQ m < 1)) ∧ (k = 1 → (ordQ m lt == sg) = decide (10 < fracQ m))) := fun k hk => by
    have : k = 0 ∨ k = 1 := by omega
    rcases this with rfl | rfl
    · exact ⟨[49], -1, l0, l1, by decide, fun _ => HL1.out, fun h => (by cases h)⟩
    · exact ⟨[49, 48], 1, l2, l3, by decide, fun h => (by cases h), fun _ => HL2.out⟩
  clear l0 l1 l2 l3
  go_loopw [26] (fun x wr => ∃ k : Nat, k ≤ 2 ∧ x = .int .i64 k ∧ Hid ((1 ≤ k → decide (fracQ m < 1) = false) ∧ (2 ≤ k → decide (10 < fracQ m) = false)) ∧ Ext W wr) (fun x _ => 2 - (intOf x).toNat)
  case atStart => exact ⟨0, Nat.zero_le _, rfl, ⟨fun h => (by omega), fun h => (by omega)⟩, Ext.refl _⟩
  case round =>
    obtain ⟨k, hk, rfl, hz, he⟩ := hrel
    by_cases hlt : k < 2
    · obtain ⟨lt, sg, q0, q1, hfl, q2, q3⟩ := PL.out k hlt
      have q0 := he.cell q0
      have q1 := he.cell q1
      have zl := cell_lt q0
      dsimp only at zl
      have hcm : cmpS m lt = (ordQ m lt, 0) := cmp_good (bothE_zero HFM.out hfl)
      have HCC : Hid (∀ W', Ext w W' → Calls Tryz.prog 22 #[txt m, txt lt] W' fun e w' => e = .returned (.tuple #[.int .i64 (ordQ m lt), .int .i64 ((0 : Nat) : Int)]) ∧ Ext W' w') := fun W' g => by
        have := HC.out lt W' g hfl
        rw [hcm] at this
        exact this
      obtain ⟨od, hod⟩ : ∃ od, od = ordQ m lt := ⟨_, rfl⟩
      rw [← hod] at HCC q2 q3
      obtain ⟨bb, hbb⟩ : ∃ bb, bb = (od == sg) := ⟨_, rfl⟩
      have HB := Lib.hid (And.intro (fun h => (hbb.trans (q2 h) : bb = decide (fracQ m < 1))) (fun h => (hbb.trans (q3 h) : bb = decide (10 < fracQ m))))
      clear hfl hcm q2 q3 hod
      go_wp2_with fail
      have E5 : Ext wr (wr.alloc (.cells #[txt lt, .int .i64 sg] 136)) := extA
      have m0 : ((wr.alloc (.cells #[txt lt, .int .i64 sg] 136))).cell? ⟨wr.heap.size, 0, none⟩ = some (txt lt) := by go_simp
      have m1 : ((wr.alloc (.cells #[txt lt, .int .i64 sg] 136))).cell? ⟨wr.heap.size, 1, none⟩ = some (.int .i64 sg) := by go_simp
      refine (HCC.out _ (E.trans (he.trans E5))).mono ?_
      rintro e w5 ⟨rfl, hE⟩
      have m1 := hE.cell m1
      have zm := cell_lt m1
      dsimp only at zm
      have he2 := he.trans (E5.trans hE)
      clear hE E5 m0 q0 q1 zl he
      cases bb
      · have hne : (od == sg) = false := hbb.symm
        have HN : Hid ((1 ≤ k + 1 → decide (fracQ m < 1) = false) ∧ (2 ≤ k + 1 → decide (10 < fracQ m) = false)) := by
          have : k = 0 ∨ k = 1 := by omega
          rcases this with rfl | rfl
          · exact ⟨fun _ => (HB.out.1 rfl).symm, fun h => (by omega)⟩
          · exact ⟨fun _ => hz.out.1 (by omega), fun _ => (HB.out.2 rfl).symm⟩
        clear HB hz hbb
        go_wp2
        refine ⟨⟨k + 1, by omega, by go_num, HN.out, he2⟩, by simp [intOf]; omega⟩
      · have hne : (od == sg) = true := hbb.symm
        have HN : Hid (R = 2 ∧ Z = []) := by
          have hR2 : R = 2 := by
            have : k = 0 ∨ k = 1 := by omega
            rw [HR.out]
            rcases this with rfl | rfl
            · rw [if_pos (of_decide_eq_true (HB.out.1 rfl).symm)]
            · rw [if_neg (of_decide_eq_false (hz.out.1 (by omega))), if_pos (of_decide_eq_true (HB.out.2 rfl).symm)]
          exact ⟨hR2, by rw [HZ.out, if_neg (by omega)]⟩
        clear HB hz hbb
        go_wp2
        go_ret2
        exact ⟨by rw [HN.out.1, HN.out.2]; rfl, E.trans he2⟩
    · have hke : k = 2 := by omega
      subst hke
      have hz1 := of_decide_eq_false (hz.out.1 (by omega))
      have hz2 := of_decide_eq_false (hz.out.2 (by omega))
      have m1 := HR.out
      rw [if_neg hz1, if_neg hz2] at m1
      have EE := E.trans he
      by_cases hb : largeB m = true
      · rw [if_pos hb] at m1
        have HN := Lib.hid (And.intro m1 (HZ.out.trans (if_neg (by omega))))
        have hb2 := hb
        rw [HLG.out, Bool.or_eq_true, decide_eq_true_eq, decide_eq_true_eq] at hb2
        clear m1 hz hz1 hz2 hb
        by_cases hn : 30 < (topS m).length
        · have hn2 : (30 : Int) < ((topS m).length : Int) := by omega
          go_wp2
          go_ret2
          exact ⟨by rw [HN.out.1, HN.out.2]; rfl, EE⟩
        · have hd : 30 < (lowS m).length := hb2.resolve_left hn
          have hn2 : ¬ (30 : Int) < ((topS m).length : Int) := by omega
          have hd2 : (30 : Int) < ((lowS m).length : Int) := by omega
          go_wp2
          go_ret2
          exact ⟨by rw [HN.out.1, HN.out.2]; rfl, EE⟩
      · rw [if_neg hb] at m1
        have HN := Lib.hid (And.intro m1 (HZ.out.trans (if_pos m1)))
        have hb2 : largeB m = false := by simpa using hb
        rw [HLG.out] at hb2
        simp only [Bool.or_eq_false_iff, decide_eq_false_iff_not] at hb2
        obtain ⟨hn, hd⟩ := hb2
        have hn2 : ¬ (30 : Int) < ((topS m).length : Int) := by omega
        have hd2 : ¬ (30 : Int) < ((lowS m).length : Int) := by omega
        have hmul := HNG.out (HRE.out.symm.trans m1)
        rw [hmul] at HM
        unfold ResP at HM
        clear m1 hz hz1 hz2 hb hmul
        go_wp2_with fail
        refine (HW.out _ EE).mono ?_
        rintro e w5 ⟨rfl, hE⟩
        have E5 := EE.trans hE
        go_wp2_with fail
        refine (HM.out _ E5).mono ?_
        rintro e w6 ⟨rfl, hE6⟩
        go_wp2
        go_ret2
        exact ⟨by rw [HN.out.1, HN.out.2]; rfl, E5.trans hE6⟩
end Go.Proofs.YtlnonmmaknhppaaGreatDoor
namespace Go.Proofs.YtlnonmmaknhppaaGreatDoor
open Go.RowKit
open Go.Lib (decDigits itoa)
def lstGo (l : List Int) : Nat → Nat → Nat
  | 0, _ => 0
  | c + 1, k => if l.getD k 0 < 1 then 2 else if 500 < l.getD k 0 then 2 else if 0 < k ∧ l.getD k 0 ≤ l.getD (k - 1) 0 then 9 else lstGo l c (k + 1)
def listE (l : List Int) : Nat := if l.length = 0 then 13 else if 256 < l.length then 5 else lstGo l l.length 0
theorem lstGo_zero {l : List Int} : ∀ c k, lstGo l c k = 0 → ∀ j, k ≤ j → j < k + c → 1 ≤ l.getD j 0 ∧ l.getD j 0 ≤ 500 ∧ (0 < j → l.getD (j - 1) 0 < l.getD j 0) := by
  intro c
  induction c with
  | zero => intro k _ j h1 h2; omega
  | succ c ih =>
    intro k h j h1 h2
    unfold lstGo at h
    split at h
    · cases h
    · split at h
      · cases h
      · split at h
        · cases h
        · rename_i g1 g2 g3
          by_cases e : j = k
          · subst e
            exact ⟨by omega, by omega, fun hj => by
              have : ¬ (l.getD j 0 ≤ l.getD (j - 1) 0) := fun h => g3 ⟨hj, h⟩
              omega⟩
          · exact ih (k + 1) h j (by omega) (by omega)
theorem bores_of {l : List Int} (h : listE l = 0) : Bores l ∧ 0 < l.length ∧ l.length ≤ 256 := by
  unfold listE at h
  split at h
  · cases h
  · split at h
    · cases h
    · rename_i g1 g2
      have hz := lstGo_zero l.length 0 h
      refine ⟨⟨fun k hk => ?_, fun k hk => ?_⟩, by omega, by omega⟩
      · have := hz k (Nat.zero_le _) (by omega)
        exact ⟨this.1, this.2.1⟩
      · have := hz (k + 1) (Nat.zero_le _) (by omega)
        exact this.2.2 (by omega)
def boreX (load : Int) (m : Txt) : Rat := (load : Rat) * fracQ m
def boreE (l : List Int) (load p : Int) (m : Txt) : Nat :=
  if listE l ≠ 0 then listE l else if load < 0 then 2 else if 1000000 < load then 2 else if presB p = true then 2 else if demE m ≠ 0 then demE m else if boreN (boreX load m) p l = l.length then 6 else 0
def boreZ (l : List Int) (load p : Int) (m : Txt) : Int := if boreE l load p m = 0 then l.getD (boreN (boreX load m) p l) 0 else 0
theorem boreN_le {x : Rat} {p : Int} {l : List Int} (h : Bores l) (hp : 0 ≤ p) : boreN x p l ≤ l.length := by
  unfold boreN
  rw [halve_congr (g := atB x p l) l.length 0 l.length (by omega) (fun t ht => (atB_in ht).symm)]
  exact (halve_is (atB_mono h hp) l.length 0 l.length (by omega) (by omega)).2.1
set_option maxHeartbeats 16000000 in
set_option maxRecDepth 100000 in
theorem aBore_any (l : List Int) (a : Option Addr) (cap : Nat) (load p : Int) (m : Txt) (w : World) (hG : Glob w) (hm : m.length ≤ 400) (hc : CellsI w a l) :
    Calls Tryz.prog 14 #[.slice a l.length cap, .int .i64 load, .int .i64 p, txt m] w (IntP (boreZ l load p m) (boreE l load p m) w) := by
  have HG := Lib.hid hG
  have HC := Lib.hid hc
  obtain ⟨R, hR⟩ : ∃ R, R = boreE l load p m := ⟨_, rfl⟩
  obtain ⟨Z, hZ⟩ : ∃ Z, Z = boreZ l load p m := ⟨_, rfl⟩
  unfold IntP
  rw [← hR, ← hZ]
  unfold boreZ at hZ
  rw [← hR] at hZ
  unfold boreE at hR
  have HZ := Lib.hid hZ
  have c1 : (((w.alloc (.cells #[.slice a l.length cap] 22)).alloc (.cells #[.int .i64 p] 3))).cell? ⟨w.heap.size, 0, none⟩ = some (.slice a l.length cap) := by go_simp
  have c2 : (((w.alloc (.cells #[.slice a l.length cap] 22)).alloc (.cells #[.int .i64 p] 3))).cell? ⟨w.heap.size + 1, 0, none⟩ = some (.int .i64 p) := by go_simp
  have E : Ext w ((w.alloc (.cells #[.slice a l.length cap] 22)).alloc (.cells #[.int .i64 p] 3)) := extA
  obtain ⟨bs, hbs⟩ : ∃ bs, bs = w.heap.size := ⟨_, rfl⟩
  rw [← hbs] at c1 c2
  obtain ⟨LE, hLE⟩ : ∃ LE, LE = listE l := ⟨_, rfl⟩
  rw [← hLE] at hR
  have HLE := Lib.hid hLE
  unfold listE at hLE
  clear hZ hG hc
  by_cases h0 : l.length = 0
  · rw [if_pos h0] at hLE
    have HR : Hid (R = 13 ∧ Z = 0) := by
      have h1 : R = 13 := by rw [hR, hLE]; rfl
      exact ⟨h1, by rw [HZ.out, if_neg (by omega)]⟩
    have hz : ((l.length : Int) == 0) = true := by rw [h0]; rfl
    have hz2 : l = [] := List.eq_nil_of_length_eq_zero h0
    subst hz2
    clear hR hLE HLE hz h0
    go_enter Tryz.func14, Tryz.ntmps14
    go_wp2
    go_ret2
    exact ⟨by rw [HR.out.1, HR.out.2]; rfl, E⟩
  rw [if_neg h0] at hLE
  have hz1 : ((l.length : Int) == 0) = false := beq_eq_false_iff_ne.2 (by omega)
  have hz2 : ¬ (l = []) := fun h => h0 (by rw [h]; rfl)
  by_cases h256 : 256 < l.length
  · rw [if_pos h256] at hLE
    have HR : Hid (R = 5 ∧ Z = 0) := by
      have h1 : R = 5 := by rw [hR, hLE]; rfl
      exact ⟨h1, by rw [HZ.out, if_neg (by omega)]⟩
    have hz3 : (256 : Int) < (l.length : Int) := by omega
    clear hR hLE HLE
    go_enter Tryz.func14, Tryz.ntmps14
    go_wp2
    go_ret2
    exact ⟨by rw [HR.out.1, HR.out.2]; rfl, E⟩
  rw [if_neg h256] at hLE
  have hz3 : ¬ (256 : Int) < (l.length : Int) := by omega
  have HRR := Lib.hid hR
  clear hR
  go_enter Tryz.func14, Tryz.ntmps14
  go_wp2
  rw [← hbs]
  have HBS := Lib.hid hbs
  clear hbs
  generalize ((w.alloc (.cells #[.slice a l.length cap] 22)).alloc (.cells #[.int .i64 p] 3)) = W at c1 c2 E ⊢
  have M0 : Hid (LE = lstGo l l.length 0) := hLE
  clear hLE
  go_loopw [26] (fun x wr => ∃ k : Nat, k ≤ l.length ∧ x = .int .i64 k ∧ Hid (LE = lstGo l (l.length - k) k) ∧ Ext W wr) (fun x _ => l.length - (intOf x).toNat)
  case atStart => exact ⟨0, Nat.zero_le _, rfl, M0.out, Ext.refl _⟩
  case round =>
    obtain ⟨k, hk, rfl, hz, he⟩ := hrel
    have c1 := he.cell c1
    have c2 := he.cell c2
    have EE := E.trans he
    by_cases hlt : k < l.length
    · obtain ⟨cb, co, ha, e1⟩ := HC.out.ext EE k hlt
      have h1 := hz.out
      rw [show l.length - k = (l.length - (k + 1)) + 1 by omega] at h1
      unfold lstGo at h1
      obtain ⟨x, hx⟩ : ∃ x, x = l.getD k 0 := ⟨_, rfl⟩
      rw [← hx] at h1 e1
      have zc := cell_lt e1
      have z1 := cell_lt c1
      dsimp only at zc z1
      by_cases hx1 : x < 1
      · rw [if_pos hx1] at h1
        have HR : Hid (R = 2 ∧ Z = 0) := by
          have h2 : R = 2 := by rw [HRR.out, h1]; rfl
          exact ⟨h2, by rw [HZ.out, if_neg (by omega)]⟩
        subst ha
        clear h1 hz hx
        go_wp2
        go_ret2
        exact ⟨by rw [HR.out.1, HR.out.2]; rfl, EE⟩
      rw [if_neg hx1] at h1
      by_cases hx2 : 500 < x
      · rw [if_pos hx2] at h1
        have HR : Hid (R = 2 ∧ Z = 0) := by
          have h2 : R = 2 := by rw [HRR.out, h1]; rfl
          exact ⟨h2, by rw [HZ.out, if_neg (by omega)]⟩
        subst ha
        clear h1 hz hx
        go_wp2
        go_ret2
        exact ⟨by rw [HR.out.1, HR.out.2]; rfl, EE⟩
      rw [if_neg hx2] at h1
      by_cases hk0 : 0 < k
      · have hk1 : (0 : Int) < (k : Int) := by omega
        obtain ⟨cb2, co2, ha2, e2⟩ := HC.out.ext EE (k - 1) (by omega)
        rw [ha] at ha2
        cases ha2
        have u1 : IntKind.i64.wrap ((k : Int) - 1) = ((k - 1 : Nat) : Int) := by rw [IntWalk.i64_in _ (by omega)]; omega
        have hkl : k - 1 < l.length := by omega
        obtain ⟨k1, hkk⟩ : ∃ k1, k1 = k - 1 := ⟨_, rfl⟩
        rw [← hkk] at u1 hkl e2 h1
        obtain ⟨y, hy⟩ : ∃ y, y = l.getD k1 0 := ⟨_, rfl⟩
        rw [← hy] at e2 h1
        have hkl2 : (k1 : Int) < (l.length : Int) := by omega
        subst ha
        by_cases hxy : x ≤ y
        · rw [if_pos ⟨hk0, hxy⟩] at h1
          have HR : Hid (R = 9 ∧ Z = 0) := by
            have h2 : R = 9 := by rw [HRR.out, h1]; rfl
            exact ⟨h2, by rw [HZ.out, if_neg (by omega)]⟩
          clear h1 hz hx hy hkk
          go_wp2
          go_ret2
          exact ⟨by rw [HR.out.1, HR.out.2]; rfl, EE⟩
        · rw [if_neg (fun h => hxy h.2)] at h1
          have H1 := Lib.hid h1
          clear h1 hz hx hy hkk
          go_wp2
          refine ⟨⟨k + 1, by omega, by go_num, H1.out, he⟩, by simp [intOf]; omega⟩
      · have hk1 : ¬ (0 : Int) < (k : Int) := by omega
        rw [if_neg (fun h => hk0 h.1)] at h1
        have H1 := Lib.hid h1
        subst ha
        clear h1 hz hx
        go_wp2
        refine ⟨⟨k + 1, by omega, by go_num, H1.out, he⟩, by simp [intOf]; omega⟩
    · have hke : k = l.length := by omega
      subst hke
      have h1 := hz.out
      rw [Nat.sub_self] at h1
      have h1 : LE = 0 := h1
      have hB := bores_of (HLE.out.symm.trans h1)
      have h2 := HRR.out
      rw [h1, if_neg (not_not_intro rfl)] at h2
      have HH := Lib.hid (And.intro hB h2)
      clear h1 h2 hz hB
      have h2 := HH.out.2
      by_cases hl0 : load < 0
      · rw [if_pos hl0] at h2
        have HR : Hid (R = 2 ∧ Z = 0) := ⟨h2, by rw [HZ.out, if_neg (by omega)]⟩
        clear h2 HH
        go_wp2
        go_ret2
        exact ⟨by rw [HR.out.1, HR.out.2]; rfl, EE⟩
      rw [if_neg hl0] at h2
      by_cases hl1 : 1000000 < load
      · rw [if_pos hl1] at h2
        have HR : Hid (R = 2 ∧ Z = 0) := ⟨h2, by rw [HZ.out, if_neg (by omega)]⟩
        clear h2 HH
        go_wp2
        go_ret2
        exact ⟨by rw [HR.out.1, HR.out.2]; rfl, EE⟩
      rw [if_neg hl1] at h2
      have HPR : Hid (∀ W, Calls Tryz.prog 49 #[.int .i64 p] W fun e w' => e = .returned (.int .i64 (presE1 p : Nat)) ∧ w' = W) := fun W => aPress_any p W
      have hpe : presE1 p = if presB p = true then 2 else 0 := rfl
      rw [hpe] at HPR
      obtain ⟨pz, hpz⟩ : ∃ pz, pz = presB p := ⟨_, rfl⟩
      rw [← hpz] at HPR h2
      clear hpe
      cases pz
      rotate_left
      · rw [if_pos rfl] at h2
        have HR : Hid (R = 2 ∧ Z = 0) := ⟨h2, by rw [HZ.out, if_neg (by omega)]⟩
        clear h2 HH hpz
        go_wp2_with fail
        refine (HPR.out _).mono ?_
        rintro e w5 ⟨rfl, rfl⟩
        go_wp2
        go_ret2
        exact ⟨by rw [HR.out.1, HR.out.2]; rfl, EE⟩
      rw [if_neg (by simp)] at h2
      have hpz2 := hpz.symm
      unfold presB at hpz2
      simp only [Bool.or_eq_false_iff, decide_eq_false_iff_not] at hpz2
      have HDM := Lib.hid (fun W (g : Ext w W) => demand_any load m W (HG.out.ext g) hm (by omega) (by omega))
      have HNG := Lib.hid (fun h => (need_good (load := load) (m := m) h (by omega) (by omega)).2)
      obtain ⟨de, hde⟩ : ∃ de, de = demE m := ⟨_, rfl⟩
      rw [← hde] at HDM h2
      by_cases hd0 : de = 0
      rotate_left
      · rw [if_pos hd0] at h2
        rw [if_neg hd0] at HDM
        have HR : Hid (R = de ∧ Z = 0) := ⟨h2, by rw [HZ.out, if_neg (by omega)]⟩
        have hne : (((de : Nat) : Int) != 0) = true := by rw [bne_iff_ne]; omega
        clear h2 HH hpz hpz2 hde hd0
        go_wp2_with fail
        refine (HPR.out _).mono ?_
        rintro e w5 ⟨rfl, rfl⟩
        go_wp2_with fail
        refine (HDM.out _ EE).mono ?_
        rintro e w6 ⟨rfl, hE⟩
        have EX := EE.trans hE
        clear hE
        go_wp2
        go_ret2
        exact ⟨by rw [HR.out.1, HR.out.2]; rfl, extA⟩
      rw [if_neg (not_not_intro hd0)] at h2
      rw [if_pos hd0] at HDM
      have hng := HNG.out (hde.symm.trans hd0)
      have hB := HH.out.1
      have hbn := boreN_le (x := boreX load m) (p := p) hB.1 (by omega)
      have HSB : Hid (∀ (bb : Nat) W', Ext w W' → W'.cell? ⟨bs, 0, none⟩ = some (.slice a l.length cap) → W'.cell? ⟨bs + 1, 0, none⟩ = some (.int .i64 p) → W'.cell? ⟨bb, 0, none⟩ = some (txt (needT load m)) → Calls Tryz.prog 51 #[.int .i64 l.length, .func (.func 52) #[] #[.pointer (some ⟨bs, 0, none⟩), .pointer (some ⟨bs + 1, 0, none⟩), .pointer (some ⟨bb, 0, none⟩)]] W' fun e w' => e = .returned (.int .i64 ((boreN (boreX load m) p l : Nat) : Int)) ∧ Ext W' w') := fun bb W' g k1 k2 k3 => by
        have hb : ∀ i, (fun k => enoughB (boreX load m) p (l.getD k 0)) i = enoughB (fracQ (needT load m)) p (l.getD i 0) := fun i => by rw [hng.val]; rfl
        refine searchB_any (fun k => enoughB (boreX load m) p (l.getD k 0)) l.length bs (bs + 1) bb W' (by omega) (fun i hi W2 hW2 => ?_)
        rw [show enoughB (boreX load m) p (l.getD i 0) = enoughB (fracQ (needT load m)) p (l.getD i 0) from hb i]
        exact bore1_any l a cap i bs (bs + 1) bb p (needT load m) W2 (HG.out.ext (g.trans hW2)) hi (by omega) (hB.1.range i hi) (by omega) (by omega) hng.ok (HC.out.ext (g.trans hW2)) (hW2.cell k1) (hW2.cell k2) (hW2.cell k3)
      generalize needT load m = nt at HDM HSB
      obtain ⟨bn, hbN⟩ : ∃ bn, bn = boreN (boreX load m) p l := ⟨_, rfl⟩
      have hz := HZ.out
      rw [← hbN] at HSB h2 hbn hz
      have HF := Lib.hid (And.intro h2 hz)
      subst hd0
      have zs := cell_lt c1
      have zp := cell_lt c2
      dsimp only at zs zp
      clear h2 hz hpz hpz2 hde hng hB hbN HH HZ HRR HNG
      go_wp2_with fail
      refine (HPR.out _).mono ?_
      rintro e w5 ⟨rfl, rfl⟩
      go_wp2_with fail
      refine (HDM.out _ EE).mono ?_
      rintro e w6 ⟨rfl, hE⟩
      have c1 := hE.cell c1
      have c2 := hE.cell c2
      have EF := EE.trans hE
      have zs := cell_lt c1
      have zp := cell_lt c2
      dsimp only at zs zp
      clear hE
      go_wp2_with fail
      have E7 : Ext w6 (w6.alloc (.cells #[txt nt] 23)) := extA
      have c3 : ((w6.alloc (.cells #[txt nt] 23))).cell? ⟨w6.heap.size, 0, none⟩ = some (txt nt) := by go_simp
      refine (HSB.out _ _ (EF.trans E7) (E7.cell c1) (E7.cell c2) c3).mono ?_
      rintro e w7 ⟨rfl, hE7⟩
      have EG := EF.trans (E7.trans hE7)
      have c1 := hE7.cell (E7.cell c1)
      have zs := cell_lt c1
      dsimp only at zs
      clear c2 c3 zp hE7 E7
      by_cases hb : bn = l.length
      · have h8 := HF.out.1
        rw [if_pos hb] at h8
        have HR : Hid (R = 6 ∧ Z = 0) := ⟨h8, HF.out.2.trans (if_neg (by omega))⟩
        have hbe : ((bn : Int) == (l.length : Int)) = true := by rw [hb]; simp
        clear h8 HF
        subst hb
        go_wp2
        go_ret2
        exact ⟨by rw [HR.out.1, HR.out.2]; rfl, EG⟩
      · have h8 := HF.out.1
        rw [if_neg hb] at h8
        have HR : Hid (R = 0 ∧ Z = l.getD bn 0) := ⟨h8, HF.out.2.trans (if_pos h8)⟩
        have hbe : ((bn : Int) == (l.length : Int)) = false := beq_eq_false_iff_ne.2 (by omega)
        have hbl : bn < l.length := by omega
        obtain ⟨cb, co, ha, e1⟩ := HC.out.ext EG bn hbl
        subst ha
        generalize l.getD bn 0 = x at e1 HR
        have ze := cell_lt e1
        dsimp only at ze
        have hbl2 : (bn : Int) < (l.length : Int) := by omega
        clear h8 HF
        go_wp2
        go_ret2
        exact ⟨by rw [HR.out.1, HR.out.2]; rfl, EG⟩
end Go.Proofs.YtlnonmmaknhppaaGreatDoor
namespace Go.Proofs.YtlnonmmaknhppaaGreatDoor
open Go.RowKit
open Go.Lib (decDigits itoa)
theorem ex_bores : listE [12, 16, 20, 25] = 0 ∧ demE [51, 47, 50] = 0 := by decide +kernel
theorem ex_boreE : boreE [12, 16, 20, 25] 100 600 [51, 47, 50] = 0 ∧ boreZ [12, 16, 20, 25] 100 600 [51, 47, 50] = 20 := by
  have hx : boreN (boreX 100 [51, 47, 50]) 600 [12, 16, 20, 25] = 2 := by decide +kernel
  have h1 : boreE [12, 16, 20, 25] 100 600 [51, 47, 50] = 0 := by
    unfold boreE
    rw [if_neg (not_not_intro ex_bores.1), if_neg (by omega), if_neg (by omega), if_neg (by decide), if_neg (not_not_intro ex_bores.2), hx, if_neg (by decide)]
  refine ⟨h1, ?_⟩
  unfold boreZ
  rw [if_pos h1, hx]
  rfl
structure CylAt (b : Nat) (W : World) (x y z : Int) : Prop where
  c0 : W.cell? ⟨b, 0, none⟩ = some (.int .i64 x)
  c1 : W.cell? ⟨b, 1, none⟩ = some (.int .i64 y)
  c2 : W.cell? ⟨b, 2, none⟩ = some (.int .i64 z)
theorem CylAt.ext {b : Nat} {A B : World} {x y z : Int} (h : CylAt b A x y z) (e : Ext A B) : CylAt b B x y z := ⟨e.cell h.c0, e.cell h.c1, e.cell h.c2⟩
theorem sent_any (c : Cyl) (w : World) : Calls Tryz.prog 24 #[cylV c] w fun e w' => e = .returned (cylV c) ∧ Ext w w' := by
  obtain ⟨b, r, s⟩ := c
  dsimp only [cylV]
  go_enter Tryz.func24, Tryz.ntmps24
  go_wp2
  refine bodyPost_ret (v := .agg #[.int .i64 b, .int .i64 r, .int .i64 s]) (by rw [results_cell1 rfl]; go_simp) rfl ?_
  exact ⟨rfl, extA⟩
theorem cells4_new (w : World) (x y z u : Int) (t : TypeId) : CellsI (w.alloc (.cells #[.int .i64 x, .int .i64 y, .int .i64 z, .int .i64 u] t)) (some ⟨w.heap.size, 0, none⟩) [x, y, z, u] := fun i hi => by
  have : i = 0 ∨ i = 1 ∨ i = 2 ∨ i = 3 := by simp at hi; omega
  rcases this with rfl | rfl | rfl | rfl <;> exact ⟨w.heap.size, 0, rfl, by rw [World.cell?_alloc_new]; rfl⟩
set_option maxHeartbeats 16000000 in
set_option maxRecDepth 100000 in
theorem awake5_any (w : World) (hG : Glob w) : Calls Tryz.prog 13 #[] w fun e w' => e = .returned (.bool true) ∧ Ext w w' := by
  have HG := Lib.hid hG
  have X1 := Lib.hid (fun W (g : Ext w W) => aArea_any exC true W (HG.out.ext g))
  have X2 := Lib.hid (fun W (g : Ext w W) => aArea_any exC false W (HG.out.ext g))
  have X3 := Lib.hid (fun W (g : Ext w W) => aForce_any exC true 600 W (HG.out.ext g))
  have X4 := Lib.hid (fun W a cap (g : Ext w W) hc => aBore_any [12, 16, 20, 25] a cap 100 600 [51, 47, 50] W (HG.out.ext g) (by decide) hc)
  have X5 := Lib.hid (fun W (g : Ext w W) => aReceiver_any ([50], [50]) 600 499 W (HG.out.ext g) ⟨by decide, by decide⟩)
  have e1 : areaS exC true = (faceT exC true, 0) := by unfold areaS; rw [if_neg (not_not_intro ex_ok.1)]
  have e2 : areaS exC false = (faceT exC false, 0) := by unfold areaS; rw [if_neg (not_not_intro ex_ok.1)]
  have e3 : forceS exC true 600 = (forceT exC true 600, 0) := by unfold forceS; rw [if_neg (not_not_intro ex_ok.2)]
  rw [e1, ex_area] at X1
  rw [e2, ex_back] at X2
  rw [e3, ex_force] at X3
  rw [ex_boreE.1, ex_boreE.2] at X4
  rw [ex_rec.1, ex_rec.2] at X5
  have hl4 : ([12, 16, 20, 25] : List Int).length = 4 := rfl
  rw [hl4] at X4
  clear hl4
  obtain ⟨a1, ha1⟩ : ∃ x, x = ([50, 50, 51, 48, 48, 47, 55, 49] : Txt) := ⟨_, rfl⟩
  obtain ⟨a2, ha2⟩ : ∃ x, x = ([50, 50, 48, 48, 47, 55] : Txt) := ⟨_, rfl⟩
  obtain ⟨b1, hb1⟩ : ∃ x, x = ([49, 56, 55, 51, 50, 47, 55, 49] : Txt) := ⟨_, rfl⟩
  obtain ⟨b2, hb2⟩ : ∃ x, x = ([50, 54, 52] : Txt) := ⟨_, rfl⟩
  obtain ⟨d1, hd1⟩ : ∃ x, x = ([49, 51, 51, 56, 48, 47, 55, 49] : Txt) := ⟨_, rfl⟩
  obtain ⟨d2, hd2⟩ : ∃ x, x = ([49, 51, 50, 48, 47, 55] : Txt) := ⟨_, rfl⟩
  rw [← ha1, ← ha2] at X1
  rw [← hb1, ← hb2] at X2
  rw [← hd1, ← hd2] at X3
  have HT := Lib.hid (And.intro (And.intro ha1 ha2) (And.intro (And.intro hb1 hb2) (And.intro hd1 hd2)))
  unfold EncP at X1 X2 X3
  unfold IntP at X4 X5
  dsimp only [encV, cylV, exC] at X1 X2 X3 X5
  clear e1 e2 e3 hG ha1 ha2 hb1 hb2 hd1 hd2
  have C : CylAt w.heap.size (w.alloc (.cells #[.int .i64 20, .int .i64 8, .int .i64 100] 49)) 20 8 100 := ⟨by go_simp, by go_simp, by go_simp⟩
  have E : Ext w (w.alloc (.cells #[.int .i64 20, .int .i64 8, .int .i64 100] 49)) := extA
  go_enter Tryz.func13, Tryz.ntmps13
  go_wp2_with fail
  generalize (w.alloc (.cells #[.int .i64 20, .int .i64 8, .int .i64 100] 49)) = w0 at C E ⊢
  have v0 : IntKind.i64.wrap 0 = 0 := rfl
  refine (X1.out _ E).mono ?_
  rintro e w1 ⟨rfl, hE⟩
  replace E := E.trans hE
  replace C := C.ext hE
  clear hE
  have C' := C
  obtain ⟨c0, c1, c2⟩ := C'
  have zc := cell_lt c0
  dsimp only at zc
  go_wp2_with fail
  clear c0 c1 c2 zc
  have A : EncAt w1.heap.size (w1.alloc (.cells #[txt a1, txt a2] 35)) a1 a2 := ⟨by go_simp, by go_simp, by go_simp, by go_simp⟩
  have EA : Ext w1 (w1.alloc (.cells #[txt a1, txt a2] 35)) := extA
  replace C := C.ext EA
  replace E := E.trans EA
  clear EA
  obtain ⟨kA, hkA⟩ : ∃ k, k = w1.heap.size := ⟨_, rfl⟩
  rw [← hkA] at A ⊢
  clear hkA
  generalize (w1.alloc (.cells #[txt a1, txt a2] 35)) = w2 at C A E ⊢
  refine (X2.out _ E).mono ?_
  rintro e w3 ⟨rfl, hE⟩
  replace E := E.trans hE
  replace C := C.ext hE
  replace A := A.ext hE
  clear hE
  have C' := C
  obtain ⟨c0, c1, c2⟩ := C'
  have zc := cell_lt c0
  dsimp only at zc
  go_wp2_with fail
  clear c0 c1 c2 zc
  have B : EncAt w3.heap.size (w3.alloc (.cells #[txt b1, txt b2] 35)) b1 b2 := ⟨by go_simp, by go_simp, by go_simp, by go_simp⟩
  have EA : Ext w3 (w3.alloc (.cells #[txt b1, txt b2] 35)) := extA
  replace C := C.ext EA
  replace A := A.ext EA
  replace E := E.trans EA
  clear EA
  obtain ⟨kB, hkB⟩ : ∃ k, k = w3.heap.size := ⟨_, rfl⟩
  rw [← hkB] at B ⊢
  clear hkB
  generalize (w3.alloc (.cells #[txt b1, txt b2] 35)) = w4 at C A B E ⊢
  refine (X3.out _ E).mono ?_
  rintro e w5 ⟨rfl, hE⟩
  replace E := E.trans hE
  replace C := C.ext hE
  replace A := A.ext hE
  replace B := B.ext hE
  clear hE
  have C' := C
  obtain ⟨c0, c1, c2⟩ := C'
  have zc := cell_lt c0
  dsimp only at zc
  go_wp2_with fail
  clear c0 c1 c2 zc
  have D : EncAt w5.heap.size (w5.alloc (.cells #[txt d1, txt d2] 35)) d1 d2 := ⟨by go_simp, by go_simp, by go_simp, by go_simp⟩
  have EA : Ext w5 (w5.alloc (.cells #[txt d1, txt d2] 35)) := extA
  replace C := C.ext EA
  replace A := A.ext EA
  replace B := B.ext EA
  replace E := E.trans EA
  clear EA
  have hz6 : (w5.alloc (.cells #[txt d1, txt d2] 35)).heap.size = w5.heap.size + 1 := Array.size_push _
  obtain ⟨kD, hkD⟩ : ∃ k, k = w5.heap.size := ⟨_, rfl⟩
  rw [← hkD] at D hz6 ⊢
  clear hkD
  generalize (w5.alloc (.cells #[txt d1, txt d2] 35)) = w6 at C A B D E hz6 ⊢
  have CI := Lib.hid (cells4_new w6 12 16 20 25 3)
  rw [hz6] at CI
  clear hz6
  have E4 : Ext w6 (w6.alloc (.cells #[.int .i64 12, .int .i64 16, .int .i64 20, .int .i64 25] 3)) := extA
  replace A := A.ext E4
  replace B := B.ext E4
  replace C := C.ext E4
  replace D := D.ext E4
  replace E := E.trans E4
  clear E4
  generalize (w6.alloc (.cells #[.int .i64 12, .int .i64 16, .int .i64 20, .int .i64 25] 3)) = w7 at A B C D E CI ⊢
  refine (X4.out _ _ 4 E CI.out).mono ?_
  rintro e w8 ⟨rfl, hE⟩
  replace E := E.trans hE
  replace C := C.ext hE
  replace A := A.ext hE
  replace B := B.ext hE
  replace D := D.ext hE
  clear hE
  clear CI
  go_wp2_with fail
  refine (X5.out _ E).mono ?_
  rintro e w9 ⟨rfl, hE⟩
  replace E := E.trans hE
  replace C := C.ext hE
  replace A := A.ext hE
  replace B := B.ext hE
  replace D := D.ext hE
  clear hE
  obtain ⟨⟨rfl, rfl⟩, ⟨rfl, rfl⟩, rfl, rfl⟩ := HT.out
  obtain ⟨a0, a1, a2, a3⟩ := A
  obtain ⟨b0, b1, b2, b3⟩ := B
  obtain ⟨d0, d1, d2, d3⟩ := D
  have z0 := cell_lt a0
  have z1 := cell_lt b0
  have z2 := cell_lt d0
  dsimp only at z0 z1 z2
  go_wp2
  go_ret
  exact ⟨rfl, E⟩
end Go.Proofs.YtlnonmmaknhppaaGreatDoor
