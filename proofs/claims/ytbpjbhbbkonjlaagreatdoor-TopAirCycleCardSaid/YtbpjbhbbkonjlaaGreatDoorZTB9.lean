/- Steps of the proof: AChk, ATim, AFac, AApi, AFaR, AFaS, ASea, ARec, UOwn, ABo1, FPrtF, ADem, ABor, AAwk, ACyl, QSpec, QOwn, QCells, QStep, QSeq, QBeh, QCheck, QChk. No conditions. -/
import Derived.Laws.ResultCell
import Derived.Laws.StructEq
import Derived.Test.YtbpjbhbbkonjlaaGreatDoorZTB1
import Derived.Test.YtbpjbhbbkonjlaaGreatDoorZTB2
import Derived.Test.YtbpjbhbbkonjlaaGreatDoorZTB3
import Derived.Test.YtbpjbhbbkonjlaaGreatDoorZTB4
import Derived.Test.YtbpjbhbbkonjlaaGreatDoorZTB5
import Derived.Test.YtbpjbhbbkonjlaaGreatDoorZTB6
import Derived.Test.YtbpjbhbbkonjlaaGreatDoorZTB7
import Derived.Test.YtbpjbhbbkonjlaaGreatDoorZTB8
namespace Go.Proofs.YtbpjbhbbkonjlaaGreatDoor
open Go.RowKit
def cylV (c : Cyl) : Value := .agg #[.int .i64 c.bore, .int .i64 c.rod, .int .i64 c.stroke]
theorem cylE_yes {c : Cyl} (h : cylB c = true) : cylE c = 2 := by unfold cylE; rw [if_pos h]
theorem cylE_no {c : Cyl} (h : cylB c = false) : cylE c = 0 := by unfold cylE; rw [if_neg (by rw [h]; simp)]
set_option maxHeartbeats 4000000 in
theorem aCheck_any (c : Cyl) (w : World) : Calls Tryz.prog 22 #[cylV c] w fun e w' => e = .returned (.int .i64 (cylE c : Nat)) ∧ Ext w w' := by
  obtain ⟨b, r, s⟩ := c
  obtain ⟨q, hq⟩ : ∃ q, q = cylE ⟨b, r, s⟩ := ⟨_, rfl⟩
  rw [← hq]
  dsimp only [cylV]
  have E : Ext w (w.alloc (.cells #[.int .i64 b, .int .i64 r, .int .i64 s] 29)) := extA
  by_cases h0 : b < 1
  · have H : Hid (q = 2) := by show _ = _; rw [hq]; exact cylE_yes (by unfold cylB; simp [h0])
    clear hq
    go_enter Tryz.func22, Tryz.ntmps22
    go_wp2
    go_ret
    exact ⟨by rw [H.out]; rfl, E⟩
  by_cases h1 : 500 < b
  · have H : Hid (q = 2) := by show _ = _; rw [hq]; exact cylE_yes (by unfold cylB; simp [h1])
    clear hq
    go_enter Tryz.func22, Tryz.ntmps22
    go_wp2
    go_ret
    exact ⟨by rw [H.out]; rfl, E⟩
  by_cases h2 : r < 0
  · have H : Hid (q = 2) := by show _ = _; rw [hq]; exact cylE_yes (by unfold cylB; simp [h2])
    clear hq
    go_enter Tryz.func22, Tryz.ntmps22
    go_wp2
    go_ret
    exact ⟨by rw [H.out]; rfl, E⟩
  by_cases h3 : b ≤ r
  · have H : Hid (q = 2) := by show _ = _; rw [hq]; exact cylE_yes (by unfold cylB; simp [h3])
    clear hq
    go_enter Tryz.func22, Tryz.ntmps22
    go_wp2
    go_ret
    exact ⟨by rw [H.out]; rfl, E⟩
  by_cases h4 : s < 1
  · have H : Hid (q = 2) := by show _ = _; rw [hq]; exact cylE_yes (by unfold cylB; simp [h4])
    clear hq
    go_enter Tryz.func22, Tryz.ntmps22
    go_wp2
    go_ret
    exact ⟨by rw [H.out]; rfl, E⟩
  by_cases h5 : 3000 < s
  · have H : Hid (q = 2) := by show _ = _; rw [hq]; exact cylE_yes (by unfold cylB; simp [h5])
    clear hq
    go_enter Tryz.func22, Tryz.ntmps22
    go_wp2
    go_ret
    exact ⟨by rw [H.out]; rfl, E⟩
  have H : Hid (q = 0) := by show _ = _; rw [hq]; exact cylE_no (by unfold cylB; simp [h0, h1, h2, h3, h4, h5])
  clear hq
  go_enter Tryz.func22, Tryz.ntmps22
  go_wp2
  go_ret
  exact ⟨by rw [H.out]; rfl, E⟩
def presE1 (p : Int) : Nat := if presB p = true then 2 else 0
theorem aPress_any (p : Int) (w : World) : Calls Tryz.prog 23 #[.int .i64 p] w fun e w' => e = .returned (.int .i64 (presE1 p : Nat)) ∧ w' = w := by
  obtain ⟨q, hq⟩ : ∃ q, q = presE1 p := ⟨_, rfl⟩
  rw [← hq]
  unfold presE1 presB at hq
  by_cases h0 : p < 1
  · have H : Hid (q = 2) := by show _ = _; rw [hq]; simp [h0]
    clear hq
    go_enter Tryz.func23, Tryz.ntmps23
    go_wp2
    go_ret
    exact ⟨by rw [H.out]; rfl, rfl⟩
  by_cases h1 : 2000 < p
  · have H : Hid (q = 2) := by show _ = _; rw [hq]; simp [h1]
    clear hq
    go_enter Tryz.func23, Tryz.ntmps23
    go_wp2
    go_ret
    exact ⟨by rw [H.out]; rfl, rfl⟩
  have H : Hid (q = 0) := by show _ = _; rw [hq]; simp [h0, h1]
  clear hq
  go_enter Tryz.func23, Tryz.ntmps23
  go_wp2
  go_ret
  exact ⟨by rw [H.out]; rfl, rfl⟩
theorem presE_two (c : Cyl) (p : Int) : presE c p = if cylE c ≠ 0 then cylE c else presE1 p := rfl
set_option maxHeartbeats 4000000 in
theorem aChecked_any (c : Cyl) (p : Int) (w : World) : Calls Tryz.prog 29 #[cylV c, .int .i64 p] w fun e w' => e = .returned (.int .i64 (presE c p : Nat)) ∧ Ext w w' := by
  have HC := Lib.hid (fun W => aCheck_any c W)
  have HP := Lib.hid (fun W => aPress_any p W)
  rw [presE_two]
  obtain ⟨b, r, s⟩ := c
  generalize cylE ⟨b, r, s⟩ = n at HC ⊢
  generalize presE1 p = m at HP ⊢
  dsimp only [cylV] at HC ⊢
  obtain ⟨q, hq⟩ : ∃ q, q = (if n ≠ 0 then n else m) := ⟨_, rfl⟩
  rw [← hq]
  have E : Ext w (w.alloc (.cells #[.int .i64 b, .int .i64 r, .int .i64 s] 29)) := extA
  by_cases hn : n = 0
  · subst hn
    have H : Hid (q = m) := hq
    clear hq
    go_enter Tryz.func29, Tryz.ntmps29
    go_wp2_with fail
    refine (HC.out _).mono ?_
    rintro e w1 ⟨rfl, hE⟩
    go_wp2_with fail
    refine (HP.out _).mono ?_
    rintro e w2 ⟨rfl, rfl⟩
    go_wp2
    go_ret
    exact ⟨by rw [H.out]; rfl, E.trans hE⟩
  · have H : Hid (q = n) := by show _ = _; rw [hq, if_pos hn]
    have hne : (((n : Nat) : Int) != 0) = true := by rw [bne_iff_ne]; omega
    clear hq hn
    go_enter Tryz.func29, Tryz.ntmps29
    go_wp2_with fail
    refine (HC.out _).mono ?_
    rintro e w1 ⟨rfl, hE⟩
    go_wp2
    go_ret
    exact ⟨by rw [H.out]; rfl, E.trans hE⟩
def inB (n l h : Int) : Bool := decide (l ≤ n) && decide (n ≤ h)
theorem in5_any (n l h : Int) (w : World) : Calls Tryz.prog 19 #[.int .i64 n, .int .i64 l, .int .i64 h] w fun e w' => e = .returned (.bool (inB n l h)) ∧ w' = w := by
  obtain ⟨q, hq⟩ : ∃ q, q = inB n l h := ⟨_, rfl⟩
  rw [← hq]
  unfold inB at hq
  by_cases h0 : l ≤ n
  · have H : Hid (q = decide (n ≤ h)) := by show _ = _; rw [hq]; simp [h0]
    clear hq
    by_cases h1 : n ≤ h
    · have H : Hid (q = true) := by show _ = _; rw [H.out]; simp [h1]
      go_enter Tryz.func19, Tryz.ntmps19
      go_wp2
      go_ret
      exact ⟨by rw [H.out]; rfl, rfl⟩
    · have H : Hid (q = false) := by show _ = _; rw [H.out]; simp [h1]
      go_enter Tryz.func19, Tryz.ntmps19
      go_wp2
      go_ret
      exact ⟨by rw [H.out]; rfl, rfl⟩
  · have H : Hid (q = false) := by show _ = _; rw [hq]; simp [h0]
    clear hq
    go_enter Tryz.func19, Tryz.ntmps19
    go_wp2
    go_ret
    exact ⟨by rw [H.out]; rfl, rfl⟩
theorem cylB_in (b r s : Int) : cylB ⟨b, r, s⟩ = (!inB b 1 500 || !inB r 0 (b - 1) || !inB s 1 3000) := by
  unfold cylB inB
  rw [Bool.eq_iff_iff]
  simp only [Bool.or_eq_true, Bool.not_eq_true', Bool.and_eq_false_iff, decide_eq_true_eq, decide_eq_false_iff_not]
  omega
set_option maxHeartbeats 4000000 in
theorem rCheck5_any (c : Cyl) (w : World) (hb : -9223372036854775808 ≤ c.bore ∧ c.bore ≤ 9223372036854775807) : Calls Tryz.prog 7 #[cylV c] w fun e w' => e = .returned (.int .i64 (cylE c : Nat)) ∧ Ext w w' := by
  obtain ⟨b, r, s⟩ := c
  dsimp only at hb
  have H1 := Lib.hid (fun W => in5_any b 1 500 W)
  have H2 := Lib.hid (fun W => in5_any r 0 (b - 1) W)
  have H3 := Lib.hid (fun W => in5_any s 1 3000 W)
  have hcb := cylB_in b r s
  have hbo : inB b 1 500 = true → IntKind.i64.wrap (b - 1) = b - 1 := fun h => by
    unfold inB at h
    rw [Bool.and_eq_true, decide_eq_true_eq, decide_eq_true_eq] at h
    exact IntWalk.i64_in _ (by omega)
  obtain ⟨q, hq⟩ : ∃ q, q = cylE ⟨b, r, s⟩ := ⟨_, rfl⟩
  rw [← hq]
  unfold cylE at hq
  rw [hcb] at hq
  generalize inB b 1 500 = i1 at H1 hq hbo
  generalize inB r 0 (b - 1) = i2 at H2 hq
  generalize inB s 1 3000 = i3 at H3 hq
  dsimp only [cylV]
  have E : Ext w (w.alloc (.cells #[.int .i64 b, .int .i64 r, .int .i64 s] 31)) := extA
  have c0 : ((w.alloc (.cells #[.int .i64 b, .int .i64 r, .int .i64 s] 31))).cell? ⟨w.heap.size, 0, none⟩ = some (.int .i64 b) := by go_simp
  clear hcb hb
  cases i1
  · have H : Hid (q = 2) := hq
    clear hq hbo
    go_enter Tryz.func7, Tryz.ntmps7
    go_wp2_with fail
    refine (H1.out _).mono ?_
    rintro e w1 ⟨rfl, rfl⟩
    go_wp2
    go_ret
    exact ⟨by rw [H.out]; rfl, E⟩
  have hw := hbo rfl
  clear hbo
  cases i2
  · have H : Hid (q = 2) := hq
    clear hq
    go_enter Tryz.func7, Tryz.ntmps7
    go_wp2_with fail
    refine (H1.out _).mono ?_
    rintro e w1 ⟨rfl, rfl⟩
    go_wp2_with fail
    refine (H2.out _).mono ?_
    rintro e w2 ⟨rfl, rfl⟩
    go_wp2
    go_ret
    exact ⟨by rw [H.out]; rfl, E⟩
  cases i3
  all_goals
    have H := Lib.hid hq
    clear hq
    go_enter Tryz.func7, Tryz.ntmps7
    go_wp2_with fail
    refine (H1.out _).mono ?_
    rintro e w1 ⟨rfl, rfl⟩
    go_wp2_with fail
    refine (H2.out _).mono ?_
    rintro e w2 ⟨rfl, rfl⟩
    go_wp2_with fail
    refine (H3.out _).mono ?_
    rintro e w3 ⟨rfl, rfl⟩
    go_wp2
    go_ret
    exact ⟨by rw [H.out]; rfl, E⟩
end Go.Proofs.YtbpjbhbbkonjlaaGreatDoor
namespace Go.Proofs.YtbpjbhbbkonjlaaGreatDoor
open Go.RowKit
open Go.Lib (decDigits itoa)
structure QOk (x : Int × Int) : Prop where
  n0 : 0 ≤ x.1
  n1 : x.1 < 10 ^ 18
  d0 : 0 < x.2
  d1 : x.2 < 10 ^ 18
def quoT (x : Int × Int) : Txt := fracT ((x.1 : Rat) / (x.2 : Rat))
theorem QOk.is {x : Int × Int} (h : QOk x) : makeR (itoa x.1) (itoa x.2) = (quoT x, 0) ∧ (quoT x).length ≤ 400 ∧ pointE (quoT x) = ((quoT x, quoT x), 0) ∧ quoS x.1 x.2 = ((quoT x, quoT x), 0) := by
  have h1 := h.n0
  have h2 := h.n1
  have h3 := h.d0
  have h4 := h.d1
  obtain ⟨g1, g2⟩ := quo_good (n := x.1) (d := x.2) (K := 18) h3 (by omega) (by omega) (by omega)
  refine ⟨g1, g2.len, g2.point.1, ?_⟩
  unfold quoS quoT
  rw [g1, if_neg (by simp), g2.point.1]
theorem times_cons {a : Enc} {x : Int × Int} {l : List (Int × Int)} (h : QOk x) : timesE a (x :: l) = if (mulE a (quoT x, quoT x)).2 ≠ 0 then badEnc (mulE a (quoT x, quoT x)).2 else timesE (mulE a (quoT x, quoT x)).1 l := by
  conv => lhs; unfold timesE
  rw [h.is.2.2.2, if_neg (by simp)]
set_option maxHeartbeats 4000000 in
set_option maxRecDepth 100000 in
theorem enclosed_any (n d : Int) (w : World) (hG : Glob w) (h : QOk (n, d)) : Calls Tryz.prog 90 #[.agg #[.int .i64 n, .int .i64 d]] w (EncP ((quoT (n, d), quoT (n, d)), 0) w) := by
  obtain ⟨h1, h2, h3, _⟩ := h.is
  have k1 := h.n0
  have k2 := h.n1
  have k3 := h.d0
  have k4 := h.d1
  dsimp only at h1 k1 k2 k3 k4
  have HO := Lib.hid (fun W (g : Ext w W) => of_any n d W (hG.ext g) (by omega) (by omega) (by omega) (by omega))
  rw [h1] at HO
  have HP := Lib.hid (fun W (g : Ext w W) => ePoint_any (quoT (n, d)) W (hG.ext g) h2)
  rw [h3] at HP
  clear h1 h2 h3 h k1 k2 k3 k4 hG
  generalize quoT (n, d) = t at HO HP ⊢
  unfold EncP at HP ⊢
  unfold ResP at HO
  dsimp only [encV] at HP ⊢
  have X : EncAt (w.heap.size + 1) ((w.alloc (.cells #[.int .i64 n, .int .i64 d] 98)).alloc (.cells #[.string ⟨#[]⟩, .string ⟨#[]⟩] 36)) [] [] := ⟨by go_simp, by go_simp, by go_simp, by go_simp⟩
  have E : Ext w ((w.alloc (.cells #[.int .i64 n, .int .i64 d] 98)).alloc (.cells #[.string ⟨#[]⟩, .string ⟨#[]⟩] 36)) := extA
  go_enter Tryz.func90, Tryz.ntmps90
  go_wp2_with fail
  generalize ((w.alloc (.cells #[.int .i64 n, .int .i64 d] 98)).alloc (.cells #[.string ⟨#[]⟩, .string ⟨#[]⟩] 36)) = w0 at X E ⊢
  refine (HO.out _ E).mono ?_
  rintro e w1 ⟨rfl, hE⟩
  replace X := X.ext hE
  replace E := E.trans hE
  clear hE
  go_wp2_with fail
  refine (HP.out _ E).mono ?_
  rintro e w2 ⟨rfl, hE⟩
  obtain ⟨d0, d1, g0, g1⟩ := X.ext hE
  replace E := E.trans hE
  clear hE X
  go_wp2
  refine bodyPost_ret (v := .tuple #[.agg #[txt t, txt t], .int .i64 0]) (by rw [results_cell_tmp1 rfl]; go_simp) rfl ?_
  exact ⟨rfl, extA⟩
theorem drop_consA {α : Type} (l : List α) (d : α) {k : Nat} (h : k < l.length) : l.drop k = l.getD k d :: l.drop (k + 1) := by
  rw [List.getD_eq_getElem?_getD, List.getElem?_eq_getElem h]; exact List.drop_eq_getElem_cons h
theorem getD_inA {α : Type} {l : List α} {d : α} {k : Nat} (h : k < l.length) : l.getD k d ∈ l := by
  rw [List.getD_eq_getElem?_getD, List.getElem?_eq_getElem h]; exact List.getElem_mem h
def CellsQt (w : World) (a : Option Addr) (l : List (Int × Int)) : Prop := ∀ i, i < l.length → ∃ b off, a = some ⟨b, off, none⟩ ∧ w.cell? ⟨b, off + i * 2, none⟩ = some (.int .i64 (l.getD i (0, 1)).1) ∧ w.cell? ⟨b, off + i * 2 + 1, none⟩ = some (.int .i64 (l.getD i (0, 1)).2)
theorem CellsQt.ext {A B : World} {a : Option Addr} {l : List (Int × Int)} (h : CellsQt A a l) (e : Ext A B) : CellsQt B a l := fun i hi => by
  obtain ⟨b, off, h1, h2, h3⟩ := h i hi
  exact ⟨b, off, h1, e.cell h2, e.cell h3⟩
set_option maxHeartbeats 8000000 in
set_option maxRecDepth 100000 in
theorem aTimes_any (a : Enc) (l : List (Int × Int)) (qa : Option Addr) (qc : Nat) (w : World) (hG : Glob w) (hl : LenE a) (hc : CellsQt w qa l) (hq : ∀ x ∈ l, QOk x) (h9 : l.length ≤ 9) :
    Calls Tryz.prog 71 #[encV a, .slice qa l.length qc] w (EncP (timesE a l) w) := by
  have HC := Lib.hid hc
  have HQ := Lib.hid hq
  have HG := Lib.hid hG
  obtain ⟨R, hR⟩ : ∃ R, R = timesE a l := ⟨_, rfl⟩
  rw [← hR]
  unfold EncP
  have HR := Lib.hid hR
  have HLA := Lib.hid hl
  clear hc hq hG hR hl
  obtain ⟨t, u⟩ := a
  dsimp only [encV]
  have A : EncAt w.heap.size ((w.alloc (.cells #[txt t, txt u] 36)).alloc (.cells #[.string ⟨#[]⟩, .string ⟨#[]⟩] 36)) t u := ⟨by go_simp, by go_simp, by go_simp, by go_simp⟩
  have X : EncAt (w.heap.size + 1) ((w.alloc (.cells #[txt t, txt u] 36)).alloc (.cells #[.string ⟨#[]⟩, .string ⟨#[]⟩] 36)) [] [] := ⟨by go_simp, by go_simp, by go_simp, by go_simp⟩
  have E : Ext w ((w.alloc (.cells #[txt t, txt u] 36)).alloc (.cells #[.string ⟨#[]⟩, .string ⟨#[]⟩] 36)) := extA
  go_enter Tryz.func71, Tryz.ntmps71
  go_wp2_with fail
  generalize ((w.alloc (.cells #[txt t, txt u] 36)).alloc (.cells #[.string ⟨#[]⟩, .string ⟨#[]⟩] 36)) = w0 at A X E ⊢
  go_loopw [12] (fun x wr => ∃ (k : Nat) (p q : Txt), k ≤ l.length ∧ x = .int .i64 k ∧ Hid (timesE (p, q) (l.drop k) = R ∧ LenE (p, q)) ∧ EncAt w.heap.size wr p q ∧ EncAt (w.heap.size + 1) wr [] [] ∧ Ext w wr) (fun x _ => l.length - (intOf x).toNat)
  case atStart => exact ⟨0, t, u, Nat.zero_le _, rfl, ⟨HR.out.symm, HLA.out⟩, A, X, E⟩
  case round =>
    clear A X E
    obtain ⟨k, p, q, hk, rfl, hz, A, X, E⟩ := hrel
    by_cases hlt : k < l.length
    · obtain ⟨b, off, ha, e1, e2⟩ := HC.out.ext E k hlt
      subst ha
      have hz1 := hz.out.1
      have hqk := HQ.out (l.getD k (0, 1)) (getD_inA hlt)
      rw [drop_consA l (0, 1) hlt, times_cons hqk] at hz1
      have HZ := Lib.hid hz1
      have HL := Lib.hid hz.out.2
      clear hz hz1
      generalize l.getD k (0, 1) = x at e1 e2 hqk HZ
      obtain ⟨n, d⟩ := x
      dsimp only at e1 e2
      have HEN := Lib.hid (fun W (g : Ext w W) => enclosed_any n d W (HG.out.ext g) hqk)
      have HML := Lib.hid (fun W (g : Ext w W) => eMul_any (p, q) (quoT (n, d), quoT (n, d)) W (HG.out.ext g) HL.out ⟨hqk.is.2.1, hqk.is.2.1⟩)
      have hml := mulE_len (a := (p, q)) (b := (quoT (n, d), quoT (n, d)))
      generalize mulE (p, q) (quoT (n, d), quoT (n, d)) = M at HML HZ hml
      generalize quoT (n, d) = tq at HEN HML
      clear hqk
      obtain ⟨⟨m1, m2⟩, me⟩ := M
      unfold EncP at HEN HML
      dsimp only [encV] at HEN HML hml
      dsimp only at HZ
      have A' := A
      have X' := X
      obtain ⟨a0, a1, a2, a3⟩ := A
      obtain ⟨x0, x1, x2, x3⟩ := X
      have z0 := cell_lt a0
      have z1 := cell_lt x0
      have z2 := cell_lt e1
      dsimp only at z0 z1 z2
      go_wp2_with fail
      have E1 : Ext wr (wr.alloc (.cells #[.int .i64 n, .int .i64 d] 98)) := extA
      replace A' := A'.ext E1
      replace X' := X'.ext E1
      replace E := E.trans E1
      clear E1 a0 a1 a2 a3 x0 x1 x2 x3 z0 z1 z2 e1 e2
      generalize (wr.alloc (.cells #[.int .i64 n, .int .i64 d] 98)) = w1 at A' X' E ⊢
      refine (HEN.out _ E).mono ?_
      rintro e w2 ⟨rfl, hE⟩
      replace A' := A'.ext hE
      replace X' := X'.ext hE
      replace E := E.trans hE
      have A := A'
      have X := X'
      obtain ⟨a0, a1, a2, a3⟩ := A
      obtain ⟨x0, x1, x2, x3⟩ := X
      have z0 := cell_lt a0
      have z1 := cell_lt x0
      dsimp only at z0 z1
      clear hE
      go_wp2_with fail
      have E2 : Ext w2 (w2.alloc (.cells #[txt tq, txt tq] 36)) := extA
      replace A' := A'.ext E2
      replace X' := X'.ext E2
      replace E := E.trans E2
      clear E2 a0 a1 a2 a3 x0 x1 x2 x3 z0 z1
      generalize (w2.alloc (.cells #[txt tq, txt tq] 36)) = w3 at A' X' E ⊢
      refine (HML.out _ E).mono ?_
      rintro e w4 ⟨rfl, hE⟩
      replace A' := A'.ext hE
      replace X' := X'.ext hE
      replace E := E.trans hE
      clear hE
      have A := A'
      have X := X'
      obtain ⟨a0, a1, a2, a3⟩ := A
      obtain ⟨x0, x1, x2, x3⟩ := X
      have z0 := cell_lt a0
      have z1 := cell_lt x0
      dsimp only at z0 z1
      have AS := (A'.set0 m1).set1 m2
      have XS := X'.two (c := w.heap.size) (o1 := 0) (v := txt m1) (o2 := 1) (u := txt m2) (by omega)
      have ES : Ext w ((w4.setCell ⟨w.heap.size, 0, none⟩ (txt m1)).setCell ⟨w.heap.size, 1, none⟩ (txt m2)) := (E.set (b := w.heap.size) (o := 0) (by omega) (txt m1)).set (b := w.heap.size) (o := 1) (by omega) (txt m2)
      by_cases hm : me = 0
      · subst hm
        have hz2 := HZ.out
        rw [if_neg (by simp)] at hz2
        have HZ2 := Lib.hid (And.intro hz2 (hml rfl))
        clear HZ hz2 hml
        go_wp2
        refine ⟨⟨k + 1, m1, m2, by omega, by go_num, HZ2.out, AS, XS, ES⟩, by simp [intOf]; omega⟩
      · have hne : (((me : Nat) : Int) != 0) = true := by rw [bne_iff_ne]; omega
        have hz2 := HZ.out
        rw [if_pos hm] at hz2
        have HZ2 := Lib.hid hz2.symm
        clear HZ hz2 hml hm
        go_wp2_with fail
        refine bodyPost_ret (v := .tuple #[.agg #[txt [], txt []], .int .i64 (me : Nat)]) (by rw [results_cell_tmp1 rfl]; go_simp) rfl ?_
        exact ⟨by rw [HZ2.out]; rfl, extA⟩
    · have hke : k = l.length := by omega
      subst hke
      have hz1 := hz.out.1
      rw [List.drop_eq_nil_of_le (Nat.le_refl _)] at hz1
      have HZ : Hid (R = ((p, q), 0)) := hz1.symm
      obtain ⟨a0, a1, a2, a3⟩ := A
      obtain ⟨x0, x1, x2, x3⟩ := X
      have z0 := cell_lt a0
      have z1 := cell_lt x0
      dsimp only at z0 z1
      clear hz hz1
      go_wp2_with fail
      refine bodyPost_ret (v := .tuple #[.agg #[txt p, txt q], .int .i64 0]) (by rw [results_cell_tmp1 rfl]; go_simp) rfl ?_
      exact ⟨by rw [HZ.out]; rfl, extA⟩
end Go.Proofs.YtbpjbhbbkonjlaaGreatDoor
namespace Go.Proofs.YtbpjbhbbkonjlaaGreatDoor
open Go.RowKit
open Go.Lib (decDigits itoa)
theorem run_append_emptyA {P : Program} (w : World) (t ty e : TypeId) (i : TypeInfo) (ht : P.underlying t = some (.slice e)) (hi : P.info? e = some i) (g : Addr) (n cap : Nat) (hn : n ≤ cap) (a : Option Addr) (c : Nat) :
    (Builtin.append_ #[t, t] ty #[.slice (some g) n cap, .slice a 0 c]).run P w = .ok (.slice (some g) n cap) w := by
  cases a <;> simp [Builtin.append_, run_underlying ht, sizeOf, typeInfo, hi, hn, Builtin.lenOf, Builtin.firstCells, loadCells, storeCells, loadCellsFrom]
theorem wpList_appRun {P : Program} (w : World) {ops : Array Oper} {rest : List Oper} {o : Oper} {a : Act} {Q : Exit → Act → World → Prop} (hgd : o.guard = none) (s x : Operand) (t : TypeId)
    (ho : o.op = .call { callee := .builtin .append, args := #[s, x], argTypes := #[t, t] }) (v y : Value) (hs : a.eval s = v) (hx : a.eval x = y)
    (v' : Value) (w' : World) (hr : (Builtin.append_ #[t, t] o.type #[v, y]).run P w = .ok v' w')
    (h : wpList P ops Q rest (a.put o.dst v') w') : wpList P ops Q (o :: rest) a w := by
  refine wpList_plain hgd fun K hK => ?_
  unfold Oper.wp execOp
  simp only [ho, resolve, invoke, builtin, Sem.run_bind, Sem.run_pure, Result.andThen_ok, List.map_toArray, List.map_cons, List.map_nil, hs, hx, hr]
  exact hK _ _ h
theorem infoQt : (Tryz.prog.info? 98).map (fun i => (i.zero, i.size, i.bytes)) = some (some (.agg #[.int .i64 0, .int .i64 0]), 2, 16) := by kernel_rfl
def pairZ (l : List (Int × Int)) : List (Value × Value) := l.map fun x => (.int .i64 x.1, .int .i64 x.2)
theorem flat2_twoA {l : List (Value × Value)} {j : Nat} {u : Value} (h : (flat2 l)[j]? = some u) : ∃ i, ∃ hi : i < l.length, (j = i * 2 ∧ u = l[i].1) ∨ (j = i * 2 + 1 ∧ u = l[i].2) := by
  have hj := (List.getElem?_eq_some_iff.1 h).1
  rw [flat2_length] at hj
  have hi : j / 2 < l.length := by omega
  have hg := flat2_get l (j / 2) hi
  refine ⟨j / 2, hi, ?_⟩
  rcases Nat.mod_two_eq_zero_or_one j with h0 | h0
  · have e : j / 2 * 2 = j := by omega
    rw [e] at hg
    exact .inl ⟨e.symm, by rw [hg.1] at h; exact (Option.some.inj h).symm⟩
  · have e : j / 2 * 2 + 1 = j := by omega
    rw [e] at hg
    exact .inr ⟨e.symm, by rw [hg.2] at h; exact (Option.some.inj h).symm⟩
theorem cellsQt_row {w : World} {v : Value} {l : List (Int × Int)} (h : w.ownsRow 0 98 2 v l.length (flat2 (pairZ l))) : ∃ a c, v = .slice a l.length c ∧ CellsQt w a l := by
  obtain ⟨a, c, hv, hm, hr⟩ := rowReads h
  refine ⟨a, c, hv, fun i hi => ?_⟩
  have hg := flat2_get (pairZ l) i (by simpa [pairZ] using hi)
  obtain ⟨b, hb, _, h1, _⟩ := hr _ _ hg.1
  obtain ⟨b', hb', _, h2, _⟩ := hr _ _ hg.2
  rw [hb] at hb'
  cases hb'
  refine ⟨b, 0, hb, ?_, ?_⟩
  · rw [Nat.zero_add, h1]; simp [pairZ, List.getD, hi]
  · rw [Nat.zero_add, h2]; simp [pairZ, List.getD, hi]
theorem run_appQ {w w1 : World} (x : Int × Int) (g : Nat) (hg : w1.heap.size ≤ g) (hO : w.ownsRow 0 98 2 (.slice (some ⟨g, 0, none⟩) 1 1) 1 [.int .i64 x.1, .int .i64 x.2]) (E : Ext w1 w) (l : List (Int × Int)) (qa : Option Addr) (qc : Nat) (hc : CellsQt w qa l) (hn : l.length ≤ 9) :
    ∃ a c w', (Builtin.append_ #[129, 129] 129 #[.slice (some ⟨g, 0, none⟩) 1 1, .slice qa l.length qc]).run Tryz.prog w = .ok (.slice a (x :: l).length c) w' ∧ CellsQt w' a (x :: l) ∧ Ext w1 w' := by
  obtain ⟨i0, hi, hi0, hi1, hi2⟩ := info_parts infoQt
  by_cases h0 : l.length = 0
  · have hz : l = [] := List.eq_nil_of_length_eq_zero h0
    subst hz
    obtain ⟨a, c, hv, hcq⟩ := cellsQt_row (l := [x]) hO
    injection hv with h1 h2 h3
    subst h1
    exact ⟨some ⟨g, 0, none⟩, 1, w, run_append_emptyA w _ _ _ i0 Tryz.underlying129 hi _ _ _ (Nat.le_refl _) _ _, hcq, E⟩
  · obtain ⟨b, off, rfl, _⟩ := hc 0 (by omega)
    obtain ⟨v', w', hr, h2, h3⟩ := run_append1 (P := Tryz.prog) w 129 129 98 i0 (.agg #[.int .i64 0, .int .i64 0]) 2 16 Tryz.underlying129 hi hi0 hi1 hi2 rfl (by decide) (.slice (some ⟨g, 0, none⟩) 1 1) 1 _ hO ⟨b, off, none⟩ l.length qc (by omega) (flat2 (pairZ l)) (by rw [flat2_length]; simp [pairZ]) (fun j u hu => by
      obtain ⟨i, hi, hh⟩ := flat2_twoA hu
      have hi' : i < l.length := by simpa [pairZ] using hi
      obtain ⟨b', off', hb, k1, k2⟩ := hc i hi'
      cases hb
      rw [Addr.add_lit]
      rcases hh with ⟨rfl, rfl⟩ | ⟨rfl, rfl⟩
      · rw [k1]; simp [pairZ, List.getD, hi']
      · rw [← Nat.add_assoc, k2]; simp [pairZ, List.getD, hi']) (fun u hu => by
      obtain ⟨j, hj, e⟩ := List.mem_iff_getElem.1 hu
      obtain ⟨i, hi, ⟨_, h⟩ | ⟨_, h⟩⟩ := flat2_twoA (l := pairZ l) (j := j) (u := u) (by rw [← e]; exact List.getElem?_eq_getElem hj)
      · rw [h]; simp only [pairZ, List.getElem_map]; rfl
      · rw [h]; simp only [pairZ, List.getElem_map]; rfl) (by unfold maxLen; omega) (by omega)
    have h4 : w'.ownsRow 0 98 2 v' (x :: l).length (flat2 (pairZ (x :: l))) := by
      rw [List.length_cons, Nat.add_comm]
      exact h2
    obtain ⟨a, c, hv, hcq⟩ := cellsQt_row h4
    subst hv
    exact ⟨a, c, w', hr, hcq, E.trans' (h3.below (n := w1.heap.size) E.size (fun q hq => by cases hq; exact hg)) (Nat.le_refl _)⟩
theorem ownsQt_one (w : World) (x : Int × Int) : (w.alloc (.cells #[.int .i64 x.1, .int .i64 x.2] 98)).ownsRow 0 98 2 (.slice (some ⟨w.heap.size, 0, none⟩) 1 1) 1 [.int .i64 x.1, .int .i64 x.2] :=
  ⟨rfl, .inr ⟨w.heap.size, 1, #[.int .i64 x.1, .int .i64 x.2], rfl, Nat.zero_le _, heap_alloc_new w _, Nat.le_refl _, by decide, rfl, rfl⟩⟩
theorem faceN_bd2 {c : Cyl} (h : 1 ≤ c.bore ∧ c.bore ≤ 500 ∧ 0 ≤ c.rod ∧ c.rod < c.bore) (out : Bool) : 1 ≤ faceN c out ∧ faceN c out ≤ 250000 := faceN_bd (c := ⟨c.bore, c.rod, 1⟩) ⟨h.1, h.2.1, h.2.2.1, h.2.2.2, by dsimp only; omega, by dsimp only; omega⟩ out
set_option maxHeartbeats 8000000 in
set_option maxRecDepth 100000 in
theorem face_any (c : Cyl) (out : Bool) (l : List (Int × Int)) (qa : Option Addr) (qc : Nat) (w : World) (hG : Glob w) (hk : 1 ≤ c.bore ∧ c.bore ≤ 500 ∧ 0 ≤ c.rod ∧ c.rod < c.bore) (hc : CellsQt w qa l) (hq : ∀ x ∈ l, QOk x) (h9 : l.length ≤ 6) :
    Calls Tryz.prog 47 #[cylV c, .bool out, .slice qa l.length qc] w (EncP (timesE piE ((faceN c out, 4) :: l)) w) := by
  have HC := Lib.hid hc
  have HG := Lib.hid hG
  have hfb := faceN_bd2 hk out
  have HT := Lib.hid (fun W a cc hg hcc => aTimes_any piE ((faceN c out, 4) :: l) a cc W hg ⟨by decide, by decide⟩ hcc (fun x hx => by
    rcases List.mem_cons.1 hx with rfl | hx
    · exact ⟨by dsimp only; omega, by dsimp only; omega, by dsimp only; omega, by dsimp only; omega⟩
    · exact hq x hx) (by rw [List.length_cons]; omega))
  have hrow := fun W W1 g h1 h2 h3 h4 => run_appQ (w := W) (w1 := W1) (faceN c out, 4) g h1 h2 h3 l qa qc h4 (by omega)
  have HROW := Lib.hid hrow
  unfold EncP at HT ⊢
  generalize timesE piE ((faceN c out, 4) :: l) = R at HT ⊢
  clear hc hG hq hrow
  obtain ⟨⟨r1, r2⟩, re⟩ := R
  dsimp only [encV] at HT ⊢
  obtain ⟨b, r, s⟩ := c
  dsimp only at hk
  dsimp only [cylV]
  dsimp only [piE] at HT
  obtain ⟨h1, h2, h3, h4⟩ := hk
  have q1 : b * b ≤ 500 * 500 := Int.mul_le_mul h2 h2 (by omega) (by omega)
  have q2 : 0 ≤ b * b := Int.mul_nonneg (by omega) (by omega)
  have q3 : r * r ≤ 500 * 500 := Int.mul_le_mul (by omega) (by omega) h3 (by omega)
  have q4 : 0 ≤ r * r := Int.mul_nonneg h3 h3
  have u1 : IntKind.i64.wrap (b * b) = b * b := IntWalk.i64_in _ (by omega)
  have u2 : IntKind.i64.wrap (r * r) = r * r := IntWalk.i64_in _ (by omega)
  have u3 : IntKind.i64.wrap (b * b - r * r) = b * b - r * r := IntWalk.i64_in _ (by omega)
  clear q1 q2 q3 q4 h1 h2 h3 h4
  have X : EncAt (w.heap.size + 1) ((w.alloc (.cells #[.int .i64 b, .int .i64 r, .int .i64 s] 29)).alloc (.cells #[.string ⟨#[]⟩, .string ⟨#[]⟩] 36)) [] [] := ⟨by go_simp, by go_simp, by go_simp, by go_simp⟩
  have E : Ext w ((w.alloc (.cells #[.int .i64 b, .int .i64 r, .int .i64 s] 29)).alloc (.cells #[.string ⟨#[]⟩, .string ⟨#[]⟩] 36)) := extA
  cases out
  · rw [show faceN ⟨b, r, s⟩ false = b * b - r * r from rfl] at HROW hfb
    go_enter Tryz.func47, Tryz.ntmps47
    go_wp2_with fail
    generalize ((w.alloc (.cells #[.int .i64 b, .int .i64 r, .int .i64 s] 29)).alloc (.cells #[.string ⟨#[]⟩, .string ⟨#[]⟩] 36)) = w0 at X E ⊢
    refine (ePi_any _).mono ?_
    rintro e w1 ⟨rfl, hE⟩
    dsimp only [encV]
    replace X := X.ext hE
    replace E := E.trans hE
    clear hE
    have E1 : Ext w1 (w1.alloc (.cells #[.int .i64 (b * b - r * r), .int .i64 4] 98)) := extA
    obtain ⟨a, cc, w4, hr, hcq, hE4⟩ := HROW.out (w1.alloc (.cells #[.int .i64 (b * b - r * r), .int .i64 4] 98)) w1 w1.heap.size (Nat.le_refl _) (ownsQt_one w1 (b * b - r * r, 4)) E1 (HC.out.ext (E.trans E1))
    have HR := Lib.hid hr
    have HCQ := Lib.hid hcq
    have E4 := E.trans hE4
    replace X := X.ext hE4
    clear hr hcq hE4 E1 E
    go_wp2_with (at_builtin; refine wpList_appRun _ rfl _ _ 129 rfl (.slice (some ⟨w1.heap.size, 0, none⟩) 1 1) (.slice qa l.length qc) rfl rfl _ _ HR.out ?_)
    go_wp2_with fail
    refine (HT.out w4 a cc (HG.out.ext E4) HCQ.out).mono ?_
    rintro e w5 ⟨rfl, hE⟩
    obtain ⟨d0, d1, g0, g1⟩ := X.ext hE
    have E5 := E4.trans hE
    clear hE E4 X
    go_wp2
    refine bodyPost_ret (v := .tuple #[.agg #[txt r1, txt r2], .int .i64 (re : Nat)]) (by rw [results_cell_tmp1 rfl]; go_simp) rfl ?_
    exact ⟨rfl, extA⟩
  · rw [show faceN ⟨b, r, s⟩ true = b * b from rfl] at HROW hfb
    go_enter Tryz.func47, Tryz.ntmps47
    go_wp2_with fail
    generalize ((w.alloc (.cells #[.int .i64 b, .int .i64 r, .int .i64 s] 29)).alloc (.cells #[.string ⟨#[]⟩, .string ⟨#[]⟩] 36)) = w0 at X E ⊢
    refine (ePi_any _).mono ?_
    rintro e w1 ⟨rfl, hE⟩
    dsimp only [encV]
    replace X := X.ext hE
    replace E := E.trans hE
    clear hE
    have E1 : Ext w1 (w1.alloc (.cells #[.int .i64 (b * b), .int .i64 4] 98)) := extA
    obtain ⟨a, cc, w4, hr, hcq, hE4⟩ := HROW.out (w1.alloc (.cells #[.int .i64 (b * b), .int .i64 4] 98)) w1 w1.heap.size (Nat.le_refl _) (ownsQt_one w1 (b * b, 4)) E1 (HC.out.ext (E.trans E1))
    have HR := Lib.hid hr
    have HCQ := Lib.hid hcq
    have E4 := E.trans hE4
    replace X := X.ext hE4
    clear hr hcq hE4 E1 E
    go_wp2_with (at_builtin; refine wpList_appRun _ rfl _ _ 129 rfl (.slice (some ⟨w1.heap.size, 0, none⟩) 1 1) (.slice qa l.length qc) rfl rfl _ _ HR.out ?_)
    go_wp2_with fail
    refine (HT.out w4 a cc (HG.out.ext E4) HCQ.out).mono ?_
    rintro e w5 ⟨rfl, hE⟩
    obtain ⟨d0, d1, g0, g1⟩ := X.ext hE
    have E5 := E4.trans hE
    clear hE E4 X
    go_wp2
    refine bodyPost_ret (v := .tuple #[.agg #[txt r1, txt r2], .int .i64 (re : Nat)]) (by rw [results_cell_tmp1 rfl]; go_simp) rfl ?_
    exact ⟨rfl, extA⟩
end Go.Proofs.YtbpjbhbbkonjlaaGreatDoor
namespace Go.Proofs.YtbpjbhbbkonjlaaGreatDoor
open Go.RowKit
open Go.Lib (decDigits itoa)
theorem cellsQt_two (w : World) (x y : Int × Int) (t : TypeId) : CellsQt (w.alloc (.cells #[.int .i64 x.1, .int .i64 x.2, .int .i64 y.1, .int .i64 y.2] t)) (some ⟨w.heap.size, 0, none⟩) [x, y] := fun i hi => by
  have : i = 0 ∨ i = 1 := by simp at hi; omega
  rcases this with rfl | rfl
  · exact ⟨w.heap.size, 0, rfl, by rw [World.cell?_alloc_new]; rfl, by rw [World.cell?_alloc_new]; rfl⟩
  · exact ⟨w.heap.size, 0, rfl, by rw [World.cell?_alloc_new]; rfl, by rw [World.cell?_alloc_new]; rfl⟩
theorem CylOk.four {c : Cyl} (h : CylOk c) : 1 ≤ c.bore ∧ c.bore ≤ 500 ∧ 0 ≤ c.rod ∧ c.rod < c.bore := ⟨h.b1, h.b2, h.r1, h.r2⟩
theorem qok_small {n d : Int} (h1 : 0 ≤ n) (h2 : n ≤ 1000000) (h3 : 0 < d) (h4 : d ≤ 101000000) : QOk (n, d) := ⟨h1, by dsimp only; omega, h3, by dsimp only; omega⟩
theorem cylV_eq (b r s : Int) : cylV ⟨b, r, s⟩ = .agg #[.int .i64 b, .int .i64 r, .int .i64 s] := rfl
set_option maxHeartbeats 8000000 in
set_option maxRecDepth 100000 in
theorem aLitres_any (c : Cyl) (out : Bool) (p : Int) (w : World) (hG : Glob w) (hk : CylOk c) (h1 : 1 ≤ p) (h2 : p ≤ 2000) : Calls Tryz.prog 24 #[cylV c, .bool out, .int .i64 p] w (EncP (litT c out p, 0) w) := by
  have HG := Lib.hid hG
  have hs1 := hk.s1
  have hs2 := hk.s2
  obtain ⟨b, r, s⟩ := c
  dsimp only at hs1 hs2
  have V := cylV_eq b r s
  have HF := Lib.hid (fun W qa qc (hg : Glob W) hc => face_any ⟨b, r, s⟩ out [(s, 1), (p + 101, 101000000)] qa qc W hg hk.four hc (fun x hx => by
    simp at hx
    rcases hx with rfl | rfl
    · exact qok_small (by omega) (by omega) (by decide) (by decide)
    · exact qok_small (by omega) (by omega) (by decide) (by decide)) (by simp))
  rw [lit_times hk out h1 h2] at HF
  unfold EncP at HF ⊢
  rw [V] at HF ⊢
  generalize litT ⟨b, r, s⟩ out p = tt at HF ⊢
  obtain ⟨t1, t2⟩ := tt
  dsimp only [encV] at HF ⊢
  have u1 : IntKind.i64.wrap (p + 101) = p + 101 := IntWalk.i64_in _ (by omega)
  clear hk hs1 hs2 hG
  have X : EncAt (w.heap.size + 1) ((w.alloc (.cells #[.int .i64 b, .int .i64 r, .int .i64 s] 29)).alloc (.cells #[.string ⟨#[]⟩, .string ⟨#[]⟩] 36)) [] [] := ⟨by go_simp, by go_simp, by go_simp, by go_simp⟩
  have E : Ext w ((w.alloc (.cells #[.int .i64 b, .int .i64 r, .int .i64 s] 29)).alloc (.cells #[.string ⟨#[]⟩, .string ⟨#[]⟩] 36)) := extA
  have E1 : Ext ((w.alloc (.cells #[.int .i64 b, .int .i64 r, .int .i64 s] 29)).alloc (.cells #[.string ⟨#[]⟩, .string ⟨#[]⟩] 36)) (((w.alloc (.cells #[.int .i64 b, .int .i64 r, .int .i64 s] 29)).alloc (.cells #[.string ⟨#[]⟩, .string ⟨#[]⟩] 36)).alloc (.cells #[.int .i64 s, .int .i64 1, .int .i64 (p + 101), .int .i64 101000000] 98)) := extA
  have hz : (((w.alloc (.cells #[.int .i64 b, .int .i64 r, .int .i64 s] 29)).alloc (.cells #[.string ⟨#[]⟩, .string ⟨#[]⟩] 36))).heap.size = w.heap.size + 1 + 1 := by simp
  have HQ := Lib.hid (cellsQt_two ((w.alloc (.cells #[.int .i64 b, .int .i64 r, .int .i64 s] 29)).alloc (.cells #[.string ⟨#[]⟩, .string ⟨#[]⟩] 36)) (s, 1) (p + 101, 101000000) 98)
  rw [hz] at HQ
  have X1 := X.ext E1
  have E2 := E.trans E1
  go_enter Tryz.func24, Tryz.ntmps24
  go_wp2_with fail
  generalize (((w.alloc (.cells #[.int .i64 b, .int .i64 r, .int .i64 s] 29)).alloc (.cells #[.string ⟨#[]⟩, .string ⟨#[]⟩] 36)).alloc (.cells #[.int .i64 s, .int .i64 1, .int .i64 (p + 101), .int .i64 101000000] 98)) = w0 at X1 E2 HQ ⊢
  refine (HF.out _ _ 2 (HG.out.ext E2) HQ.out).mono ?_
  rintro e w2 ⟨rfl, hE⟩
  obtain ⟨d0, d1, g0, g1⟩ := X1.ext hE
  replace E := E2.trans hE
  clear hE X1 E2 X E1
  go_wp2
  refine bodyPost_ret (v := .tuple #[.agg #[txt t1, txt t2], .int .i64 0]) (by rw [results_cell_tmp1 rfl]; go_simp) rfl ?_
  exact ⟨rfl, extA⟩
set_option maxHeartbeats 8000000 in
set_option maxRecDepth 100000 in
theorem aStroke_any (c : Cyl) (out : Bool) (p : Int) (w : World) (hG : Glob w) : Calls Tryz.prog 13 #[cylV c, .bool out, .int .i64 p] w (EncP (strokeS c out p) w) := by
  have HK := Lib.hid (fun W => aChecked_any c p W)
  have HG := Lib.hid hG
  obtain ⟨R, hR⟩ : ∃ R, R = strokeS c out p := ⟨_, rfl⟩
  rw [← hR]
  unfold strokeS at hR
  have hok := fun h : presE c p = 0 => presOk_of h
  unfold EncP
  clear hG
  obtain ⟨b, r, s⟩ := c
  generalize presE ⟨b, r, s⟩ p = n at HK hR hok
  have V := cylV_eq b r s
  have X : EncAt (w.heap.size + 1) ((w.alloc (.cells #[.int .i64 b, .int .i64 r, .int .i64 s] 29)).alloc (.cells #[.string ⟨#[]⟩, .string ⟨#[]⟩] 36)) [] [] := ⟨by go_simp, by go_simp, by go_simp, by go_simp⟩
  have E : Ext w ((w.alloc (.cells #[.int .i64 b, .int .i64 r, .int .i64 s] 29)).alloc (.cells #[.string ⟨#[]⟩, .string ⟨#[]⟩] 36)) := extA
  have c0 : (((w.alloc (.cells #[.int .i64 b, .int .i64 r, .int .i64 s] 29)).alloc (.cells #[.string ⟨#[]⟩, .string ⟨#[]⟩] 36))).cell? ⟨w.heap.size, 0, none⟩ = some (.int .i64 b) := by go_simp
  have c1 : (((w.alloc (.cells #[.int .i64 b, .int .i64 r, .int .i64 s] 29)).alloc (.cells #[.string ⟨#[]⟩, .string ⟨#[]⟩] 36))).cell? ⟨w.heap.size, 1, none⟩ = some (.int .i64 r) := by go_simp
  have c2 : (((w.alloc (.cells #[.int .i64 b, .int .i64 r, .int .i64 s] 29)).alloc (.cells #[.string ⟨#[]⟩, .string ⟨#[]⟩] 36))).cell? ⟨w.heap.size, 2, none⟩ = some (.int .i64 s) := by go_simp
  rw [V] at HK ⊢
  by_cases hn : n = 0
  · subst hn
    rw [if_neg (by simp)] at hR
    have hk := hok rfl
    clear hok
    have HF := Lib.hid (fun W (hg : Glob W) => aLitres_any ⟨b, r, s⟩ out p W hg hk.1 hk.2.1 hk.2.2)
    unfold EncP at HF
    rw [V] at HF
    generalize litT ⟨b, r, s⟩ out p = tt at HF hR
    obtain ⟨t1, t2⟩ := tt
    dsimp only [encV] at HF
    have HR := Lib.hid hR
    clear hR hk
    go_enter Tryz.func13, Tryz.ntmps13
    go_wp2_with fail
    generalize ((w.alloc (.cells #[.int .i64 b, .int .i64 r, .int .i64 s] 29)).alloc (.cells #[.string ⟨#[]⟩, .string ⟨#[]⟩] 36)) = w0 at X E c0 c1 c2 ⊢
    refine (HK.out _).mono ?_
    rintro e w1 ⟨rfl, hE⟩
    replace X := X.ext hE
    replace E := E.trans hE
    have c0 := (hE).cell c0
    have c1 := (hE).cell c1
    have c2 := (hE).cell c2
    have z0 := cell_lt c0
    have z1 := cell_lt X.c0
    dsimp only at z0 z1
    clear hE
    go_wp2_with fail
    refine (HF.out _ (HG.out.ext E)).mono ?_
    rintro e w2 ⟨rfl, hE⟩
    obtain ⟨d0, d1, g0, g1⟩ := X.ext hE
    replace E := E.trans hE
    clear hE X c0 c1 c2 z0 z1
    go_wp2
    refine bodyPost_ret (v := .tuple #[.agg #[txt t1, txt t2], .int .i64 0]) (by rw [results_cell_tmp1 rfl]; go_simp) rfl ?_
    exact ⟨by rw [HR.out]; rfl, extA⟩
  · rw [if_pos hn] at hR
    have HR := Lib.hid hR
    have hne : (((n : Nat) : Int) != 0) = true := by rw [bne_iff_ne]; omega
    clear hR hok hn
    go_enter Tryz.func13, Tryz.ntmps13
    go_wp2_with fail
    generalize ((w.alloc (.cells #[.int .i64 b, .int .i64 r, .int .i64 s] 29)).alloc (.cells #[.string ⟨#[]⟩, .string ⟨#[]⟩] 36)) = w0 at X E c0 c1 c2 ⊢
    refine (HK.out _).mono ?_
    rintro e w1 ⟨rfl, hE⟩
    obtain ⟨d0, d1, g0, g1⟩ := X.ext hE
    replace E := E.trans hE
    clear hE X c0 c1 c2
    go_wp2
    refine bodyPost_ret (v := .tuple #[.agg #[txt [], txt []], .int .i64 (n : Nat)]) (by rw [results_cell_tmp1 rfl]; go_simp) rfl ?_
    exact ⟨by rw [HR.out]; rfl, extA⟩
end Go.Proofs.YtbpjbhbbkonjlaaGreatDoor
namespace Go.Proofs.YtbpjbhbbkonjlaaGreatDoor
open Go.RowKit
open Go.Lib (decDigits itoa)
end Go.Proofs.YtbpjbhbbkonjlaaGreatDoor
namespace Go.Proofs.YtbpjbhbbkonjlaaGreatDoor
open Go.RowKit
open Go.Lib (decDigits itoa)
def Cyl64 (c : Cyl) : Prop := -9223372036854775808 ≤ c.bore ∧ c.bore ≤ 9223372036854775807
end Go.Proofs.YtbpjbhbbkonjlaaGreatDoor
namespace Go.Proofs.YtbpjbhbbkonjlaaGreatDoor
open Go.RowKit
end Go.Proofs.YtbpjbhbbkonjlaaGreatDoor
namespace Go.Proofs.YtbpjbhbbkonjlaaGreatDoor
open Go.RowKit
open Go.Lib (decDigits itoa)
theorem sign_neg (q : Rat) : q.num.sign < 0 ↔ q < 0 := by
  rw [Int.sign_neg_iff, ← Int.not_le, ← Rat.not_le, Rat.num_nonneg]
end Go.Proofs.YtbpjbhbbkonjlaaGreatDoor
namespace Go.Proofs.YtbpjbhbbkonjlaaGreatDoor
open Go.RowKit
def CellsI (w : World) (a : Option Addr) (l : List Int) : Prop := ∀ i, i < l.length → ∃ b off, a = some ⟨b, off, none⟩ ∧ w.cell? ⟨b, off + i, none⟩ = some (.int .i64 (l.getD i 0))
theorem CellsI.ext {w w' : World} {a : Option Addr} {l : List Int} (h : CellsI w a l) (he : Ext w w') : CellsI w' a l := fun i hi => by
  obtain ⟨b, off, h1, h2⟩ := h i hi
  exact ⟨b, off, h1, he.cell h2⟩
theorem CellsI.nil (w : World) (a : Option Addr) : CellsI w a [] := fun i hi => by simp at hi
def vals (l : List Int) : List Value := l.map (Value.int .i64)
def OwnsI (w : World) (v : Value) (l : List Int) : Prop := w.ownsRow 0 3 1 v l.length (vals l)
theorem OwnsI.nil (w : World) : OwnsI w (.slice none 0 0) [] := World.ownsRow_nil w 0 _ _
theorem OwnsI.ext {A B : World} {v : Value} {N : List Int} (ho : OwnsI A v N) (h : Ext A B) : OwnsI B v N := rowExt ho h
theorem OwnsI.lt {A : World} {v : Value} {N : List Int} (ho : OwnsI A v N) {b : Nat} (hb : v.ownBlock = some b) : b < A.heap.size := (World.ownsRow.lt ho b hb).2
theorem OwnsI.reads {A : World} {v : Value} {N : List Int} (ho : OwnsI A v N) : ∃ a cap, v = .slice a N.length cap ∧ CellsI A a N ∧ (N = [] ∨ ∃ b, a = some ⟨b, 0, none⟩ ∧ v.ownBlock = some b ∧ ∀ i, i < N.length → A.cell? ⟨b, i, none⟩ = some (.int .i64 (N.getD i 0)) ∧ A.frozen? ⟨b, i, none⟩ = false) := by
  rcases ho.2 with ⟨hv, hn⟩ | ⟨g, cap, cur, hv, hg, hh, hnc, hm, hcs, ht⟩
  · have : N = [] := List.eq_nil_of_length_eq_zero hn
    subst this
    exact ⟨none, 0, hv, CellsI.nil _ _, .inl rfl⟩
  · have key : ∀ i, i < N.length → A.cell? ⟨g, i, none⟩ = some (.int .i64 (N.getD i 0)) := fun i hi => by
      have hc := World.ownsRow.cells ho (g := g) (by rw [hv]; rfl)
      have := hc i (.int .i64 (N.getD i 0)) (by simp [vals, List.getD, hi])
      rwa [Addr.add_lit, Nat.zero_add] at this
    refine ⟨some ⟨g, 0, none⟩, cap, hv, fun i hi => ⟨g, 0, rfl, by rw [Nat.zero_add]; exact key i hi⟩, .inr ⟨g, rfl, by rw [hv]; rfl, fun i hi => ⟨key i hi, ?_⟩⟩⟩
    have ho' : A.ownsRow 0 3 1 (.slice (some ⟨g, 0, none⟩) N.length cap) N.length (vals N) := by have h9 := ho; unfold OwnsI at h9; rw [hv] at h9; exact h9
    exact ho'.frozenAt i
theorem OwnsI.isCells {A : World} {v : Value} {N : List Int} (h : OwnsI A v N) {b : Nat} (hb : v.ownBlock = some b) {o : Obj} (ho : A.heap[b]? = some o) : o.isCells = true := by
  rcases h.2 with ⟨hv, _⟩ | ⟨g, cap, cur, hv, _, hh, _⟩
  · rw [hv] at hb; cases hb
  · rw [hv] at hb; cases hb
    rw [hh] at ho; cases ho; rfl
theorem infoInt : (Tryz.prog.info? 3).map (fun i => (i.zero, i.size, i.bytes)) = some (some (.int .i64 0), 1, 8) := by kernel_rfl
theorem OwnsI.full {A : World} {v : Value} {N : List Int} (ho : OwnsI A v N) : ∃ a cap, v = .slice a N.length cap ∧ CellsI A a N ∧ N.length ≤ cap ∧ cap ≤ maxLen := by
  obtain ⟨a, cap, h1, h2, _⟩ := ho.reads
  refine ⟨a, cap, h1, h2, ?_⟩
  rcases ho.2 with ⟨hv, hn⟩ | ⟨g, cap2, cur, hv, hg, hh, hnc, hm, hcs, ht⟩
  · rw [h1] at hv
    injection hv with _ e1 e2
    rw [e1, e2]; exact ⟨Nat.le_refl _, Nat.zero_le _⟩
  · rw [h1] at hv
    injection hv with _ _ e2
    rw [e2]; exact ⟨hnc, hm⟩
end Go.Proofs.YtbpjbhbbkonjlaaGreatDoor
namespace Go.Proofs.YtbpjbhbbkonjlaaGreatDoor
open Go.RowKit
open Go.Lib (decDigits itoa)
end Go.Proofs.YtbpjbhbbkonjlaaGreatDoor
namespace Go.Proofs.YtbpjbhbbkonjlaaGreatDoor
open Go.RowKit
open Go.Lib (decDigits itoa)
end Go.Proofs.YtbpjbhbbkonjlaaGreatDoor
namespace Go.Proofs.YtbpjbhbbkonjlaaGreatDoor
open Go.RowKit
open Go.Lib (decDigits itoa)
end Go.Proofs.YtbpjbhbbkonjlaaGreatDoor
namespace Go.Proofs.YtbpjbhbbkonjlaaGreatDoor
open Go.RowKit
open Go.Lib (decDigits itoa)
end Go.Proofs.YtbpjbhbbkonjlaaGreatDoor
namespace Go.Proofs.YtbpjbhbbkonjlaaGreatDoor
open Go.RowKit
open Go.Lib (decDigits itoa)
structure CylAt (b : Nat) (W : World) (x y z : Int) : Prop where
  c0 : W.cell? ⟨b, 0, none⟩ = some (.int .i64 x)
  c1 : W.cell? ⟨b, 1, none⟩ = some (.int .i64 y)
  c2 : W.cell? ⟨b, 2, none⟩ = some (.int .i64 z)
theorem CylAt.ext {b : Nat} {A B : World} {x y z : Int} (h : CylAt b A x y z) (e : Ext A B) : CylAt b B x y z := ⟨e.cell h.c0, e.cell h.c1, e.cell h.c2⟩
end Go.Proofs.YtbpjbhbbkonjlaaGreatDoor
namespace Go.Proofs.YtbpjbhbbkonjlaaGreatDoor
open Go.RowKit
def cyl0 : Cyl := ⟨0, 0, 0⟩
def CellsC (w : World) (a : Option Addr) (l : List Cyl) : Prop :=
  ∀ i, i < l.length → ∃ b off, a = some ⟨b, off, none⟩ ∧ w.cell? ⟨b, off + i * 3, none⟩ = some (.int .i64 (l.getD i cyl0).bore) ∧ w.cell? ⟨b, off + i * 3 + 1, none⟩ = some (.int .i64 (l.getD i cyl0).rod) ∧ w.cell? ⟨b, off + i * 3 + 2, none⟩ = some (.int .i64 (l.getD i cyl0).stroke)
theorem CellsC.ext {w w' : World} {a : Option Addr} {l : List Cyl} (h : CellsC w a l) (he : Ext w w') : CellsC w' a l := fun i hi => by
  obtain ⟨b, off, h1, h2, h3, h4⟩ := h i hi
  exact ⟨b, off, h1, he.cell h2, he.cell h3, he.cell h4⟩
def flatC : List Cyl → List Value
  | [] => []
  | c :: l => .int .i64 c.bore :: .int .i64 c.rod :: .int .i64 c.stroke :: flatC l
theorem flatC_get (l : List Cyl) : ∀ i, i < l.length → (flatC l)[i * 3]? = some (.int .i64 (l.getD i cyl0).bore) ∧ (flatC l)[i * 3 + 1]? = some (.int .i64 (l.getD i cyl0).rod) ∧ (flatC l)[i * 3 + 2]? = some (.int .i64 (l.getD i cyl0).stroke) := by
  induction l with
  | nil => intro i h; simp at h
  | cons c l ih =>
    intro i h
    cases i with
    | zero => exact ⟨rfl, rfl, rfl⟩
    | succ i =>
      have := ih i (by simpa using h)
      rw [show (i + 1) * 3 = i * 3 + 1 + 1 + 1 by omega]
      simpa [flatC] using this
def OwnsC (w : World) (v : Value) (l : List Cyl) : Prop := w.ownsRow 0 29 3 v l.length (flatC l)
theorem OwnsC.nil (w : World) : OwnsC w (.slice none 0 0) [] := World.ownsRow_nil w 0 _ _
theorem OwnsC.ext {A B : World} {v : Value} {l : List Cyl} (h : OwnsC A v l) (k : Ext A B) : OwnsC B v l := rowExt h k
theorem OwnsC.reads {A : World} {v : Value} {l : List Cyl} (h : OwnsC A v l) : ∃ a cap, v = .slice a l.length cap ∧ CellsC A a l ∧ l.length ≤ maxLen := by
  obtain ⟨a, cap, hv, hm, hr⟩ := rowReads h
  refine ⟨a, cap, hv, fun i hi => ?_, hm⟩
  obtain ⟨b, hb, _, h1, _⟩ := hr _ _ (flatC_get l i hi).1
  obtain ⟨b2, hb2, _, h2, _⟩ := hr _ _ (flatC_get l i hi).2.1
  obtain ⟨b3, hb3, _, h3, _⟩ := hr _ _ (flatC_get l i hi).2.2
  rw [hb] at hb2 hb3
  cases hb2
  cases hb3
  exact ⟨b, 0, hb, by rw [Nat.zero_add]; exact h1, by rw [Nat.zero_add]; exact h2, by rw [Nat.zero_add]; exact h3⟩
theorem infoCyl : (Tryz.prog.info? 29).map (fun i => (i.zero, i.size, i.bytes)) = some (some (.agg #[.int .i64 0, .int .i64 0, .int .i64 0]), 3, 24) := by kernel_rfl
theorem take_snoc {α : Type} {l : List α} {k : Nat} (d : α) (h : k < l.length) : l.take (k + 1) = l.take k ++ [l.getD k d] := by
  rw [List.take_succ_eq_append_getElem h, List.getD_eq_getElem?_getD, List.getElem?_eq_getElem h]; rfl
end Go.Proofs.YtbpjbhbbkonjlaaGreatDoor
namespace Go.Proofs.YtbpjbhbbkonjlaaGreatDoor
abbrev Stk := Int × Bool
abbrev Stp := List Stk × Int
abbrev Sq := Int × List Stp
def ckStrokes : Int → List Stk → Int
  | _, [] => 0
  | last, y :: l => if y.1 < 0 ∨ 6 ≤ y.1 then 2 else if y.1 = last then 7 else if y.1 < last then 9 else ckStrokes y.1 l
def ckStep (x : Stp) : Int :=
  if x.1.length = 0 then 13 else if 6 < x.1.length then 5 else if ckStrokes (-1) x.1 ≠ 0 then ckStrokes (-1) x.1 else if x.2 < 0 ∨ 1000000 < x.2 then 2 else 0
def beh (e : Int → Bool) (l : List Stk) : Int → Bool := l.foldl (fun e y i => if i = y.1 then y.2 else e i) e
def anyHigh (n : Int) (l : List Stk) : Bool := l.any fun y => decide (n ≤ y.1)
def anySame (e : Int → Bool) (l : List Stk) : Bool := l.any fun y => e y.1 == y.2
def ckFit (n : Int) (x : Stp) (e : Int → Bool) : Int :=
  if ckStep x ≠ 0 then ckStep x else if anyHigh n x.1 then 6 else if anySame e x.1 then 14 else 0
def ckWalk (n : Int) : (Int → Bool) → List Stp → Int
  | _, [] => 0
  | e, x :: l => if ckFit n x e ≠ 0 then ckFit n x e else ckWalk n (beh e x.1) l
def none6 : Int → Bool := fun _ => false
def behAll (e : Int → Bool) (l : List Stp) : Int → Bool := l.foldl (fun e x => beh e x.1) e
def movesIn (a : Int) (x : Stp) : Bool := x.1.any fun y => y.1 == a
def movedIn (a : Int) (l : List Stp) : Bool := l.any (movesIn a)
def ints (n : Int) : List Int := (List.range n.toNat).map Int.ofNat
def ckSeq (s : Sq) : Int :=
  if s.1 < 1 ∨ 6 < s.1 then 2 else if s.2.length = 0 then 13 else if 64 < s.2.length then 5
  else if ckWalk s.1 none6 s.2 ≠ 0 then ckWalk s.1 none6 s.2
  else if (ints s.1).any (behAll none6 s.2) then 9
  else if (ints s.1).any (fun a => !movedIn a s.2) then 13 else 0
def ordered (l : List Stk) : List Stk := (ints 6).flatMap fun a => l.filter fun y => y.1 == a
def renStep (tf : Int → Int) (x : Stp) : Stp := (ordered (x.1.map fun y => (tf y.1, y.2)), x.2)
def ren (tf : Int → Int) (s : Sq) : Sq := (s.1, s.2.map (renStep tf))
def listFn (l : List Int) (a : Int) : Int := if a < 0 then 0 else l.getD a.toNat 0
def apart (a b : Stp) : Bool := a.1.all fun y => !movesIn y.1 b
def renGo (n : Int) : List Int → List Int → Int
  | _, [] => 0
  | bef, x :: l => if x < 0 ∨ n ≤ x then 2 else if bef.contains x then 7 else renGo n (bef ++ [x]) l
def renE (tf : List Int) (n : Int) : Int := if (tf.length : Int) ≠ n then 8 else renGo n [] tf
end Go.Proofs.YtbpjbhbbkonjlaaGreatDoor
namespace Go.Proofs.YtbpjbhbbkonjlaaGreatDoor
open Go.RowKit
end Go.Proofs.YtbpjbhbbkonjlaaGreatDoor
namespace Go.Proofs.YtbpjbhbbkonjlaaGreatDoor
open Go.RowKit
def stk0 : Stk := (0, false)
def stp0 : Stp := ([], 0)
def CellsK (w : World) (a : Option Addr) (l : List Stk) : Prop :=
  ∀ i, i < l.length → ∃ b off, a = some ⟨b, off, none⟩ ∧ w.cell? ⟨b, off + i * 2, none⟩ = some (.int .i64 (l.getD i stk0).1) ∧ w.cell? ⟨b, off + i * 2 + 1, none⟩ = some (.bool (l.getD i stk0).2)
theorem CellsK.ext {w w' : World} {a : Option Addr} {l : List Stk} (h : CellsK w a l) (he : Ext w w') : CellsK w' a l := fun i hi => by
  obtain ⟨b, off, h1, h2, h3⟩ := h i hi
  exact ⟨b, off, h1, he.cell h2, he.cell h3⟩
theorem CellsK.nil (w : World) (a : Option Addr) : CellsK w a [] := fun i hi => by simp at hi
def SliceK (w : World) (v : Value) (l : List Stk) : Prop := ∃ a cap, v = .slice a l.length cap ∧ CellsK w a l ∧ l.length ≤ maxLen
theorem SliceK.ext {w w' : World} {v : Value} {l : List Stk} (h : SliceK w v l) (he : Ext w w') : SliceK w' v l := by
  obtain ⟨a, cap, h1, h2, h3⟩ := h
  exact ⟨a, cap, h1, h2.ext he, h3⟩
def CellsP (w : World) (a : Option Addr) (l : List Stp) : Prop :=
  ∀ i, i < l.length → ∃ b off v, a = some ⟨b, off, none⟩ ∧ w.cell? ⟨b, off + i * 2, none⟩ = some v ∧ SliceK w v (l.getD i stp0).1 ∧ w.cell? ⟨b, off + i * 2 + 1, none⟩ = some (.int .i64 (l.getD i stp0).2)
theorem CellsP.ext {w w' : World} {a : Option Addr} {l : List Stp} (h : CellsP w a l) (he : Ext w w') : CellsP w' a l := fun i hi => by
  obtain ⟨b, off, v, h1, h2, h3, h4⟩ := h i hi
  exact ⟨b, off, v, h1, he.cell h2, h3.ext he, he.cell h4⟩
theorem Room.len {a : Option Addr} {n cap : Nat} (h : Room a n cap) : n ≤ maxLen := Nat.le_trans h.1 h.2.1
instance roomLen (a : Option Addr) (n cap : Nat) : CoeOut (Room a n cap) (n ≤ maxLen) := ⟨Room.len⟩
theorem rowRoom {A : World} {e : TypeId} {s : Nat} {v : Value} {n : Nat} {xs : List Value} {a : Option Addr} {cap : Nat} (h : A.ownsRow 0 e s v n xs) (hv : v = .slice a n cap) : Room a n cap := by
  rcases h.2 with ⟨h1, hn⟩ | ⟨g, c, cur, h1, hg, hh, hnc, hm, hcs, ht⟩
  · rw [hv] at h1
    cases h1
    exact ⟨by omega, by simp, fun h => by omega⟩
  · rw [hv] at h1
    cases h1
    exact ⟨hnc, hm, fun _ => ⟨g, 0, rfl⟩⟩
def SliceP (w : World) (v : Value) (l : List Stp) : Prop := ∃ a cap, v = .slice a l.length cap ∧ CellsP w a l ∧ Room a l.length cap
theorem SliceP.ext {w w' : World} {v : Value} {l : List Stp} (h : SliceP w v l) (he : Ext w w') : SliceP w' v l := by
  obtain ⟨a, cap, h1, h2, h3⟩ := h
  exact ⟨a, cap, h1, h2.ext he, h3⟩
def SeqV (w : World) (v : Value) (s : Sq) : Prop := ∃ u, v = .agg #[.int .i64 s.1, u] ∧ SliceP w u s.2
theorem SeqV.ext {w w' : World} {v : Value} {s : Sq} (h : SeqV w v s) (he : Ext w w') : SeqV w' v s := by
  obtain ⟨u, h1, h2⟩ := h
  exact ⟨u, h1, h2.ext he⟩
end Go.Proofs.YtbpjbhbbkonjlaaGreatDoor
namespace Go.Proofs.YtbpjbhbbkonjlaaGreatDoor
open Go.RowKit
def knownB (a : Int) : Bool := decide (0 ≤ a) && decide (a < 6)
theorem known_any (a : Int) (w : World) : Calls Tryz.prog 95 #[.int .i64 a] w fun e w' => e = .returned (.bool (knownB a)) ∧ w = w' := by
  unfold knownB
  go_enter Tryz.func95, Tryz.ntmps95
  go_wp2
  all_goals go_ret
  all_goals exact ⟨ret_bool (by first | rfl | (simp; done) | (simp; omega)), rfl⟩
theorem Actuator_any (a : Int) (w : World) : Calls Tryz.prog 67 #[.int .i64 a] w fun e w' => e = .returned (.bool (knownB a)) ∧ w = w' := by
  unfold knownB
  go_enter Tryz.func67, Tryz.ntmps67
  go_wp2
  all_goals go_ret
  all_goals exact ⟨ret_bool (by first | rfl | (simp; done) | (simp; omega)), rfl⟩
def timeB (a : Int) : Bool := decide (0 ≤ a) && decide (a ≤ 1000000)
theorem Time_any (a : Int) (w : World) : Calls Tryz.prog 68 #[.int .i64 a] w fun e w' => e = .returned (.bool (timeB a)) ∧ w = w' := by
  unfold timeB
  go_enter Tryz.func68, Tryz.ntmps68
  go_wp2
  all_goals go_ret
  all_goals exact ⟨ret_bool (by first | rfl | (simp; done) | (simp; omega)), rfl⟩
theorem ckStrokes_cons {la : Int} {y : Stk} {l : List Stk} (e : Int) (h : ckStrokes la (y :: l) = e) :
    (knownB y.1 = false → e = 2) ∧ (knownB y.1 = true → (y.1 = la → e = 7) ∧ (y.1 ≠ la → (y.1 < la → e = 9) ∧ (¬ y.1 < la → ckStrokes y.1 l = e))) := by
  unfold ckStrokes at h
  unfold knownB
  refine ⟨fun k => ?_, fun k => ⟨fun k2 => ?_, fun k2 => ⟨fun k3 => ?_, fun k3 => ?_⟩⟩⟩
  all_goals simp only [Bool.and_eq_true, Bool.and_eq_false_iff, decide_eq_true_eq, decide_eq_false_iff_not] at k
  · rw [if_pos (by omega)] at h; exact h.symm
  · rw [if_neg (by omega), if_pos k2] at h; exact h.symm
  · rw [if_neg (by omega), if_neg k2, if_pos k3] at h; exact h.symm
  · rw [if_neg (by omega), if_neg k2, if_neg k3] at h; exact h
theorem drop_cons {α : Type} (l : List α) (d : α) {k : Nat} (h : k < l.length) : l.drop k = l.getD k d :: l.drop (k + 1) := by
  rw [List.drop_eq_getElem_cons h, List.getD_eq_getElem?_getD, List.getElem?_eq_getElem h]; rfl
set_option maxHeartbeats 1000000 in
theorem CheckStep_any (l : List Stk) (wait : Int) (a : Option Addr) (cap : Nat) (w : World) (hl : l.length ≤ maxLen) (hc : CellsK w a l) :
    Calls Tryz.prog 80 #[.agg #[.slice a l.length cap, .int .i64 wait]] w fun e w' => e = .returned (.int .i64 (ckStep (l, wait))) ∧ Ext w w' := by
  have HC := Lib.hid hc
  unfold maxLen at hl
  clear hc
  by_cases h0 : l.length = 0
  · have hf : Hid (ckStep (l, wait) = 13) := by show _ = _; unfold ckStep; rw [if_pos h0]
    have h0' : ((l.length : Int) == 0) = true := by simp [h0]
    have h0b : (l.length == 0) = true := by simp [h0]
    go_enter Tryz.func80, Tryz.ntmps80
    go_wp2
    all_goals go_ret
    all_goals exact ⟨ret_int hf.out.symm, (Ext.refl _).alloc _⟩
  · have h0' : ((l.length : Int) == 0) = false := beq_eq_false_iff_ne.2 (by omega)
    have h0b : (l.length == 0) = false := beq_eq_false_iff_ne.2 h0
    by_cases h6 : 6 < l.length
    · have hf : Hid (ckStep (l, wait) = 5) := by show _ = _; unfold ckStep; rw [if_neg h0, if_pos h6]
      go_enter Tryz.func80, Tryz.ntmps80
      go_wp2
      all_goals go_ret
      all_goals exact ⟨ret_int hf.out.symm, (Ext.refl _).alloc _⟩
    · have hf : Hid (ckStep (l, wait) = if ckStrokes (-1) l ≠ 0 then ckStrokes (-1) l else if wait < 0 ∨ 1000000 < wait then 2 else 0) := by show _ = _; unfold ckStep; rw [if_neg h0, if_neg h6]
      clear h0
      go_enter Tryz.func80, Tryz.ntmps80
      go_wp2
      have H : Ext w (w.alloc (.cells #[.slice a l.length cap, .int .i64 wait] 69)) := (Ext.refl _).alloc _
      have c1 : (w.alloc (.cells #[.slice a l.length cap, .int .i64 wait] 69)).cell? ⟨w.heap.size, 1, none⟩ = some (.int .i64 wait) := by go_simp
      generalize w.alloc (.cells #[.slice a l.length cap, .int .i64 wait] 69) = W at H c1 ⊢
      have HC : Hid (CellsK W a l) := HC.out.ext H
      go_loopw [19, 4] (fun i la wr => ∃ k : Nat, k ≤ l.length ∧ i = .int .i64 k ∧ (∃ z : Int, la = .int .i64 z ∧ Hid (ckStrokes z (l.drop k) = ckStrokes (-1) l)) ∧ Ext W wr) (fun i _ _ => l.length - (intOf i).toNat)
      case atStart => exact ⟨0, Nat.zero_le _, rfl, ⟨-1, rfl, by show _ = _; rfl⟩, Ext.refl _⟩
      case round =>
        obtain ⟨k, hk, rfl, ⟨z, rfl, hz⟩, he⟩ := hrel
        have d1 := he.cell c1
        by_cases hlt : k < l.length
        · obtain ⟨b, off, ha, e1, e2⟩ := HC.out.ext he k hlt
          subst ha
          have hz1 := hz.out
          rw [drop_cons l stk0 hlt] at hz1
          have HZ := Lib.hid (ckStrokes_cons _ hz1)
          clear hz1 hz
          generalize l.getD k stk0 = y at e1 e2 HZ
          obtain ⟨ya, yo⟩ := y
          dsimp only at e1 e2 HZ
          have z1 := cell_lt e1
          dsimp only at z1
          cases hkn : knownB ya
          · have hf2 : Hid (ckStep (l, wait) = 2) := by
              show _ = _
              have h := HZ.out.1 hkn
              rw [hf.out, h]; rfl
            clear HZ
            go_wp2_with (go_at_call 95; (with_reducible refine (known_any _ _).mono ?_); rintro e w1 ⟨rfl, rfl⟩)
            go_ret
            exact ⟨ret_int hf2.out.symm, (H.trans he).alloc _⟩
          · have HZ2 := Lib.hid (HZ.out.2 hkn)
            clear HZ
            by_cases h7 : ya = z
            · have hf2 : Hid (ckStep (l, wait) = 7) := by
                show _ = _
                have h := HZ2.out.1 h7
                rw [hf.out, h]; rfl
              subst h7
              clear HZ2
              go_wp2_with (go_at_call 95; (with_reducible refine (known_any _ _).mono ?_); rintro e w1 ⟨rfl, rfl⟩)
              go_ret
              exact ⟨ret_int hf2.out.symm, (H.trans he).alloc _⟩
            · have h7b : (ya == z) = false := by simpa using h7
              have HZ3 := Lib.hid (HZ2.out.2 h7)
              clear HZ2 h7
              by_cases h9 : ya < z
              · have hf2 : Hid (ckStep (l, wait) = 9) := by
                  show _ = _
                  have h := HZ3.out.1 h9
                  rw [hf.out, h]; rfl
                clear HZ3
                go_wp2_with (go_at_call 95; (with_reducible refine (known_any _ _).mono ?_); rintro e w1 ⟨rfl, rfl⟩)
                go_ret
                exact ⟨ret_int hf2.out.symm, (H.trans he).alloc _⟩
              · have HZ4 := Lib.hid (HZ3.out.2 h9)
                clear HZ3
                go_wp2_with (go_at_call 95; (with_reducible refine (known_any _ _).mono ?_); rintro e w1 ⟨rfl, rfl⟩)
                refine ⟨⟨k + 1, by omega, by go_num, ⟨ya, rfl, HZ4⟩, he.alloc _⟩, by simp [intOf]; omega⟩
        · have hz1 := hz.out
          rw [List.drop_eq_nil_of_le (by omega)] at hz1
          have hf2 : Hid (ckStep (l, wait) = if wait < 0 ∨ 1000000 < wait then 2 else 0) := by
            show _ = _
            rw [hf.out, ← hz1]; rfl
          clear hz1 hz hf
          by_cases g1 : wait < 0
          · go_wp2
            all_goals go_ret
            all_goals exact ⟨ret_int (by rw [hf2.out, if_pos (Or.inl g1)]), H.trans he⟩
          · by_cases g2 : 1000000 < wait
            · go_wp2
              all_goals go_ret
              all_goals exact ⟨ret_int (by rw [hf2.out, if_pos (Or.inr g2)]), H.trans he⟩
            · go_wp2
              all_goals go_ret
              all_goals exact ⟨ret_int (by rw [hf2.out, if_neg (by omega)]), H.trans he⟩
def lastAt (l : List Stk) (k : Nat) : Int := if k = 0 then -1 else (l.getD (k - 1) stk0).1
set_option maxHeartbeats 2000000 in
theorem CheckStepR_any (l : List Stk) (wait : Int) (a : Option Addr) (cap : Nat) (w : World) (hl : l.length ≤ maxLen) (hc : CellsK w a l) :
    Calls Tryz.prog 36 #[.agg #[.slice a l.length cap, .int .i64 wait]] w fun e w' => e = .returned (.int .i64 (ckStep (l, wait))) ∧ Ext w w' := by
  have HC := Lib.hid hc
  unfold maxLen at hl
  clear hc
  by_cases h0 : l.length = 0
  · have hf : Hid (ckStep (l, wait) = 13) := by show _ = _; unfold ckStep; rw [if_pos h0]
    have h0' : ((l.length : Int) == 0) = true := by simp [h0]
    have h0b : (l.length == 0) = true := by simp [h0]
    go_enter Tryz.func36, Tryz.ntmps36
    go_wp2
    all_goals go_ret
    all_goals exact ⟨ret_int hf.out.symm, (Ext.refl _).alloc _⟩
  · have h0' : ((l.length : Int) == 0) = false := beq_eq_false_iff_ne.2 (by omega)
    have h0b : (l.length == 0) = false := beq_eq_false_iff_ne.2 h0
    by_cases h6 : 6 < l.length
    · have hf : Hid (ckStep (l, wait) = 5) := by show _ = _; unfold ckStep; rw [if_neg h0, if_pos h6]
      go_enter Tryz.func36, Tryz.ntmps36
      go_wp2
      all_goals go_ret
      all_goals exact ⟨ret_int hf.out.symm, (Ext.refl _).alloc _⟩
    · have hf : Hid (ckStep (l, wait) = if ckStrokes (-1) l ≠ 0 then ckStrokes (-1) l else if wait < 0 ∨ 1000000 < wait then 2 else 0) := by show _ = _; unfold ckStep; rw [if_neg h0, if_neg h6]
      clear h0
      go_enter Tryz.func36, Tryz.ntmps36
      go_wp2
      have H : Ext w (w.alloc (.cells #[.slice a l.length cap, .int .i64 wait] 69)) := (Ext.refl _).alloc _
      have c0 : (w.alloc (.cells #[.slice a l.length cap, .int .i64 wait] 69)).cell? ⟨w.heap.size, 0, none⟩ = some (.slice a l.length cap) := by go_simp
      have c1 : (w.alloc (.cells #[.slice a l.length cap, .int .i64 wait] 69)).cell? ⟨w.heap.size, 1, none⟩ = some (.int .i64 wait) := by go_simp
      generalize w.alloc (.cells #[.slice a l.length cap, .int .i64 wait] 69) = W at H c0 c1 ⊢
      have HC : Hid (CellsK W a l) := HC.out.ext H
      go_loopw [3] (fun i wr => ∃ k : Nat, k ≤ l.length ∧ i = .int .i64 k ∧ Hid (ckStrokes (lastAt l k) (l.drop k) = ckStrokes (-1) l) ∧ Ext W wr) (fun i _ => l.length - (intOf i).toNat)
      case atStart => exact ⟨0, Nat.zero_le _, rfl, by show _ = _; rfl, Ext.refl _⟩
      case round =>
        obtain ⟨k, hk, rfl, hz, he⟩ := hrel
        have d0 := he.cell c0
        have d1 := he.cell c1
        by_cases hlt : k < l.length
        · obtain ⟨b, off, ha, e1, e2⟩ := HC.out.ext he k hlt
          have hz1 := hz.out
          rw [drop_cons l stk0 hlt] at hz1
          have HZ := Lib.hid (ckStrokes_cons _ hz1)
          have HL : Hid (lastAt l (k + 1) = (l.getD k stk0).1) := by show _ = _; unfold lastAt; simp
          have HK : Hid (0 < k → ∃ z, w.heap.size = w.heap.size ∧ lastAt l k = z ∧ W.cell? ⟨b, off + (k - 1) * 2, none⟩ = some (.int .i64 z)) := fun hk0 => by
            obtain ⟨b', off', ha', e1', _⟩ := HC.out (k - 1) (by omega)
            rw [ha] at ha'
            injection ha' with ha'
            injection ha' with h1 h2 _
            subst h1; subst h2
            exact ⟨_, rfl, rfl, by rw [e1']; unfold lastAt; rw [if_neg (by omega)]⟩
          subst ha
          clear hz1 hz
          generalize l.getD k stk0 = y at e1 e2 HZ HL
          obtain ⟨ya, yo⟩ := y
          dsimp only at e1 e2 HZ HL
          have z1 := cell_lt e1
          dsimp only at z1
          cases hkn : knownB ya
          · have hf2 : Hid (ckStep (l, wait) = 2) := by
              show _ = _
              have h := HZ.out.1 hkn
              rw [hf.out, h]; rfl
            clear HZ
            go_wp2_with (go_at_call 67; (with_reducible refine (Actuator_any _ _).mono ?_); rintro e w1 ⟨rfl, rfl⟩)
            go_ret
            exact ⟨ret_int hf2.out.symm, H.trans he⟩
          · have HZ2 := Lib.hid (HZ.out.2 hkn)
            clear HZ
            have hya : 0 ≤ ya ∧ ya < 6 := by unfold knownB at hkn; simpa using hkn
            by_cases hk0 : k = 0
            · subst hk0
              have e1 : wr.cell? ⟨b, off, none⟩ = some (.int .i64 ya) := by simpa using e1
              have hlast : lastAt l 0 = -1 := rfl
              rw [hlast] at HZ2
              have hfin : Hid (ckStrokes ya (l.drop 1) = ckStrokes (-1) l) := (HZ2.out.2 (by omega)).2 (by omega)
              clear HZ2 HK hlast
              go_wp2_with (go_at_call 67; (with_reducible refine (Actuator_any _ _).mono ?_); rintro e w1 ⟨rfl, rfl⟩)
              go_quiet (fail)
              go_wp2
              go_quiet (fail)
              go_wp2
              refine ⟨⟨1, by omega, by go_num, by rw [HL.out]; exact hfin, extA⟩, by simp [intOf]; omega⟩
            · obtain ⟨z, _, hz3, hz4⟩ := HK.out (by omega)
              rw [hz3] at HZ2
              clear HK hz3
              have hz4 := he.cell hz4
              have hk1 : 0 < k := by omega
              have hk2 : ((k : Int) - 1).toNat = k - 1 := by omega
              have hk3 : 0 ≤ (k : Int) - 1 := by omega
              have hk4 : (k : Int) - 1 < l.length := by omega
              clear hk0
              by_cases h7 : ya = z
              · have hf2 : Hid (ckStep (l, wait) = 7) := by
                  show _ = _
                  have h := HZ2.out.1 h7
                  rw [hf.out, h]; rfl
                subst h7
                clear HZ2
                go_wp2_with (go_at_call 67; (with_reducible refine (Actuator_any _ _).mono ?_); rintro e w1 ⟨rfl, rfl⟩)
                go_quiet (fail)
                go_wp2
                go_ret
                exact ⟨ret_int hf2.out.symm, extA⟩
              · have h7b : (ya == z) = false := by simpa using h7
                have HZ3 := Lib.hid (HZ2.out.2 h7)
                clear HZ2 h7
                by_cases h9 : ya < z
                · have hf2 : Hid (ckStep (l, wait) = 9) := by
                    show _ = _
                    have h := HZ3.out.1 h9
                    rw [hf.out, h]; rfl
                  clear HZ3
                  go_wp2_with (go_at_call 67; (with_reducible refine (Actuator_any _ _).mono ?_); rintro e w1 ⟨rfl, rfl⟩)
                  go_quiet (fail)
                  go_wp2
                  go_quiet (fail)
                  go_wp2
                  go_ret
                  exact ⟨ret_int hf2.out.symm, extA⟩
                · have HZ4 := Lib.hid (HZ3.out.2 h9)
                  clear HZ3
                  go_wp2_with (go_at_call 67; (with_reducible refine (Actuator_any _ _).mono ?_); rintro e w1 ⟨rfl, rfl⟩)
                  go_quiet (fail)
                  go_wp2
                  go_quiet (fail)
                  go_wp2
                  refine ⟨⟨k + 1, by omega, by go_num, by rw [HL.out]; exact HZ4, extA⟩, by simp [intOf]; omega⟩
        · have hz1 := hz.out
          rw [List.drop_eq_nil_of_le (by omega)] at hz1
          have hf2 : Hid (ckStep (l, wait) = if wait < 0 ∨ 1000000 < wait then 2 else 0) := by
            show _ = _
            rw [hf.out, ← hz1]; rfl
          clear hz1 hz hf
          cases g : timeB wait
          · have hg : wait < 0 ∨ 1000000 < wait := by unfold timeB at g; simp at g; omega
            have hf2 : Hid (ckStep (l, wait) = 2) := by show _ = _; rw [hf2.out, if_pos hg]
            clear hg
            go_wp2_with (go_at_call 68; (with_reducible refine (Time_any _ _).mono ?_); rintro e w1 ⟨rfl, rfl⟩)
            go_ret
            exact ⟨ret_int hf2.out.symm, H.trans he⟩
          · have hg : ¬ (wait < 0 ∨ 1000000 < wait) := by unfold timeB at g; simp at g; omega
            have hf2 : Hid (ckStep (l, wait) = 0) := by show _ = _; rw [hf2.out, if_neg hg]
            clear hg
            go_wp2_with (go_at_call 68; (with_reducible refine (Time_any _ _).mono ?_); rintro e w1 ⟨rfl, rfl⟩)
            go_ret
            exact ⟨ret_int hf2.out.symm, H.trans he⟩
end Go.Proofs.YtbpjbhbbkonjlaaGreatDoor
namespace Go.Proofs.YtbpjbhbbkonjlaaGreatDoor
open Go.RowKit
def endsV (e : Int → Bool) : Value := .agg #[.bool (e 0), .bool (e 1), .bool (e 2), .bool (e 3), .bool (e 4), .bool (e 5)]
def EndsAt (w : World) (p : Nat) (e : Int → Bool) : Prop := ∀ k : Nat, k < 6 → w.cell? ⟨p, k, none⟩ = some (.bool (e k)) ∧ w.frozen? ⟨p, k, none⟩ = false
theorem EndsAt.ext {w w' : World} {p : Nat} {e : Int → Bool} (h : EndsAt w p e) (he : Ext w w') : EndsAt w' p e := fun k hk =>
  ⟨he.cell (h k hk).1, (Below.frozen (p := ⟨p, k, none⟩) he (cell_lt (h k hk).1)).trans (h k hk).2⟩
theorem EndsAt.set {w : World} {p : Nat} {e : Int → Bool} (h : EndsAt w p e) {a : Int} (h0 : 0 ≤ a) (h6 : a < 6) (b : Bool) : EndsAt (w.setCell ⟨p, a.toNat, none⟩ (.bool b)) p (fun i => if i = a then b else e i) := fun k hk => by
  refine ⟨?_, by rw [World.frozen?_setCell]; exact (h k hk).2⟩
  by_cases c : k = a.toNat
  · subst c
    rw [World.cell?_setCell_same _ _ _ (h _ hk).1]; show _ = some (Value.bool (if _ then _ else _)); rw [if_pos (by omega)]
  · rw [World.cell?_setCell_other _ _ _ _ (fun x => by simp only [Addr.mk.injEq] at x; omega), (h k hk).1]; show _ = some (Value.bool (if _ then _ else _)); rw [if_neg (by omega)]
theorem EndsAt.other {w : World} {p q : Nat} {e : Int → Bool} (h : EndsAt w p e) (hq : q ≠ p) (j : Nat) (v : Value) : EndsAt (w.setCell ⟨q, j, none⟩ v) p e := fun k hk => by
  refine ⟨?_, by rw [World.frozen?_setCell]; exact (h k hk).2⟩
  rw [World.cell?_setCell_other _ _ _ _ (fun x => by simp only [Addr.mk.injEq] at x; omega), (h k hk).1]
theorem EndsAt.drew {w : World} {p : Nat} {e : Int → Bool} (h : EndsAt w p e) : EndsAt w.drew p e := h.ext (Ext.refl _).drew
theorem ends_new {w : World} {t : TypeId} {p : Nat} (hp : w.heap.size = p) (e : Int → Bool) : EndsAt (w.alloc (.cells #[.bool (e 0), .bool (e 1), .bool (e 2), .bool (e 3), .bool (e 4), .bool (e 5)] t)) p e := by
  subst hp
  intro k hk
  have : k = 0 ∨ k = 1 ∨ k = 2 ∨ k = 3 ∨ k = 4 ∨ k = 5 := by omega
  rcases this with rfl | rfl | rfl | rfl | rfl | rfl
  all_goals exact ⟨by rw [World.cell?_alloc_new]; rfl, by simp [go_sem]⟩
theorem ckStrokes_known {l : List Stk} {z : Int} (h : ckStrokes z l = 0) : ∀ y ∈ l, 0 ≤ y.1 ∧ y.1 < 6 := by
  induction l generalizing z with
  | nil => intro y hy; cases hy
  | cons x l ih =>
    unfold ckStrokes at h
    by_cases h1 : x.1 < 0 ∨ 6 ≤ x.1
    · rw [if_pos h1] at h; cases h
    · rw [if_neg h1] at h
      by_cases h2 : x.1 = z
      · rw [if_pos h2] at h; cases h
      · rw [if_neg h2] at h
        by_cases h3 : x.1 < z
        · rw [if_pos h3] at h; cases h
        · rw [if_neg h3] at h
          intro y hy
          rcases List.mem_cons.1 hy with rfl | hy
          · omega
          · exact ih h y hy
theorem ckStep_strokes {x : Stp} (h : ckStep x = 0) : ckStrokes (-1) x.1 = 0 ∧ x.1.length ≤ 6 ∧ 0 < x.1.length ∧ 0 ≤ x.2 ∧ x.2 ≤ 1000000 := by
  unfold ckStep at h
  by_cases h1 : x.1.length = 0
  · rw [if_pos h1] at h; cases h
  · rw [if_neg h1] at h
    by_cases h2 : 6 < x.1.length
    · rw [if_pos h2] at h; cases h
    · rw [if_neg h2] at h
      by_cases h3 : ckStrokes (-1) x.1 ≠ 0
      · rw [if_pos h3] at h; exact absurd h h3
      · rw [if_neg h3] at h
        by_cases h4 : x.2 < 0 ∨ 1000000 < x.2
        · rw [if_pos h4] at h; cases h
        · omega
theorem ckStep_known {x : Stp} (h : ckStep x = 0) : ∀ k, k < x.1.length → 0 ≤ (x.1.getD k stk0).1 ∧ (x.1.getD k stk0).1 < 6 := fun k hk => by
  rw [List.getD_eq_getElem?_getD, List.getElem?_eq_getElem hk]
  exact ckStrokes_known (ckStep_strokes h).1 _ (List.getElem_mem hk)
theorem any_drop {α : Type} (f : α → Bool) (l : List α) (d : α) {k : Nat} (h : k < l.length) {b : Bool} (e : (l.drop k).any f = b) : (f (l.getD k d) || (l.drop (k + 1)).any f) = b := by
  rw [drop_cons l d h, List.any_cons] at e; exact e
theorem high_drop {n : Int} {l : List Stk} {k : Nat} (h : k < l.length) {b : Bool} (e : anyHigh n (l.drop k) = b) : (decide (n ≤ (l.getD k stk0).1) || anyHigh n (l.drop (k + 1))) = b := any_drop (fun y : Stk => decide (n ≤ y.1)) l stk0 h e
theorem same_drop {f : Int → Bool} {l : List Stk} {k : Nat} (h : k < l.length) {b : Bool} (e : anySame f (l.drop k) = b) : ((f (l.getD k stk0).1 == (l.getD k stk0).2) || anySame f (l.drop (k + 1))) = b := any_drop (fun y : Stk => f y.1 == y.2) l stk0 h e
set_option maxHeartbeats 2000000 in
theorem fits_any (n : Int) (sv : Value) (l : List Stk) (wait : Int) (a : Option Addr) (cap : Nat) (e : Int → Bool) (w : World) (hl : l.length ≤ maxLen) (hc : CellsK w a l) :
    Calls Tryz.prog 59 #[.agg #[.int .i64 n, sv], .agg #[.slice a l.length cap, .int .i64 wait], endsV e] w fun r w' => r = .returned (.int .i64 (ckFit n (l, wait) e)) ∧ Ext w w' := by
  have HC := Lib.hid hc
  have HL := Lib.hid hl
  unfold maxLen at hl
  unfold endsV
  clear hc
  by_cases h0 : ckStep (l, wait) = 0
  · have hf : Hid (ckFit n (l, wait) e = if anyHigh n l then 6 else if anySame e l then 14 else 0) := by show _ = _; unfold ckFit; rw [if_neg (by simp [h0])]
    have HK := Lib.hid (ckStep_known h0)
    have H0 := Lib.hid h0
    clear h0
    go_enter Tryz.func59, Tryz.ntmps59
    go_wp2_with fail
    have E1 : Ext w (((w.alloc (.cells #[.int .i64 n, sv] 24)).alloc (.cells #[.slice a l.length cap, .int .i64 wait] 69)).alloc (.cells #[.bool (e 0), .bool (e 1), .bool (e 2), .bool (e 3), .bool (e 4), .bool (e 5)] 114)) := extA
    have c1 : (((w.alloc (.cells #[.int .i64 n, sv] 24)).alloc (.cells #[.slice a l.length cap, .int .i64 wait] 69)).alloc (.cells #[.bool (e 0), .bool (e 1), .bool (e 2), .bool (e 3), .bool (e 4), .bool (e 5)] 114)).cell? ⟨w.heap.size, 0, none⟩ = some (.int .i64 n) := by go_simp
    have c2 : (((w.alloc (.cells #[.int .i64 n, sv] 24)).alloc (.cells #[.slice a l.length cap, .int .i64 wait] 69)).alloc (.cells #[.bool (e 0), .bool (e 1), .bool (e 2), .bool (e 3), .bool (e 4), .bool (e 5)] 114)).cell? ⟨w.heap.size + 1, 0, none⟩ = some (.slice a l.length cap) := by go_simp
    have c3 : EndsAt (((w.alloc (.cells #[.int .i64 n, sv] 24)).alloc (.cells #[.slice a l.length cap, .int .i64 wait] 69)).alloc (.cells #[.bool (e 0), .bool (e 1), .bool (e 2), .bool (e 3), .bool (e 4), .bool (e 5)] 114)) (w.heap.size + 1 + 1) e := ends_new (by simp) e
    generalize ((w.alloc (.cells #[.int .i64 n, sv] 24)).alloc (.cells #[.slice a l.length cap, .int .i64 wait] 69)).alloc (.cells #[.bool (e 0), .bool (e 1), .bool (e 2), .bool (e 3), .bool (e 4), .bool (e 5)] 114) = W at E1 c1 c2 c3 ⊢
    refine (CheckStep_any l wait a cap _ HL.out (HC.out.ext E1)).mono ?_
    rintro r w1 ⟨rfl, hE⟩
    rw [H0.out]
    have E2 := E1.trans hE
    have c1 := hE.cell c1
    have c2 := hE.cell c2
    have C3 := Lib.hid (c3.ext hE)
    clear c3
    go_wp2
    go_loopw [20] (fun i wr => ∃ k : Nat, k ≤ l.length ∧ i = .int .i64 k ∧ Hid (anyHigh n (l.drop k) = anyHigh n l) ∧ Ext w1 wr) (fun i _ => l.length - (intOf i).toNat)
    case atStart => exact ⟨0, Nat.zero_le _, rfl, by show _ = _; rfl, Ext.refl _⟩
    case round =>
      obtain ⟨k, hk, rfl, hz, he⟩ := hrel
      have d1 := he.cell c1
      have d2 := he.cell c2
      have y1 := cell_lt d1
      dsimp only at y1
      by_cases hlt : k < l.length
      · obtain ⟨b, off, ha, e1, e2⟩ := HC.out.ext (E2.trans he) k hlt
        subst ha
        have HZ := Lib.hid (high_drop hlt hz.out)
        clear hz
        generalize l.getD k stk0 = y at e1 e2 HZ
        obtain ⟨ya, yo⟩ := y
        dsimp only at e1 e2 HZ
        have z1 := cell_lt e1
        dsimp only at z1
        by_cases hh : n ≤ ya
        · have hf2 : Hid (ckFit n (l, wait) e = 6) := by
            show _ = _
            have h := HZ.out
            rw [decide_eq_true hh, Bool.true_or] at h
            rw [hf.out, ← h]; rfl
          clear HZ
          go_wp2
          go_ret
          exact ⟨ret_int hf2.out.symm, extA⟩
        · have HZ2 : Hid (anyHigh n (l.drop (k + 1)) = anyHigh n l) := by
            show _ = _
            have h := HZ.out
            rw [decide_eq_false hh, Bool.false_or] at h
            exact h
          clear HZ
          go_wp2
          refine ⟨⟨k + 1, by omega, by go_num, HZ2, extA⟩, by simp [intOf]; omega⟩
      · have hf2 : Hid (ckFit n (l, wait) e = if anySame e l then 14 else 0) := by
          show _ = _
          have h := hz.out
          rw [List.drop_eq_nil_of_le (by omega)] at h
          rw [hf.out, ← h]; rfl
        clear hz hf
        have C4 := Lib.hid (C3.out.ext he)
        clear C3
        go_wp2
        generalize wr = W3 at *
        go_loopw [33] (fun i w4 => ∃ k : Nat, k ≤ l.length ∧ i = .int .i64 k ∧ Hid (anySame e (l.drop k) = anySame e l) ∧ Ext W3 w4) (fun i _ => l.length - (intOf i).toNat)
        case atStart => exact ⟨0, Nat.zero_le _, rfl, by show _ = _; rfl, Ext.refl _⟩
        case round =>
          obtain ⟨k2, hk2, rfl, hz, he2⟩ := hrel
          by_cases hlt2 : k2 < l.length
          · obtain ⟨b, off, ha, e1, e2⟩ := HC.out.ext ((E2.trans he).trans he2) k2 hlt2
            subst ha
            have HZ := Lib.hid (same_drop hlt2 hz.out)
            have hkn := HK.out k2 hlt2
            clear hz
            generalize l.getD k2 stk0 = y at e1 e2 HZ hkn
            obtain ⟨ya, yo⟩ := y
            dsimp only at e1 e2 HZ hkn
            obtain ⟨g0, g6⟩ := hkn
            have e3 := (C4.out.ext he2 ya.toNat (by omega)).1
            rw [Int.toNat_of_nonneg g0] at e3
            have z1 := cell_lt e1
            have z3 := cell_lt e3
            dsimp only at z1 z3
            cases hh : (e ya == yo)
            · have HZ2 : Hid (anySame e (l.drop (k2 + 1)) = anySame e l) := by
                show _ = _
                have h := HZ.out
                rw [hh, Bool.false_or] at h
                exact h
              clear HZ
              go_wp2
              go_quiet (fail)
              go_wp2
              refine ⟨⟨k2 + 1, by omega, by go_num, HZ2, extA⟩, by simp [intOf]; omega⟩
            · have hf3 : Hid (ckFit n (l, wait) e = 14) := by
                show _ = _
                have h := HZ.out
                rw [hh, Bool.true_or] at h
                rw [hf2.out, ← h]; rfl
              clear HZ
              go_wp2
              go_quiet (fail)
              go_wp2
              go_ret
              exact ⟨ret_int hf3.out.symm, extA⟩
          · have hf3 : Hid (ckFit n (l, wait) e = 0) := by
              show _ = _
              have h := hz.out
              rw [List.drop_eq_nil_of_le (by omega)] at h
              rw [hf2.out, ← h]; rfl
            clear hz hf2
            go_wp2
            go_ret
            exact ⟨ret_int hf3.out.symm, extA⟩
  · have hf : Hid (ckFit n (l, wait) e = ckStep (l, wait)) := by show _ = _; unfold ckFit; rw [if_pos h0]
    have hn : (ckStep (l, wait) != 0) = true := by simp [h0]
    clear h0
    generalize hz : ckStep (l, wait) = z at hf hn
    have HZ := Lib.hid hz
    clear hz
    go_enter Tryz.func59, Tryz.ntmps59
    go_wp2_with fail
    have E1 : Ext w (((w.alloc (.cells #[.int .i64 n, sv] 24)).alloc (.cells #[.slice a l.length cap, .int .i64 wait] 69)).alloc (.cells #[.bool (e 0), .bool (e 1), .bool (e 2), .bool (e 3), .bool (e 4), .bool (e 5)] 114)) := extA
    refine (CheckStep_any l wait a cap _ HL.out (HC.out.ext E1)).mono ?_
    rintro r w1 ⟨rfl, hE⟩
    rw [HZ.out]
    go_wp2
    go_ret
    exact ⟨ret_int hf.out.symm, extA⟩
end Go.Proofs.YtbpjbhbbkonjlaaGreatDoor
namespace Go.Proofs.YtbpjbhbbkonjlaaGreatDoor
open Go.RowKit
theorem foldl_drop {α β : Type} (f : β → α → β) (l : List α) (d : α) (b : β) {k : Nat} (h : k < l.length) : (l.take (k + 1)).foldl f b = f ((l.take k).foldl f b) (l.getD k d) := by
  rw [List.take_succ_eq_append_getElem h, List.foldl_append, List.getD_eq_getElem?_getD, List.getElem?_eq_getElem h]; rfl
theorem beh_take (e : Int → Bool) (l : List Stk) {k : Nat} (h : k < l.length) : beh e (l.take (k + 1)) = fun i => if i = (l.getD k stk0).1 then (l.getD k stk0).2 else beh e (l.take k) i := foldl_drop _ l stk0 e h
def Known (l : List Stk) : Prop := ∀ k, k < l.length → 0 ≤ (l.getD k stk0).1 ∧ (l.getD k stk0).1 < 6
set_option maxHeartbeats 2000000 in
theorem behind_any (l : List Stk) (wait : Int) (a : Option Addr) (cap : Nat) (e : Int → Bool) (w : World) (hl : l.length ≤ maxLen) (hc : CellsK w a l) (hk : Known l) :
    Calls Tryz.prog 60 #[endsV e, .agg #[.slice a l.length cap, .int .i64 wait]] w fun r w' => r = .returned (endsV (beh e l)) ∧ Ext w w' := by
  have HC := Lib.hid hc
  have HK := Lib.hid hk
  unfold maxLen at hl
  unfold endsV
  clear hc hk
  go_enter Tryz.func60, Tryz.ntmps60
  go_wp2
  have E1 : Ext w (((w.alloc (.cells #[.bool (e 0), .bool (e 1), .bool (e 2), .bool (e 3), .bool (e 4), .bool (e 5)] 114)).alloc (.cells #[.slice a l.length cap, .int .i64 wait] 69)).alloc (.cells #[.bool false, .bool false, .bool false, .bool false, .bool false, .bool false] 114)) := extA
  have c1 : EndsAt (((w.alloc (.cells #[.bool (e 0), .bool (e 1), .bool (e 2), .bool (e 3), .bool (e 4), .bool (e 5)] 114)).alloc (.cells #[.slice a l.length cap, .int .i64 wait] 69)).alloc (.cells #[.bool false, .bool false, .bool false, .bool false, .bool false, .bool false] 114)) w.heap.size e := ((ends_new rfl e).ext ((Ext.refl _).alloc _)).ext ((Ext.refl _).alloc _)
  have c2 : EndsAt (((w.alloc (.cells #[.bool (e 0), .bool (e 1), .bool (e 2), .bool (e 3), .bool (e 4), .bool (e 5)] 114)).alloc (.cells #[.slice a l.length cap, .int .i64 wait] 69)).alloc (.cells #[.bool false, .bool false, .bool false, .bool false, .bool false, .bool false] 114)) (w.heap.size + 1 + 1) (fun _ => false) := ends_new (by simp) (fun _ => false)
  have s1 : w.heap.size + 1 + 1 < (((w.alloc (.cells #[.bool (e 0), .bool (e 1), .bool (e 2), .bool (e 3), .bool (e 4), .bool (e 5)] 114)).alloc (.cells #[.slice a l.length cap, .int .i64 wait] 69)).alloc (.cells #[.bool false, .bool false, .bool false, .bool false, .bool false, .bool false] 114)).heap.size := by simp
  generalize (((w.alloc (.cells #[.bool (e 0), .bool (e 1), .bool (e 2), .bool (e 3), .bool (e 4), .bool (e 5)] 114)).alloc (.cells #[.slice a l.length cap, .int .i64 wait] 69)).alloc (.cells #[.bool false, .bool false, .bool false, .bool false, .bool false, .bool false] 114)) = W at E1 c1 c2 s1 ⊢
  have C1 := Lib.hid c1
  have C2 := Lib.hid c2
  clear c1 c2
  go_loopw [10] (fun i wr => ∃ k : Nat, k ≤ l.length ∧ i = .int .i64 k ∧ Ext w wr ∧ W.heap.size ≤ wr.heap.size ∧ Hid (EndsAt wr w.heap.size (beh e (l.take k))) ∧ Hid (EndsAt wr (w.heap.size + 1 + 1) (fun _ => false))) (fun i _ => l.length - (intOf i).toNat)
  case atStart => exact ⟨0, Nat.zero_le _, rfl, E1, Nat.le_refl _, C1, C2⟩
  case round =>
    obtain ⟨k, hk, rfl, he, hsz, D1, D2⟩ := hrel
    clear C1 C2
    by_cases hlt : k < l.length
    · obtain ⟨b, off, ha, e1, e2⟩ := HC.out.ext he k hlt
      subst ha
      have hkn := HK.out k hlt
      have hb := beh_take e l hlt
      have HB := Lib.hid hb
      clear hb
      generalize l.getD k stk0 = y at e1 e2 hkn HB
      obtain ⟨ya, yo⟩ := y
      dsimp only at e1 e2 hkn HB
      obtain ⟨g0, g6⟩ := hkn
      obtain ⟨e3, e4⟩ := D1.out ya.toNat (by omega)
      rw [Int.toNat_of_nonneg g0] at e3
      have z1 := cell_lt e1
      dsimp only at z1
      have z2 : w.heap.size < wr.heap.size := by omega
      have E5 : Ext w ((wr.setCell ⟨w.heap.size, ya.toNat, none⟩ (.bool yo)).alloc (.cells #[.int .i64 ya, .bool yo] 46)) := (Below.setCell (p := ⟨w.heap.size, ya.toNat, none⟩) he (Nat.le_refl _) (.bool yo)).alloc (by simp; omega) _
      have F1 : Hid (EndsAt ((wr.setCell ⟨w.heap.size, ya.toNat, none⟩ (.bool yo)).alloc (.cells #[.int .i64 ya, .bool yo] 46)) w.heap.size (beh e (l.take (k + 1)))) := by
        show EndsAt _ _ _
        rw [HB.out]
        exact (D1.out.set g0 g6 yo).ext ((Ext.refl _).alloc _)
      have F2 : Hid (EndsAt ((wr.setCell ⟨w.heap.size, ya.toNat, none⟩ (.bool yo)).alloc (.cells #[.int .i64 ya, .bool yo] 46)) (w.heap.size + 1 + 1) (fun _ => false)) :=
        (D2.out.other (by omega) _ _).ext ((Ext.refl _).alloc _)
      clear D1 D2
      go_wp2
      refine ⟨⟨k + 1, by omega, by go_num, E5, by simp; omega, F1, F2⟩, by simp [intOf]; omega⟩
    · have ht : l.take k = l := List.take_of_length_le (by omega)
      rw [ht] at D1
      clear ht
      obtain ⟨f, hf⟩ : ∃ f, f = beh e l := ⟨_, rfl⟩
      rw [← hf] at D1
      have HF := Lib.hid hf
      clear hf
      have h0 := D1.out 0 (by omega)
      have h1 := D1.out 1 (by omega)
      have h2 := D1.out 2 (by omega)
      have h3 := D1.out 3 (by omega)
      have h4 := D1.out 4 (by omega)
      have h5 := D1.out 5 (by omega)
      have i0 := D2.out 0 (by omega)
      have i1 := D2.out 1 (by omega)
      have i2 := D2.out 2 (by omega)
      have i3 := D2.out 3 (by omega)
      have i4 := D2.out 4 (by omega)
      have i5 := D2.out 5 (by omega)
      simp only [Int.cast_ofNat_Int] at h0 h1 h2 h3 h4 h5
      obtain ⟨h0, _⟩ := h0
      obtain ⟨h1, _⟩ := h1
      obtain ⟨h2, _⟩ := h2
      obtain ⟨h3, _⟩ := h3
      obtain ⟨h4, _⟩ := h4
      obtain ⟨h5, _⟩ := h5
      obtain ⟨i0, j0⟩ := i0
      obtain ⟨i1, j1⟩ := i1
      obtain ⟨i2, j2⟩ := i2
      obtain ⟨i3, j3⟩ := i3
      obtain ⟨i4, j4⟩ := i4
      obtain ⟨i5, j5⟩ := i5
      clear D1 D2
      go_wp2
      refine bodyPost_ret (v := .agg #[.bool (f 0), .bool (f 1), .bool (f 2), .bool (f 3), .bool (f 4), .bool (f 5)]) (by rw [results_cell1 rfl]; go_simp) rfl ⟨by rw [← HF.out], extA⟩
end Go.Proofs.YtbpjbhbbkonjlaaGreatDoor
namespace Go.Proofs.YtbpjbhbbkonjlaaGreatDoor
open Go.RowKit
theorem neqEnds (b0 b1 b2 b3 b4 b5 : Bool) (w : World) : (binOp .neq 114 (.agg #[.bool b0, .bool b1, .bool b2, .bool b3, .bool b4, .bool b5]) (.agg #[.bool false, .bool false, .bool false, .bool false, .bool false, .bool false])).run Tryz.prog w = .ok (.bool (b0 || (b1 || (b2 || (b3 || (b4 || b5)))))) w := by
  cases b0 <;> cases b1 <;> cases b2 <;> cases b3 <;> cases b4 <;> cases b5 <;> kernel_rfl
def any6 (f : Int → Bool) : Bool := f 0 || (f 1 || (f 2 || (f 3 || (f 4 || f 5))))
def CellsB (w : World) (a : Option Addr) (n : Nat) (f : Int → Bool) : Prop := ∀ i : Nat, i < n → ∃ b off, a = some ⟨b, off, none⟩ ∧ w.cell? ⟨b, off + i, none⟩ = some (.bool (f i))
theorem CellsB.ext {w w' : World} {a : Option Addr} {n : Nat} {f : Int → Bool} (h : CellsB w a n f) (he : Ext w w') : CellsB w' a n f := fun i hi => by
  obtain ⟨b, off, h1, h2⟩ := h i hi
  exact ⟨b, off, h1, he.cell h2⟩
def hasB (n : Nat) (f : Int → Bool) (x : Bool) : Bool := (List.range n).any fun i => f i == x
theorem hasB_of {n : Nat} {f : Int → Bool} {x : Bool} {k : Nat} (hk : k < n) (h : f k = x) : hasB n f x = true := List.any_eq_true.2 ⟨k, List.mem_range.2 hk, by simp [h]⟩
theorem hasB_none {n : Nat} {f : Int → Bool} {x : Bool} (h : ∀ j : Nat, j < n → f j ≠ x) : hasB n f x = false := List.any_eq_false.2 fun i hi => by simpa using h i (List.mem_range.1 hi)
set_option maxHeartbeats 1000000 in
theorem IndexB_any (n : Nat) (f : Int → Bool) (x : Bool) (a : Option Addr) (cap : Nat) (w : World) (hl : n ≤ maxLen) (hc : CellsB w a n f) :
    Calls Tryz.prog 81 #[.slice a n cap, .bool x] w fun e w' => (∃ r : Int, e = .returned (.int .i64 r) ∧ decide (0 ≤ r) = hasB n f x) ∧ w = w' := by
  unfold maxLen at hl
  have HC := Lib.hid hc
  clear hc
  go_enter Tryz.func81, Tryz.ntmps81
  go_wp2
  go_loop [8] (fun i => ∃ k : Nat, k ≤ n ∧ i = .int .i64 k ∧ Hid (∀ j : Nat, j < k → f j ≠ x)) (fun i => n - (intOf i).toNat)
  case atStart => exact ⟨0, Nat.zero_le _, rfl, fun j hj => by omega⟩
  case round =>
    obtain ⟨k, hk, rfl, hnn⟩ := hrel
    by_cases hlt : k < n
    · obtain ⟨b, off, rfl, c1⟩ := HC.out k hlt
      by_cases hx : f k = x
      · have HB := Lib.hid (hasB_of hlt hx)
        subst hx
        go_wp2
        go_ret
        exact ⟨⟨(k : Int), rfl, by rw [HB.out]; simp⟩, rfl⟩
      · have HX := Lib.hid hx
        have hx' : (x == f k) = false := by cases hxx : x <;> cases hff : f k <;> simp_all
        clear hx
        go_wp2
        refine ⟨⟨k + 1, by omega, by go_num, fun j hj => ?_⟩, by simp [intOf]; omega⟩
        rcases Nat.lt_or_eq_of_le (Nat.le_of_lt_succ hj) with h | rfl
        · exact hnn.out j h
        · exact HX.out
    · have HB := Lib.hid (hasB_none (x := x) (f := f) (n := n) (fun j hj => hnn.out j (by omega)))
      go_wp2
      go_ret
      exact ⟨⟨-1, rfl, by rw [HB.out]; simp⟩, rfl⟩
theorem ContainsB_any (n : Nat) (f : Int → Bool) (x : Bool) (a : Option Addr) (cap : Nat) (w : World) (hl : n ≤ maxLen) (hc : CellsB w a n f) :
    Calls Tryz.prog 61 #[.slice a n cap, .bool x] w fun e w' => e = .returned (.bool (hasB n f x)) ∧ w = w' := by
  have HC := Lib.hid hc
  have HL := Lib.hid hl
  clear hc hl
  go_enter Tryz.func61, Tryz.ntmps61
  go_wp2_with fail
  refine (IndexB_any n f x a cap _ HL.out HC.out).mono ?_
  rintro e w1 ⟨⟨r, rfl, hr⟩, rfl⟩
  have HR := Lib.hid hr
  clear hr
  go_wp2
  all_goals go_ret
  all_goals exact ⟨ret_bool HR.out, rfl⟩
theorem EndsAt.store6 {w : World} {p : Nat} {e : Int → Bool} (h : EndsAt w p e) (f : Int → Bool) :
    EndsAt ((((((w.setCell ⟨p, 0, none⟩ (.bool (f 0))).setCell ⟨p, 1, none⟩ (.bool (f 1))).setCell ⟨p, 2, none⟩ (.bool (f 2))).setCell ⟨p, 3, none⟩ (.bool (f 3))).setCell ⟨p, 4, none⟩ (.bool (f 4))).setCell ⟨p, 5, none⟩ (.bool (f 5))) p f := by
  have h' := (((((h.set (a := 0) (by omega) (by omega) (f 0)).set (a := 1) (by omega) (by omega) (f 1)).set (a := 2) (by omega) (by omega) (f 2)).set (a := 3) (by omega) (by omega) (f 3)).set (a := 4) (by omega) (by omega) (f 4)).set (a := 5) (by omega) (by omega) (f 5)
  intro k hk
  refine ⟨(h' k hk).1.trans ?_, (h' k hk).2⟩
  have : k = 0 ∨ k = 1 ∨ k = 2 ∨ k = 3 ∨ k = 4 ∨ k = 5 := by omega
  rcases this with rfl | rfl | rfl | rfl | rfl | rfl <;> rfl
theorem EndsAt.six {w : World} {p : Nat} {e : Int → Bool} (h : EndsAt w p e) : ((w.cell? ⟨p, 0, none⟩ = some (.bool (e 0)) ∧ w.cell? ⟨p, 1, none⟩ = some (.bool (e 1)) ∧ w.cell? ⟨p, 2, none⟩ = some (.bool (e 2)) ∧ w.cell? ⟨p, 3, none⟩ = some (.bool (e 3)) ∧ w.cell? ⟨p, 4, none⟩ = some (.bool (e 4)) ∧ w.cell? ⟨p, 5, none⟩ = some (.bool (e 5)))) ∧
    (w.frozen? ⟨p, 0, none⟩ = false ∧ w.frozen? ⟨p, 1, none⟩ = false ∧ w.frozen? ⟨p, 2, none⟩ = false ∧ w.frozen? ⟨p, 3, none⟩ = false ∧ w.frozen? ⟨p, 4, none⟩ = false ∧ w.frozen? ⟨p, 5, none⟩ = false) :=
  ⟨⟨(h 0 (by omega)).1, (h 1 (by omega)).1, (h 2 (by omega)).1, (h 3 (by omega)).1, (h 4 (by omega)).1, (h 5 (by omega)).1⟩, (h 0 (by omega)).2, (h 1 (by omega)).2, (h 2 (by omega)).2, (h 3 (by omega)).2, (h 4 (by omega)).2, (h 5 (by omega)).2⟩
theorem ckFit_ok {n : Int} {x : Stp} {e : Int → Bool} (h : ckFit n x e = 0) : ckStep x = 0 ∧ anyHigh n x.1 = false ∧ anySame e x.1 = false := by
  unfold ckFit at h
  by_cases h1 : ckStep x = 0
  · rw [if_neg (by simp [h1])] at h
    cases h2 : anyHigh n x.1
    · cases h3 : anySame e x.1
      · exact ⟨h1, rfl, rfl⟩
      · rw [h2, h3] at h; cases h
    · rw [h2] at h; cases h
  · rw [if_pos h1] at h; exact absurd h h1
theorem ckWalk_cons {n : Int} {e : Int → Bool} {x : Stp} {l : List Stp} {r : Int} (h : ckWalk n e (x :: l) = r) : (ckFit n x e ≠ 0 → r = ckFit n x e) ∧ (ckFit n x e = 0 → ckWalk n (beh e x.1) l = r) := by
  unfold ckWalk at h
  refine ⟨fun k => ?_, fun k => ?_⟩
  · rw [if_pos k] at h; exact h.symm
  · rw [if_neg (by simp [k])] at h; exact h
theorem behAll_take (e : Int → Bool) (l : List Stp) {k : Nat} (h : k < l.length) : behAll e (l.take (k + 1)) = beh (behAll e (l.take k)) (l.getD k stp0).1 := foldl_drop _ l stp0 e h
theorem movedIn_take (a : Int) (l : List Stp) {k : Nat} (h : k < l.length) : movedIn a (l.take (k + 1)) = (movedIn a (l.take k) || movesIn a (l.getD k stp0)) := by
  unfold movedIn
  rw [List.take_succ_eq_append_getElem h, List.any_append, List.getD_eq_getElem?_getD, List.getElem?_eq_getElem h]; simp
def movesL (a : Int) (l : List Stk) : Bool := l.any fun y => y.1 == a
theorem movesL_take (a : Int) (l : List Stk) {k : Nat} (h : k < l.length) : movesL a (l.take (k + 1)) = (movesL a (l.take k) || ((l.getD k stk0).1 == a)) := by
  unfold movesL
  rw [List.take_succ_eq_append_getElem h, List.any_append, List.getD_eq_getElem?_getD, List.getElem?_eq_getElem h]; simp
theorem beh_high {n : Int} {l : List Stk} {e : Int → Bool} (h : anyHigh n l = false) {i : Int} (hi : n ≤ i) : beh e l i = e i := by
  induction l generalizing e with
  | nil => rfl
  | cons y l ih =>
    unfold anyHigh at h
    rw [List.any_cons, Bool.or_eq_false_iff] at h
    have h1 := h.1
    simp only [decide_eq_false_iff_not] at h1
    show beh (fun i => if i = y.1 then y.2 else e i) l i = _
    rw [ih h.2]
    show (if i = y.1 then y.2 else e i) = _
    rw [if_neg (by omega)]
theorem behAll_high {n : Int} {l : List Stp} {e : Int → Bool} (h : ckWalk n e l = 0) {i : Int} (hi : n ≤ i) : behAll e l i = e i := by
  induction l generalizing e with
  | nil => rfl
  | cons x l ih =>
    have hc := ckWalk_cons h
    by_cases hf : ckFit n x e = 0
    · show behAll (beh e x.1) l i = _
      rw [ih (hc.2 hf), beh_high (ckFit_ok hf).2.1 hi]
    · exact absurd (hc.1 hf).symm hf
theorem any6_ints {n : Int} {l : List Stp} (h1 : 1 ≤ n) (h6 : n ≤ 6) (h : ckWalk n none6 l = 0) : any6 (behAll none6 l) = (ints n).any (behAll none6 l) := by
  have hh : ∀ i : Int, n ≤ i → behAll none6 l i = false := fun i hi => behAll_high h hi
  generalize behAll none6 l = f at hh
  have : n = 1 ∨ n = 2 ∨ n = 3 ∨ n = 4 ∨ n = 5 ∨ n = 6 := by omega
  unfold any6
  rcases this with rfl | rfl | rfl | rfl | rfl | rfl
  · rw [hh 1 (by omega), hh 2 (by omega), hh 3 (by omega), hh 4 (by omega), hh 5 (by omega)]; rfl
  · rw [hh 2 (by omega), hh 3 (by omega), hh 4 (by omega), hh 5 (by omega)]; rfl
  · rw [hh 3 (by omega), hh 4 (by omega), hh 5 (by omega)]; rfl
  · rw [hh 4 (by omega), hh 5 (by omega)]; rfl
  · rw [hh 5 (by omega)]; rfl
  · simp [ints, List.range, List.range.loop, Bool.or_false]
theorem hasB_ints (n : Int) (f : Int → Bool) : hasB n.toNat f false = (ints n).any (fun a => !f a) := by
  unfold hasB ints
  rw [List.any_map]
  congr 1
  funext i
  show (f i == false) = !f (Int.ofNat i)
  cases f (Int.ofNat i) <;> rfl
end Go.Proofs.YtbpjbhbbkonjlaaGreatDoor
namespace Go.Proofs.YtbpjbhbbkonjlaaGreatDoor
open Go.RowKit
structure CkSt (h : Nat) (W wr : World) (e m : Int → Bool) : Prop where
  be : Below (h + 1) W wr
  x : EndsAt wr (h + 1) e
  m : EndsAt wr (h + 1 + 1) m
theorem CkSt.ext {h : Nat} {W A B : World} {e m : Int → Bool} (k : CkSt h W A e m) (x : Ext A B) : CkSt h W B e m :=
  ⟨k.be.trans (x.mono (Nat.le_trans (by have := cell_lt (k.x 0 (by omega)).1; exact Nat.le_of_lt this) (Nat.le_refl _))), k.x.ext x, k.m.ext x⟩
theorem CkSt.setX {h : Nat} {W A : World} {e m : Int → Bool} (k : CkSt h W A e m) (f : Int → Bool) :
    CkSt h W ((((((A.setCell ⟨h + 1, 0, none⟩ (.bool (f 0))).setCell ⟨h + 1, 1, none⟩ (.bool (f 1))).setCell ⟨h + 1, 2, none⟩ (.bool (f 2))).setCell ⟨h + 1, 3, none⟩ (.bool (f 3))).setCell ⟨h + 1, 4, none⟩ (.bool (f 4))).setCell ⟨h + 1, 5, none⟩ (.bool (f 5))) f m :=
  ⟨((((((k.be.setCell (p := ⟨h + 1, 0, none⟩) (Nat.le_refl _) _).setCell (p := ⟨h + 1, 1, none⟩) (Nat.le_refl _) _).setCell (p := ⟨h + 1, 2, none⟩) (Nat.le_refl _) _).setCell (p := ⟨h + 1, 3, none⟩) (Nat.le_refl _) _).setCell (p := ⟨h + 1, 4, none⟩) (Nat.le_refl _) _).setCell (p := ⟨h + 1, 5, none⟩) (Nat.le_refl _) _),
   k.x.store6 f, (((((k.m.other (by omega) _ _).other (by omega) _ _).other (by omega) _ _).other (by omega) _ _).other (by omega) _ _).other (by omega) _ _⟩
theorem CkSt.setM {h : Nat} {W A : World} {e m : Int → Bool} (k : CkSt h W A e m) {a : Int} (h0 : 0 ≤ a) (h6 : a < 6) : CkSt h W (A.setCell ⟨h + 1 + 1, a.toNat, none⟩ (.bool true)) e (fun i => if i = a then true else m i) :=
  ⟨k.be.setCell (p := ⟨h + 1 + 1, a.toNat, none⟩) (by show h + 1 ≤ h + 1 + 1; omega) _, k.x.other (by omega) _ _, k.m.set h0 h6 true⟩
theorem CkSt.congr {h : Nat} {W A : World} {e m m' : Int → Bool} (k : CkSt h W A e m) (hm : ∀ i, m i = m' i) : CkSt h W A e m' := by rw [← (funext hm : m = m')]; exact k
def MovedAt (l : List Stp) (k : Nat) (st : List Stk) (j : Nat) : Int → Bool := fun a => movedIn a (l.take k) || movesL a (st.take j)
theorem MovedAt_zero (l : List Stp) (k : Nat) (st : List Stk) : MovedAt l k st 0 = fun a => movedIn a (l.take k) := by
  funext a; unfold MovedAt; simp [movesL]
theorem MovedAt_succ (l : List Stp) (k : Nat) (st : List Stk) {j : Nat} (h : j < st.length) (i : Int) : (if i = (st.getD j stk0).1 then true else MovedAt l k st j i) = MovedAt l k st (j + 1) i := by
  unfold MovedAt
  rw [movesL_take i st h]
  by_cases c : i = (st.getD j stk0).1
  · rw [if_pos c, c]; simp
  · have : ((st.getD j stk0).1 == i) = false := by simp; exact fun x => c x.symm
    rw [if_neg c, this]; simp
theorem MovedAt_end (l : List Stp) {k : Nat} (h : k < l.length) (i : Int) : MovedAt l k (l.getD k stp0).1 (l.getD k stp0).1.length i = movedIn i (l.take (k + 1)) := by
  unfold MovedAt
  rw [movedIn_take i l h, List.take_of_length_le (Nat.le_refl _)]
  rfl
theorem sliceEnds (p : Nat) (n : Int) (h0 : 0 ≤ n) (h6 : n ≤ 6) (w : World) : (Instr.sliceAt 114 (.pointer (some ⟨p, 0, none⟩)) none (some (.int .i64 n)) none).run Tryz.prog w = .ok (.slice (some ⟨p, 0, none⟩) n.toNat 6) w := by
  have hu : Tryz.prog.underlying 114 = some (.array (Tryz.prog.arrayLen 114) (Tryz.prog.elem 114)) := by kernel_rfl
  have hl : Tryz.prog.arrayLen 114 = 6 := by kernel_rfl
  have hs : ∀ w, (sizeOf (Tryz.prog.elem 114)).run Tryz.prog w = .ok 1 w := fun _ => by kernel_rfl
  rw [run_sliceAt_array_h w _ _ hu _ _ h0 (by rw [hl]; exact h6), hs, hl]
  simp [slicedAt, Result.andThen, Addr.add]
theorem EndsAt.cells {w : World} {p : Nat} {f : Int → Bool} (h : EndsAt w p f) {n : Nat} (hn : n ≤ 6) : CellsB w (some ⟨p, 0, none⟩) n f := fun i hi => ⟨p, 0, rfl, by rw [Nat.zero_add]; exact (h i (by omega)).1⟩
set_option maxHeartbeats 4000000 in
set_option maxRecDepth 100000 in
theorem Check_any (n : Int) (l : List Stp) (a : Option Addr) (cap : Nat) (w : World) (hl : l.length ≤ maxLen) (hc : CellsP w a l) :
    Calls Tryz.prog 28 #[.agg #[.int .i64 n, .slice a l.length cap]] w fun r w' => r = .returned (.int .i64 (ckSeq (n, l))) ∧ Ext w w' := by
  have HC := Lib.hid hc
  have HL := Lib.hid hl
  unfold maxLen at hl
  clear hc
  have E0 : Ext w (w.alloc (.cells #[.int .i64 n, .slice a l.length cap] 24)) := extA
  by_cases h1 : n < 1
  · have hf : Hid (ckSeq (n, l) = 2) := by show _ = _; unfold ckSeq; rw [if_pos (Or.inl h1)]
    go_enter Tryz.func28, Tryz.ntmps28
    go_wp2
    all_goals go_ret
    all_goals exact ⟨ret_int hf.out.symm, extA⟩
  by_cases h2 : 6 < n
  · have hf : Hid (ckSeq (n, l) = 2) := by show _ = _; unfold ckSeq; rw [if_pos (Or.inr h2)]
    go_enter Tryz.func28, Tryz.ntmps28
    go_wp2
    all_goals go_ret
    all_goals exact ⟨ret_int hf.out.symm, extA⟩
  by_cases h0 : l.length = 0
  · have hf : Hid (ckSeq (n, l) = 13) := by show _ = _; unfold ckSeq; rw [if_neg (by dsimp only; omega), if_pos h0]
    have h0' : ((l.length : Int) == 0) = true := by simp [h0]
    have h0b : (l.length == 0) = true := by simp [h0]
    go_enter Tryz.func28, Tryz.ntmps28
    go_wp2
    all_goals go_ret
    all_goals exact ⟨ret_int hf.out.symm, extA⟩
  have h0' : ((l.length : Int) == 0) = false := beq_eq_false_iff_ne.2 (by omega)
  have h0b : (l.length == 0) = false := beq_eq_false_iff_ne.2 h0
  by_cases h6 : 64 < l.length
  · have hf : Hid (ckSeq (n, l) = 5) := by show _ = _; unfold ckSeq; rw [if_neg (by dsimp only; omega), if_neg h0, if_pos h6]
    go_enter Tryz.func28, Tryz.ntmps28
    go_wp2
    all_goals go_ret
    all_goals exact ⟨ret_int hf.out.symm, extA⟩
  have hf : Hid (ckSeq (n, l) = if ckWalk n none6 l ≠ 0 then ckWalk n none6 l else if (ints n).any (behAll none6 l) then 9 else if (ints n).any (fun a => !movedIn a l) then 13 else 0) := by
    show _ = _; unfold ckSeq; rw [if_neg (by dsimp only; omega), if_neg h0, if_neg h6]
  clear h0
  go_enter Tryz.func28, Tryz.ntmps28
  go_wp2
  have E1 : Ext w (((w.alloc (.cells #[.int .i64 n, .slice a l.length cap] 24)).alloc (.cells #[.bool false, .bool false, .bool false, .bool false, .bool false, .bool false] 114)).alloc (.cells #[.bool false, .bool false, .bool false, .bool false, .bool false, .bool false] 114)) := extA
  have c1 : (((w.alloc (.cells #[.int .i64 n, .slice a l.length cap] 24)).alloc (.cells #[.bool false, .bool false, .bool false, .bool false, .bool false, .bool false] 114)).alloc (.cells #[.bool false, .bool false, .bool false, .bool false, .bool false, .bool false] 114)).cell? ⟨w.heap.size, 0, none⟩ = some (.int .i64 n) := by go_simp
  have c2 : (((w.alloc (.cells #[.int .i64 n, .slice a l.length cap] 24)).alloc (.cells #[.bool false, .bool false, .bool false, .bool false, .bool false, .bool false] 114)).alloc (.cells #[.bool false, .bool false, .bool false, .bool false, .bool false, .bool false] 114)).cell? ⟨w.heap.size, 1, none⟩ = some (.slice a l.length cap) := by go_simp
  have c3 : CkSt w.heap.size (((w.alloc (.cells #[.int .i64 n, .slice a l.length cap] 24)).alloc (.cells #[.bool false, .bool false, .bool false, .bool false, .bool false, .bool false] 114)).alloc (.cells #[.bool false, .bool false, .bool false, .bool false, .bool false, .bool false] 114)) (((w.alloc (.cells #[.int .i64 n, .slice a l.length cap] 24)).alloc (.cells #[.bool false, .bool false, .bool false, .bool false, .bool false, .bool false] 114)).alloc (.cells #[.bool false, .bool false, .bool false, .bool false, .bool false, .bool false] 114)) none6 none6 :=
    ⟨Below.refl _ _, (ends_new (by simp) none6).ext ((Ext.refl _).alloc _), ends_new (by simp) none6⟩
  generalize (((w.alloc (.cells #[.int .i64 n, .slice a l.length cap] 24)).alloc (.cells #[.bool false, .bool false, .bool false, .bool false, .bool false, .bool false] 114)).alloc (.cells #[.bool false, .bool false, .bool false, .bool false, .bool false, .bool false] 114)) = W at E1 c1 c2 c3 ⊢
  have C3 := Lib.hid c3
  clear c3
  have HW : Hid (w.heap.size + 1 ≤ W.heap.size) := by have := cell_lt (C3.out.x 0 (by omega)).1; dsimp only at this; show _ ≤ _; omega
  go_loopw [32] (fun i wr => ∃ k : Nat, k ≤ l.length ∧ i = .int .i64 k ∧ Hid (CkSt w.heap.size W wr (behAll none6 (l.take k)) (fun a => movedIn a (l.take k))) ∧ Hid (ckWalk n (behAll none6 (l.take k)) (l.drop k) = ckWalk n none6 l)) (fun i _ => l.length - (intOf i).toNat)
  case atStart => exact ⟨0, Nat.zero_le _, rfl, C3, by show _ = _; rfl⟩
  case round =>
    obtain ⟨k, hk, rfl, D, hz⟩ := hrel
    clear C3
    have E2 : Ext w wr := E1.trans' D.out.be (by omega)
    have d1 := cellB D.out.be (p := ⟨w.heap.size, 0, none⟩) (by show w.heap.size < _; omega) c1
    have d2 := cellB D.out.be (p := ⟨w.heap.size, 1, none⟩) (by show w.heap.size < _; omega) c2
    have ym := cell_lt (D.out.m 0 (by omega)).1
    dsimp only at ym
    have y1 : w.heap.size < wr.heap.size := by omega
    have y2 : w.heap.size + 1 < wr.heap.size := by omega
    by_cases hlt : k < l.length
    · obtain ⟨b, off, v, ha, e1, hv, e2⟩ := HC.out k hlt
      subst ha
      obtain ⟨sa, sc, rfl, hcs, hls⟩ := hv
      have e1 := E2.cell e1
      have e2 := E2.cell e2
      have hz1 := hz.out
      rw [drop_cons l stp0 hlt] at hz1
      have HZ := Lib.hid (ckWalk_cons hz1)
      have HB := Lib.hid (behAll_take none6 l hlt)
      have HM := Lib.hid (MovedAt_end l hlt)
      have HM2 := Lib.hid (fun st : List Stk => MovedAt_zero l k st)
      have HM3 := Lib.hid (fun (st : List Stk) (j : Nat) (h : j < st.length) (i : Int) => MovedAt_succ l k st h i)
      clear hz1 hz
      generalize l.getD k stp0 = x at e1 e2 hcs hls HZ HB HM
      obtain ⟨st, wait⟩ := x
      dsimp only at e1 e2 hcs hls HZ HB HM
      generalize hg : MovedAt l k st = mm at HM
      have HG := Lib.hid hg
      clear hg
      generalize hee : behAll none6 (l.take k) = ee at D HZ HB
      have HEE := Lib.hid hee
      clear hee
      have HCS := Lib.hid hcs
      have HLS := Lib.hid hls
      clear hcs hls
      have z1 := cell_lt e1
      dsimp only at z1
      have hx6 := D.out.x.six
      obtain ⟨⟨x0, x1, x2, x3, x4, x5⟩, _⟩ := hx6
      by_cases hfit : ckFit n (st, wait) ee = 0
      · have HF := Lib.hid hfit
        have HO := Lib.hid (ckFit_ok hfit)
        have HZ2 := Lib.hid (HZ.out.2 hfit)
        clear hfit HZ
        go_wp2_with fail
        have F1 : Ext w (wr.alloc (.cells #[.slice sa st.length sc, .int .i64 wait] 69)) := extA
        have D1 : Hid (CkSt w.heap.size W (wr.alloc (.cells #[.slice sa st.length sc, .int .i64 wait] 69)) ee (fun a => movedIn a (l.take k))) := D.out.ext ((Ext.refl _).alloc _)
        have f1 : (wr.alloc (.cells #[.slice sa st.length sc, .int .i64 wait] 69)).cell? ⟨wr.heap.size, 0, none⟩ = some (.slice sa st.length sc) := by go_simp
        have f2 : (wr.alloc (.cells #[.slice sa st.length sc, .int .i64 wait] 69)).cell? ⟨wr.heap.size, 1, none⟩ = some (.int .i64 wait) := by go_simp
        have HW1 : Hid (w.heap.size + 1 + 1 < wr.heap.size) := ym
        generalize wr.alloc (.cells #[.slice sa st.length sc, .int .i64 wait] 69) = W1 at F1 D1 f1 f2 ⊢
        clear x0 x1 x2 x3 x4 x5 d1 d2
        refine (fits_any n _ st wait sa sc ee _ HLS.out (HCS.out.ext F1)).mono ?_
        rintro r w2 ⟨rfl, hE2⟩
        rw [HF.out]
        have F2 := F1.trans hE2
        have D2 : Hid (CkSt w.heap.size W w2 ee (fun a => movedIn a (l.take k))) := D1.out.ext hE2
        have f1 := hE2.cell f1
        have f2 := hE2.cell f2
        obtain ⟨⟨x0, x1, x2, x3, x4, x5⟩, g0, g1, g2, g3, g4, g5⟩ := D2.out.x.six
        go_wp2_with fail
        refine (behind_any st wait sa sc ee _ HLS.out (HCS.out.ext F2) (ckStep_known HO.out.1)).mono ?_
        rintro r w3 ⟨rfl, hE3⟩
        have F3 := F2.trans hE3
        have D3 : Hid (CkSt w.heap.size W w3 ee (fun a => movedIn a (l.take k))) := D2.out.ext hE3
        have f1 := hE3.cell f1
        have f2 := hE3.cell f2
        have hq6 : st.length ≤ 6 := (ckStep_strokes HO.out.1).2.1
        have HKN : Hid (Known st) := ckStep_known HO.out.1
        clear x0 x1 x2 x3 x4 x5 g0 g1 g2 g3 g4 g5
        obtain ⟨⟨x0, x1, x2, x3, x4, x5⟩, g0, g1, g2, g3, g4, g5⟩ := D3.out.x.six
        generalize beh ee st = ff at HB HZ2 ⊢
        unfold endsV
        have hsz : wr.heap.size < w3.heap.size := cell_lt f1
        go_wp2
        have F4 : Ext w ((((((w3.setCell ⟨w.heap.size + 1, 0, none⟩ (.bool (ff 0))).setCell ⟨w.heap.size + 1, 1, none⟩ (.bool (ff 1))).setCell ⟨w.heap.size + 1, 2, none⟩ (.bool (ff 2))).setCell ⟨w.heap.size + 1, 3, none⟩ (.bool (ff 3))).setCell ⟨w.heap.size + 1, 4, none⟩ (.bool (ff 4))).setCell ⟨w.heap.size + 1, 5, none⟩ (.bool (ff 5))) := extA
        have D4 : Hid (CkSt w.heap.size W ((((((w3.setCell ⟨w.heap.size + 1, 0, none⟩ (.bool (ff 0))).setCell ⟨w.heap.size + 1, 1, none⟩ (.bool (ff 1))).setCell ⟨w.heap.size + 1, 2, none⟩ (.bool (ff 2))).setCell ⟨w.heap.size + 1, 3, none⟩ (.bool (ff 3))).setCell ⟨w.heap.size + 1, 4, none⟩ (.bool (ff 4))).setCell ⟨w.heap.size + 1, 5, none⟩ (.bool (ff 5))) ff (fun a => movedIn a (l.take k))) := D3.out.setX ff
        have B4 : Below (w.heap.size + 1) w3 ((((((w3.setCell ⟨w.heap.size + 1, 0, none⟩ (.bool (ff 0))).setCell ⟨w.heap.size + 1, 1, none⟩ (.bool (ff 1))).setCell ⟨w.heap.size + 1, 2, none⟩ (.bool (ff 2))).setCell ⟨w.heap.size + 1, 3, none⟩ (.bool (ff 3))).setCell ⟨w.heap.size + 1, 4, none⟩ (.bool (ff 4))).setCell ⟨w.heap.size + 1, 5, none⟩ (.bool (ff 5))) :=
          ((((((Below.refl _ _).setCell (p := ⟨w.heap.size + 1, 0, none⟩) (Nat.le_refl _) _).setCell (p := ⟨w.heap.size + 1, 1, none⟩) (Nat.le_refl _) _).setCell (p := ⟨w.heap.size + 1, 2, none⟩) (Nat.le_refl _) _).setCell (p := ⟨w.heap.size + 1, 3, none⟩) (Nat.le_refl _) _).setCell (p := ⟨w.heap.size + 1, 4, none⟩) (Nat.le_refl _) _).setCell (p := ⟨w.heap.size + 1, 5, none⟩) (Nat.le_refl _) _
        have hs4 : ((((((w3.setCell ⟨w.heap.size + 1, 0, none⟩ (.bool (ff 0))).setCell ⟨w.heap.size + 1, 1, none⟩ (.bool (ff 1))).setCell ⟨w.heap.size + 1, 2, none⟩ (.bool (ff 2))).setCell ⟨w.heap.size + 1, 3, none⟩ (.bool (ff 3))).setCell ⟨w.heap.size + 1, 4, none⟩ (.bool (ff 4))).setCell ⟨w.heap.size + 1, 5, none⟩ (.bool (ff 5))).heap.size = w3.heap.size := by simp
        generalize (((((w3.setCell ⟨w.heap.size + 1, 0, none⟩ (.bool (ff 0))).setCell ⟨w.heap.size + 1, 1, none⟩ (.bool (ff 1))).setCell ⟨w.heap.size + 1, 2, none⟩ (.bool (ff 2))).setCell ⟨w.heap.size + 1, 3, none⟩ (.bool (ff 3))).setCell ⟨w.heap.size + 1, 4, none⟩ (.bool (ff 4))).setCell ⟨w.heap.size + 1, 5, none⟩ (.bool (ff 5)) = w4 at F4 D4 B4 hs4 ⊢
        clear x0 x1 x2 x3 x4 x5 g0 g1 g2 g3 g4 g5 hs4
        have DM : Hid (CkSt w.heap.size W w4 ff (mm 0)) := by
          show CkSt _ _ _ _ _
          rw [← HG.out]
          exact D4.out.congr (fun i => by rw [HM2.out])
        obtain ⟨wo, rfl⟩ : ∃ wo : World, wo = wr := ⟨_, rfl⟩
        go_loopw [49] (fun j w5 => ∃ q : Nat, q ≤ st.length ∧ j = .int .i64 q ∧ Ext w w5 ∧ Hid (CkSt w.heap.size W w5 ff (mm q))) (fun j _ => st.length - (intOf j).toNat)
        case atStart => exact ⟨0, Nat.zero_le _, rfl, F4, DM⟩
        case round =>
          obtain ⟨q, hq, rfl, G5, DQ⟩ := hrel
          clear DM
          by_cases hltq : q < st.length
          · obtain ⟨b', off', ha', p1, p2⟩ := HCS.out.ext G5 q hltq
            subst ha'
            have hkn := HKN.out q hltq
            have HS := Lib.hid (HM3.out st q hltq)
            generalize st.getD q stk0 = y at p1 p2 hkn HS
            obtain ⟨ya, yo⟩ := y
            dsimp only at p1 p2 hkn HS
            obtain ⟨g0, g6⟩ := hkn
            obtain ⟨m1, m2⟩ := DQ.out.m ya.toNat (by omega)
            rw [Int.toNat_of_nonneg g0] at m1
            have zq := cell_lt p1
            have zm := cell_lt m1
            dsimp only at zq zm
            have DN : Hid (CkSt w.heap.size W ((wr.setCell ⟨w.heap.size + 1 + 1, ya.toNat, none⟩ (.bool true)).alloc (.cells #[.int .i64 ya, .bool yo] 46)) ff (mm (q + 1))) := by
              show CkSt _ _ _ _ _
              refine ((DQ.out.setM g0 g6).congr fun i => ?_).ext ((Ext.refl _).alloc _)
              rw [← HG.out]
              exact HS.out i
            have EN : Ext w ((wr.setCell ⟨w.heap.size + 1 + 1, ya.toNat, none⟩ (.bool true)).alloc (.cells #[.int .i64 ya, .bool yo] 46)) := extA
            clear DQ HS
            go_wp2
            refine ⟨⟨q + 1, by omega, by go_num, EN, DN⟩, by simp [intOf]; omega⟩
          · have DE : Hid (CkSt w.heap.size W wr (behAll none6 (l.take (k + 1))) (fun a => movedIn a (l.take (k + 1)))) := by
              show CkSt _ _ _ _ _
              rw [HB.out]
              have hqe : q = st.length := by omega
              subst hqe
              exact DQ.out.congr HM.out
            have ZE : Hid (ckWalk n (behAll none6 (l.take (k + 1))) (l.drop (k + 1)) = ckWalk n none6 l) := by
              show _ = _
              rw [HB.out]; exact HZ2.out
            clear DQ
            go_wp2
            refine ⟨⟨k + 1, by omega, by go_num, DE, ZE⟩, by simp [intOf]; omega⟩
      · have hfit' : (ckFit n (st, wait) ee != 0) = true := by simp [hfit]
        have HF : Hid (ckSeq (n, l) = ckFit n (st, wait) ee) := by
          show _ = _
          have h := HZ.out.1 hfit
          rw [hf.out, h, if_pos hfit]
        clear hfit HZ
        generalize hcf : ckFit n (st, wait) ee = cf at HF hfit'
        have HCF := Lib.hid hcf
        clear hcf
        go_wp2_with fail
        have F1 : Ext w (wr.alloc (.cells #[.slice sa st.length sc, .int .i64 wait] 69)) := extA
        refine (fits_any n _ st wait sa sc ee _ HLS.out (HCS.out.ext F1)).mono ?_
        rintro r w2 ⟨rfl, hE2⟩
        rw [HCF.out]
        go_wp2
        go_ret
        exact ⟨ret_int HF.out.symm, extA⟩
    · have hlt' : l.take k = l := List.take_of_length_le (by omega)
      have hz1 := hz.out
      rw [List.drop_eq_nil_of_le (by omega)] at hz1
      have hz0 : ckWalk n none6 l = 0 := hz1.symm
      have HFF : Hid (ckSeq (n, l) = if any6 (behAll none6 l) then 9 else if hasB n.toNat (fun a => movedIn a l) false then 13 else 0) := by
        show _ = _
        rw [hf.out, hz0, any6_ints h1 h2 hz0, hasB_ints]
        rfl
      rw [hlt'] at D
      clear hz1 hz0 hz hlt' hf
      generalize behAll none6 l = ee at D HFF
      obtain ⟨⟨x0, x1, x2, x3, x4, x5⟩, g0, g1, g2, g3, g4, g5⟩ := D.out.x.six
      have hneq := fun w => neqEnds (ee 0) (ee 1) (ee 2) (ee 3) (ee 4) (ee 5) w
      have hzz : ∀ w, (zeroValue 114).run Tryz.prog w = .ok (.agg #[.bool false, .bool false, .bool false, .bool false, .bool false, .bool false]) w := fun _ => by kernel_rfl
      have DM := Lib.hid D.out.m
      clear D
      cases h9 : any6 ee
      · unfold any6 at h9
        rw [h9] at hneq
        have HF2 : Hid (ckSeq (n, l) = if hasB n.toNat (fun a => movedIn a l) false then 13 else 0) := by
          show _ = _
          rw [HFF.out, if_neg (by unfold any6; rw [h9]; simp)]
        clear h9 HFF
        have hn3 : n.toNat ≤ 6 := by omega
        have hsl := fun w' => sliceEnds (w.heap.size + 1 + 1) n (by omega) h2 w'
        have HCB := Lib.hid (DM.out.cells hn3)
        cases hh : hasB n.toNat (fun a => movedIn a l) false
        · rw [hh] at HF2
          have HH := Lib.hid hh
          clear hh
          go_wp2_with ((refine (ContainsB_any n.toNat (fun a => movedIn a l) false _ 6 _ (by unfold maxLen; omega) HCB.out).mono ?_); rintro e w1 ⟨rfl, rfl⟩; rw [HH.out])
          go_ret
          exact ⟨ret_int HF2.out.symm, extA⟩
        · rw [hh] at HF2
          have HH := Lib.hid hh
          clear hh
          go_wp2_with ((refine (ContainsB_any n.toNat (fun a => movedIn a l) false _ 6 _ (by unfold maxLen; omega) HCB.out).mono ?_); rintro e w1 ⟨rfl, rfl⟩; rw [HH.out])
          go_ret
          exact ⟨ret_int HF2.out.symm, extA⟩
      · have HF2 : Hid (ckSeq (n, l) = 9) := by
          show _ = _
          rw [HFF.out, if_pos h9]
        unfold any6 at h9
        rw [h9] at hneq
        clear h9
        go_wp2
        go_ret
        exact ⟨ret_int HF2.out.symm, extA⟩
end Go.Proofs.YtbpjbhbbkonjlaaGreatDoor
