/- Steps of the proof: Metric, RouteR, Route, RouteA, Away, MapS, Joined, Verify, TurnS, OwnI, DuctI, DuctS, SaveS, RowsS. No conditions. -/
import Derived.Maps.Own
import Derived.Maps.OwnIn
import Derived.Maps.OwnSet
import Derived.Maps.Views
import Derived.DeepKeys4
import Derived.BigRegion
import Derived.Test.YtechakkdcllgoaaZRows1
import Derived.Test.YtechakkdcllgoaaZRows2
/- Distances as a metric, and the meeting place, in plain Lean. -/
namespace Go.Proofs.Ytechakkdcllgoaa

theorem cells_of {g : Gr} : ∀ {l : List Pt}, (∀ p ∈ l, opn g p = true) → cellsErr g l = 0 := by
  intro l
  induction l with
  | nil => intro _; rfl
  | cons a l ih =>
    intro h
    have ha := h a (List.mem_cons_self ..)
    unfold opn at ha
    simp only [Bool.and_eq_true, Bool.not_eq_true'] at ha
    unfold cellsErr
    rw [if_neg (by simp [ha.1]), if_neg (by simp [ha.2])]
    exact ih fun p hp => h p (List.mem_cons_of_mem _ hp)
theorem given_of {g : Gr} {l : List Pt} (hk : chk g = 0) (h : ∀ p ∈ l, opn g p = true) : givenErr g l = 0 := by
  unfold givenErr
  rw [if_neg (by simp [hk])]
  exact cells_of h
theorem given_chk {g : Gr} {l : List Pt} (h : givenErr g l = 0) : chk g = 0 := by
  unfold givenErr at h
  split at h
  · rename_i h1; exact absurd h h1
  · rename_i h1; simpa using h1
theorem walk_dst {g : Gr} (hr : Right g) {p q : Pt} (hp : inside g p = true) {n : Nat} (h : Walk g p n q) : 0 ≤ dst g p q ∧ dst g p q ≤ n := by
  obtain ⟨m, hm, hd⟩ := h.isD
  rw [dst_of hr hp hd]
  omega
theorem dst_walk {g : Gr} (hr : Right g) {p q : Pt} (hp : inside g p = true) (h : 0 ≤ dst g p q) : Walk g p (dst g p q).toNat q := by
  rcases dst_cases hr hp q with ⟨k, h1, h2⟩ | ⟨_, h2⟩
  · rw [h2]; exact h1.w
  · omega
theorem dst_self {g : Gr} (hr : Right g) {p : Pt} (hp : inside g p = true) : dst g p p = 0 := dst_of hr hp (IsD.self g p)
theorem dst_tri {g : Gr} (hr : Right g) {p q r : Pt} (hp : inside g p = true) (hq : inside g q = true) (h1 : 0 ≤ dst g p q) (h2 : 0 ≤ dst g q r) : 0 ≤ dst g p r ∧ dst g p r ≤ dst g p q + dst g q r := by
  have := walk_dst hr hp ((dst_walk hr hp h1).trans (dst_walk hr hq h2))
  omega
theorem dst_opn {g : Gr} (hr : Right g) {p q : Pt} (hp : opn g p = true) (h : 0 ≤ dst g p q) : opn g q = true := (dst_walk hr (opn_inside hp) h).opn hp
theorem len_of {g : Gr} {p q : Pt} (hk : chk g = 0) (hp : opn g p = true) (hq : opn g q = true) (h : 0 ≤ dst g q p) : lenE g p q = 0 ∧ lenN g p q = dst g q p := by
  have h0 : givenErr g [p, q] = 0 := given_of hk (by simp [hp, hq])
  unfold lenE lenN
  have e0 : ¬ givenErr g [p, q] ≠ 0 := by simp [h0]
  have e1 : ¬ dst g q p < 0 := by omega
  exact ⟨by rw [if_neg e0, if_neg e1], by rw [if_neg e0, if_neg e1]⟩
/-- what a length that has no error says -/
theorem len_is {g : Gr} {p q : Pt} (h : lenE g p q = 0) : chk g = 0 ∧ opn g p = true ∧ opn g q = true ∧ 0 ≤ dst g q p ∧ lenN g p q = dst g q p := by
  unfold lenE at h
  by_cases h0 : givenErr g [p, q] = 0
  · obtain ⟨hr, ho⟩ := given_ok h0
    rw [if_neg (by simp [h0])] at h
    by_cases h1 : dst g q p < 0
    · rw [if_pos h1] at h; omega
    · have hp := ho p (by simp)
      have hq := ho q (by simp)
      exact ⟨given_chk h0, hp, hq, by omega, (len_of (given_chk h0) hp hq (by omega)).2⟩
  · rw [if_pos h0] at h; exact absurd h h0
theorem len_symm {g : Gr} {p q : Pt} (h : lenE g p q = 0) : lenE g q p = 0 ∧ lenN g q p = lenN g p q := by
  obtain ⟨hk, hp, hq, hd, hn⟩ := len_is h
  have e := dst_symm (right_of_chk hk) hp hq
  obtain ⟨h1, h2⟩ := len_of hk hq hp (by omega)
  exact ⟨h1, by rw [h2, hn, e]⟩
theorem len_bd {g : Gr} {p q : Pt} : 0 ≤ lenN g p q ∧ lenN g p q ≤ 4096 := by
  unfold lenN
  by_cases h0 : givenErr g [p, q] = 0
  · rw [if_neg (by simp [h0])]
    obtain ⟨hr, ho⟩ := given_ok h0
    have := (dst_bd hr (opn_inside (ho q (by simp))) p).2
    split <;> omega
  · rw [if_pos h0]; omega

theorem meetK_spec {g : Gr} {A B C : Pt → Int} (h : ∀ x, 0 ≤ A x → 0 ≤ B x ∧ 0 ≤ C x) : ∀ k,
    (((meetK g A B C k).1 = -1 ∧ ∀ j, j < k → A (cellAt g j) < 0) ∨
     (0 ≤ (meetK g A B C k).1 ∧ 0 ≤ A (meetK g A B C k).2 ∧ (meetK g A B C k).1 = A (meetK g A B C k).2 + B (meetK g A B C k).2 + C (meetK g A B C k).2 ∧ ∀ j, j < k → 0 ≤ A (cellAt g j) → (meetK g A B C k).1 ≤ A (cellAt g j) + B (cellAt g j) + C (cellAt g j))) := by
  intro k
  induction k with
  | zero => exact .inl ⟨rfl, fun j hj => by omega⟩
  | succ k ih =>
    have hx := h (cellAt g k)
    show _ ∨ _
    unfold meetK meetStep
    generalize meetK g A B C k = s at ih ⊢
    by_cases hA : A (cellAt g k) < 0
    · rw [if_pos hA]
      rcases ih with ⟨h1, h2⟩ | ⟨h1, h2, h3, h4⟩
      · refine .inl ⟨h1, fun j hj => ?_⟩
        by_cases e : j = k
        · subst e; exact hA
        · exact h2 j (by omega)
      · refine .inr ⟨h1, h2, h3, fun j hj hj2 => ?_⟩
        by_cases e : j = k
        · subst e; omega
        · exact h4 j (by omega) hj2
    · rw [if_neg hA]
      have hx := hx (by omega)
      by_cases hs : s.1 < 0 ∨ A (cellAt g k) + B (cellAt g k) + C (cellAt g k) < s.1
      · rw [if_pos hs]
        refine .inr ⟨by dsimp only; omega, by dsimp only; omega, rfl, fun j hj hj2 => ?_⟩
        dsimp only
        by_cases e : j = k
        · subst e; omega
        · rcases ih with ⟨h1, h2⟩ | ⟨h1, h2, h3, h4⟩
          · have := h2 j (by omega); omega
          · have := h4 j (by omega) hj2; omega
      · rw [if_neg hs]
        rcases ih with ⟨h1, h2⟩ | ⟨h1, h2, h3, h4⟩
        · omega
        · refine .inr ⟨h1, h2, h3, fun j hj hj2 => ?_⟩
          by_cases e : j = k
          · subst e; omega
          · exact h4 j (by omega) hj2
theorem inside_at {g : Gr} {p : Pt} (h : inside g p = true) : ∃ j, j < g.rows.toNat * g.cols.toNat ∧ cellAt g j = p := by
  unfold inside at h
  simp only [Bool.and_eq_true, decide_eq_true_eq] at h
  obtain ⟨⟨⟨h1, h2⟩, h3⟩, h4⟩ := h
  refine ⟨p.1.toNat * g.cols.toNat + p.2.toNat, ?_, ?_⟩
  · have : p.1.toNat + 1 ≤ g.rows.toNat := by omega
    calc p.1.toNat * g.cols.toNat + p.2.toNat < p.1.toNat * g.cols.toNat + g.cols.toNat := by omega
      _ = (p.1.toNat + 1) * g.cols.toNat := by rw [Nat.add_mul, Nat.one_mul]
      _ ≤ _ := Nat.mul_le_mul_right _ this
  · rw [cellAt_mk (by omega)]
    exact Prod.ext (by simp; omega) (by simp; omega)

/-- what the law TubingJoins asks of a meeting place -/
structure MeetFacts (g : Gr) (p q r P : Pt) (S : Int) : Prop where
  e1 : lenE g P p = 0
  e2 : lenE g P q = 0
  e3 : lenE g P r = 0
  pq : lenE g p q = 0
  pr : lenE g p r = 0
  qr : lenE g q r = 0
  qp : lenE g q p = 0
  rp : lenE g r p = 0
  rq : lenE g r q = 0
  sum : lenN g P p + lenN g P q + lenN g P r = S
  u1 : S ≤ lenN g p q + lenN g p r
  u2 : S ≤ lenN g q r + lenN g q p
  u3 : S ≤ lenN g r p + lenN g r q
  two : lenN g p q + lenN g q r + lenN g r p ≤ 2 * S
theorem meet_facts {g : Gr} {p q r : Pt} (h : meetE g p q r = 0) : MeetFacts g p q r (meetP g p q r) (meetN g p q r) := by
  unfold meetE at h
  by_cases h0 : givenErr g [p, q, r] = 0
  case neg => rw [if_pos h0] at h; exact absurd h h0
  rw [if_neg (by simp [h0])] at h
  cases hb : meetBad g p q r
  case true => rw [if_pos hb] at h; omega
  clear h
  obtain ⟨hr, ho⟩ := given_ok h0
  have hk := given_chk h0
  have hp := ho p (by simp)
  have hq := ho q (by simp)
  have hrr := ho r (by simp)
  have ip := opn_inside hp
  have iq := opn_inside hq
  have ir := opn_inside hrr
  have ePN : meetN g p q r = (meetV g p q r).1 := by unfold meetN; rw [if_neg (by simp [h0]), if_neg (by simp [hb])]
  have ePP : meetP g p q r = (meetV g p q r).2 := by unfold meetP; rw [if_neg (by simp [h0]), if_neg (by simp [hb])]
  rw [ePN, ePP]
  clear ePN ePP h0
  unfold meetBad at hb
  simp only [Bool.or_eq_false_iff, decide_eq_false_iff_not] at hb
  have dpq : 0 ≤ dst g p q := by omega
  have dpr : 0 ≤ dst g p r := by omega
  have spq := dst_symm hr hp hq
  have spr := dst_symm hr hp hrr
  have dqr := (dst_tri hr iq ip (by omega) dpr).1
  have sqr := dst_symm hr hq hrr
  have hall : ∀ x, 0 ≤ dst g p x → 0 ≤ dst g q x ∧ 0 ≤ dst g r x := fun x hx => ⟨(dst_tri hr iq ip (by omega) hx).1, (dst_tri hr ir ip (by omega) hx).1⟩
  have hs := meetK_spec (g := g) (A := dst g p) (B := dst g q) (C := dst g r) hall (g.rows.toNat * g.cols.toNat)
  change ((meetV g p q r).1 = -1 ∧ _) ∨ (0 ≤ (meetV g p q r).1 ∧ 0 ≤ dst g p (meetV g p q r).2 ∧ (meetV g p q r).1 = dst g p (meetV g p q r).2 + dst g q (meetV g p q r).2 + dst g r (meetV g p q r).2 ∧ ∀ j, j < g.rows.toNat * g.cols.toNat → 0 ≤ dst g p (cellAt g j) → (meetV g p q r).1 ≤ dst g p (cellAt g j) + dst g q (cellAt g j) + dst g r (cellAt g j)) at hs
  generalize meetV g p q r = s at hs ⊢
  obtain ⟨S, P⟩ := s
  dsimp only at hs ⊢
  rcases hs with ⟨_, h2⟩ | ⟨h1, h2, h3, h4⟩
  · exfalso
    obtain ⟨j, hj, ej⟩ := inside_at ip
    have := h2 j hj
    rw [ej, dst_self hr ip] at this
    omega
  · have hP := dst_opn hr hp h2
    have iP := opn_inside hP
    obtain ⟨h5, h6⟩ := hall P h2
    obtain ⟨j1, hj1, ej1⟩ := inside_at ip
    obtain ⟨j2, hj2, ej2⟩ := inside_at iq
    obtain ⟨j3, hj3, ej3⟩ := inside_at ir
    have k1 := h4 j1 hj1
    have k2 := h4 j2 hj2
    have k3 := h4 j3 hj3
    rw [ej1] at k1
    rw [ej2] at k2
    rw [ej3] at k3
    have z1 := dst_self hr ip
    have z2 := dst_self hr iq
    have z3 := dst_self hr ir
    have s1 := dst_symm hr hp hP
    have s2 := dst_symm hr hq hP
    have s3 := dst_symm hr hrr hP
    have t1 := (dst_tri hr ip iP h2 (by omega : 0 ≤ dst g P q)).2
    have t2 := (dst_tri hr iq iP h5 (by omega : 0 ≤ dst g P r)).2
    have t3 := (dst_tri hr ir iP h6 (by omega : 0 ≤ dst g P p)).2
    obtain ⟨a1, b1⟩ := len_of hk hP hp h2
    obtain ⟨a2, b2⟩ := len_of hk hP hq h5
    obtain ⟨a3, b3⟩ := len_of hk hP hrr h6
    obtain ⟨a4, b4⟩ := len_of hk hp hq (by omega)
    obtain ⟨a5, b5⟩ := len_of hk hp hrr (by omega)
    obtain ⟨a6, b6⟩ := len_of hk hq hrr (by omega)
    obtain ⟨a7, b7⟩ := len_of hk hq hp (by omega)
    obtain ⟨a8, b8⟩ := len_of hk hrr hp (by omega)
    obtain ⟨a9, b9⟩ := len_of hk hrr hq (by omega)
    exact ⟨a1, a2, a3, a4, a5, a6, a7, a8, a9, by omega, by omega, by omega, by omega, by omega⟩
/-- an error of Meet is one of a length -/
theorem meet_bad {g : Gr} {p q r : Pt} (h : meetE g p q r ≠ 0) : lenE g p q ≠ 0 ∨ lenE g p r ≠ 0 := by
  apply Classical.byContradiction
  intro hn
  simp only [not_or, ne_eq, Decidable.not_not] at hn
  obtain ⟨hk, hp, hq, d1, _⟩ := len_is hn.1
  obtain ⟨_, _, hr, d2, _⟩ := len_is hn.2
  have hR := right_of_chk hk
  apply h
  unfold meetE meetBad
  rw [if_neg (by simp [given_of hk (l := [p, q, r]) (by simp [hp, hq, hr])]), if_neg]
  rw [dst_symm hR hp hq, dst_symm hR hp hr]
  simp
  omega
end Go.Proofs.Ytechakkdcllgoaa
/- The route: the loop over the cells around one. -/
namespace Go.Proofs.Ytechakkdcllgoaa
open Go.RowKit
attribute [local go_sem] Oper.semAt_some

theorem Chg.below {B : Nat → Prop} {w A C : World} (h : Chg B w A) (k : Below w.heap.size A C) : Chg B w C :=
  ⟨Nat.le_trans h.1 k.size, fun i hi hb => (k.block i hi).trans (h.2 i hi hb)⟩

structure RtEnd (g : Gr) (D : Pt → Int) (a : Pt) (atb : Nat) (w3 W : World) (x : Pt) : Prop where
  b : Below atb w3 W
  c : Chg (fun k => k = atb) w3 W
  a1 : W.cell? ⟨atb, 0, none⟩ = some (.int .i64 x.1)
  a2 : W.cell? ⟨atb, 1, none⟩ = some (.int .i64 x.2)
  f1 : W.frozen? ⟨atb, 0, none⟩ = false
  f2 : W.frozen? ⟨atb, 1, none⟩ = false
theorem RtEnd.ext {g : Gr} {D : Pt → Int} {a x : Pt} {atb : Nat} {w3 A B : World} (h : RtEnd g D a atb w3 A x) (hat : atb < w3.heap.size) (k : Below w3.heap.size A B) : RtEnd g D a atb w3 B x :=
  ⟨h.b.trans (k.mono (by omega)), h.c.below k, (k.cell (p := ⟨atb, 0, none⟩) hat).trans h.a1, (k.cell (p := ⟨atb, 1, none⟩) hat).trans h.a2, (k.frozen (p := ⟨atb, 0, none⟩) hat).trans h.f1, (k.frozen (p := ⟨atb, 1, none⟩) hat).trans h.f2⟩

set_option maxHeartbeats 4000000 in
set_option maxRecDepth 100000 in
theorem route_range (cas cbd : Code) (hcode : rngOf (Try.f13.body.getD .skip) = [(cas, cbd)]) (g : Gr) (a : Pt) (D : Pt → Int) (ga : Option Addr) (gc : Nat) (w3 : World) (pb gb ob tb atb : Nat)
    (hr : Right g) (ha : inside g a = true)
    (p1 : w3.cell? ⟨pb, 0, none⟩ = some (.int .i64 a.1)) (p2 : w3.cell? ⟨pb, 1, none⟩ = some (.int .i64 a.2))
    (g1 : w3.cell? ⟨gb, 0, none⟩ = some (.int .i64 g.rows)) (g2 : w3.cell? ⟨gb, 1, none⟩ = some (.int .i64 g.cols)) (g3 : w3.cell? ⟨gb, 2, none⟩ = some (.slice ga g.bl.length gc))
    (hc : Cells2 w3 ga g.bl) (m1 : pb ≠ atb) (m2 : gb ≠ atb) (m3 : g.bl ≠ [] → ∀ b off, ga = some ⟨b, off, none⟩ → b ≠ atb)
    (o1 : w3.cell? ⟨ob, 0, none⟩ = some (.pointer (some ⟨tb, 0, none⟩))) (t0 : TabAt w3 tb D)
    (a1 : w3.cell? ⟨atb, 0, none⟩ = some (.int .i64 a.1)) (a2 : w3.cell? ⟨atb, 1, none⟩ = some (.int .i64 a.2)) (a3 : w3.frozen? ⟨atb, 0, none⟩ = false) (a4 : w3.frozen? ⟨atb, 1, none⟩ = false)
    (hw : 0 ≤ D a) (hw2 : D a < 5000) (hex : ∃ x ∈ near g a, D x = D a - 1)
    (u0 u1 u2 u3 u4 u5 u6 u7 u9 u11 u12 u13 u14 u15 u16 u17 u18 u19 u20 u21 u22 u23 u24 u25 u26 u27 u28 u29 u30 u31 u32 u34 u35 u36 u37 u38 u39 u40 u41 u42 u43 u44 u45 u46 u47 u48 u49 u50 u51 u52 u53 u54 u55 u56 u57 u58 u59 u60 u61 : Value) (ds : List Deferred) (Q : Exit → Act → World → Prop)
    (hstop : ∀ (Db : Nat) (W : World), w3.heap.size ≤ Db → Db < W.heap.size → RtEnd g D a atb w3 W (stepTo g D a) → W.heap[Db]? = some (.deferred (some [])) →
      (Code.exit 2).wp Try.prog Q { tmps := #[u0, u1, u2, u3, u4, u5, u6, u7, .pointer (some ⟨ob, 0, none⟩), u9, .pointer (some ⟨atb, 0, none⟩), u11, u12, u13, u14, u15, u16, u17, u18, u19, u20, u21, u22, u23, u24, u25, u26, u27, u28, u29, u30, u31, u32, .func (.func 32) #[] #[.pointer (some ⟨pb, 0, none⟩), .pointer (some ⟨gb, 0, none⟩)], u34, u35, u36, u37, u38, u39, u40, u41, u42, u43, u44, u45, u46, u47, u48, u49, u50, u51, u52, u53, u54, u55, u56, u57, u58, u59, u60, u61], defers := mark Db :: ds } W) :
    (Code.rangeFunc (.tmp 33) #[34] cas cbd).wp Try.prog Q { tmps := #[u0, u1, u2, u3, u4, u5, u6, u7, .pointer (some ⟨ob, 0, none⟩), u9, .pointer (some ⟨atb, 0, none⟩), u11, u12, u13, u14, u15, u16, u17, u18, u19, u20, u21, u22, u23, u24, u25, u26, u27, u28, u29, u30, u31, u32, .func (.func 32) #[] #[.pointer (some ⟨pb, 0, none⟩), .pointer (some ⟨gb, 0, none⟩)], u34, u35, u36, u37, u38, u39, u40, u41, u42, u43, u44, u45, u46, u47, u48, u49, u50, u51, u52, u53, u54, u55, u56, u57, u58, u59, u60, u61], defers := ds } w3 := by
  have HC := Lib.hid hcode
  have HR := Lib.hid hr
  have hat : atb < w3.heap.size := cell_lt a1
  have hwr : IntKind.i64.wrap (D a - 1) = D a - 1 := IntWalk.i64_in _ (by omega)
  have hia := inG_of hr ha
  have EX := Lib.hid hex
  refine wp_range (n := 0) (gf := 32) (lb := #[.pointer (some ⟨pb, 0, none⟩), .pointer (some ⟨gb, 0, none⟩)]) rfl (enters_of Try.func32 (by kernel_rfl) rfl)
    (around1_iter g a ga gc w3 pb gb (fun k => k = atb) hr ha p1 p2 g1 g2 g3 hc m1 m2 m3) (fun q => rfl)
    (fun A B h k o hk ho => by rw [Below.block h k (Array.getElem?_eq_some_iff.1 ho).1]; exact ho)
    (fun pre W => Ext w3 W ∧ ∀ y ∈ pre, D y ≠ D a - 1)
    (fun c pre W => c = .exit 2 ∧ ∃ pre' x, pre = pre' ++ [x] ∧ (∀ y ∈ pre', D y ≠ D a - 1) ∧ D x = D a - 1 ∧ RtEnd g D a atb w3 W x)
    (fun pre A B h k => ⟨h.1.trans k, h.2⟩) (fun c pre A B h k => by
      obtain ⟨h1, pre', x, h2, h3, h4, h5⟩ := h
      exact ⟨h1, pre', x, h2, h3, h4, h5.ext hat (k.mono (Nat.le_trans (Nat.le_refl _) h5.c.1))⟩)
    (fun pre A B h k => ⟨Below.trans h.1 k.1, h.2⟩) (fun c pre A B h k => by
      obtain ⟨h1, pre', x, h2, h3, h4, h5⟩ := h
      exact ⟨h1, pre', x, h2, h3, h4, h5.ext hat k.1⟩)
    ⟨Ext.refl _, fun y hy => by cases hy⟩
    (fun (x : Pt) a' W => ∃ qb, w3.heap.size + 2 < qb ∧ W.cell? ⟨qb, 0, none⟩ = some (.int .i64 x.1) ∧ W.cell? ⟨qb, 1, none⟩ = some (.int .i64 x.2) ∧ a' = { tmps := #[u0, u1, u2, u3, u4, u5, u6, u7, .pointer (some ⟨ob, 0, none⟩), u9, .pointer (some ⟨atb, 0, none⟩), .pointer (some ⟨qb, 0, none⟩), u12, u13, u14, u15, u16, u17, u18, u19, u20, u21, u22, u23, u24, u25, u26, u27, u28, u29, u30, u31, u32, .func (.func 32) #[] #[.pointer (some ⟨pb, 0, none⟩), .pointer (some ⟨gb, 0, none⟩)], .agg #[.int .i64 x.1, .int .i64 x.2], u35, u36, u37, u38, u39, u40, u41, u42, u43, u44, u45, u46, u47, u48, u49, u50, u51, u52, u53, u54, u55, u56, u57, u58, u59, u60, u61], defers := [] })
    ?hax ?assign ?body (fun pre A B h k => ⟨h.1.trans k, h.2⟩) ?done ?stop
  case hax =>
    rintro q a' A B ⟨qb, h1, h2, h3, h4⟩ hk
    exact ⟨qb, h1, hk.cell h2, hk.cell h3, h4⟩
  case assign =>
    simp only [Try.f13, rngOf, Option.getD, List.nil_append, List.append_nil] at hcode
    cases hcode
    intro l pre x W K hm hI hK
    clear HC
    gi_wp2
    exact hK _ _ ((Ext.refl _).alloc _) ⟨W.heap.size, by omega, by go_simp, by go_simp, rfl⟩
  case body =>
    simp only [Try.f13, rngOf, Option.getD, List.nil_append, List.append_nil] at hcode
    cases hcode
    rintro l pre x a' W hpre hm ⟨hE, hn⟩ ⟨qb, hqb, q1, q2, rfl⟩
    have hxn : x ∈ near g a := hpre.subset (by simp)
    obtain ⟨r1, r2, r3, r4⟩ := inG_of HR.out (near_inside hxn)
    have c1 := ((t0.ext hE) x ⟨r1, r2, r3, r4⟩).1
    have c2 := ((t0.ext hE) a hia).1
    have o1 := hE.cell o1
    have b1 := hE.cell a1
    have b2 := hE.cell a2
    have b3 := (Below.frozen hE (p := ⟨atb, 0, none⟩) hat).trans a3
    have b4 := (Below.frozen hE (p := ⟨atb, 1, none⟩) hat).trans a4
    obtain ⟨s1, s2, s3, s4⟩ := hia
    have HE := Lib.hid hE
    have HN := Lib.hid hn
    clear HC hE hn hr hxn hpre m3 hc t0 p1 p2 g1 g2 g3 a1 a2 a3 a4 hex EX ha
    cases hd : (D x == D a - 1)
    · have HD := Lib.hid hd
      gi_wp2
      refine round_quiet (by kernel_rfl) (by kernel_rfl) (by kernel_rfl) (fun ⟨_, _, h⟩ => h) ?_
      repeat (go_big_quiet_step (fail))
      refine wpQuiet_nil ?_
      rintro _ ⟨nq, rfl⟩
      gi_wp2
      have hdr : Ext W (W.drewN nq) := (Ext.refl _).drewN _
      refine ⟨Kept.ext hdr _ _, (Chg.others (Chg.ext (B := fun _ => False) hdr) (fun _ h => h.elim)).from _, HE.out.trans hdr, fun y hy => ?_⟩
      rcases List.mem_append.1 hy with hy | hy
      · exact HN.out y hy
      · simp at hy
        subst hy
        simpa using HD.out
    · have HD := Lib.hid hd
      gi_wp2
      refine round_quiet (by kernel_rfl) (by kernel_rfl) (by kernel_rfl) (fun ⟨_, _, h⟩ => h) ?_
      repeat (go_big_quiet_step (fail))
      refine wpQuiet_nil ?_
      rintro _ ⟨nq, rfl⟩
      gi_wp2
      have hdr : Ext W (W.drewN nq) := (Ext.refl _).drewN _
      have hatW : atb < W.heap.size := cell_lt b1
      have C : Chg (fun k => k = atb) W (((W.drewN nq).setCell ⟨atb, 0, none⟩ (.int .i64 x.1)).setCell ⟨atb, 1, none⟩ (.int .i64 x.2)) := ((Chg.ext hdr).trans (Chg.setCell (B := fun k => k = atb) ⟨atb, _, none⟩ _ rfl)).trans (Chg.setCell (B := fun k => k = atb) ⟨atb, _, none⟩ _ rfl)
      refine ⟨C.kept ?_, (C.others ?_).from _, rfl, pre, x, rfl, HN.out, by simpa using HD.out, ?_⟩
      · rintro k (⟨_, h⟩ | h) _ e
        · exact h e
        · omega
      · rintro k rfl o ho
        exact isCells_of_cell b1 ho
      · have d1 := hdr.cell b1
        have d2 := hdr.cell b2
        have d3 := (Below.frozen hdr (p := ⟨atb, 0, none⟩) hatW).trans b3
        have d4 := (Below.frozen hdr (p := ⟨atb, 1, none⟩) hatW).trans b4
        have d5 : ((W.drewN nq).setCell ⟨atb, 0, none⟩ (.int .i64 x.1)).cell? ⟨atb, 1, none⟩ = some (.int .i64 a.2) := by
          rw [World.cell?_setCell_other _ _ _ _ (fun h => by simp at h)]; exact d2
        exact {
          b := (((Below.mono HE.out (Nat.le_of_lt hat)).trans (hdr.mono (Nat.le_of_lt hatW))).setCell (p := ⟨atb, _, none⟩) (Nat.le_refl _) _).setCell (p := ⟨atb, _, none⟩) (Nat.le_refl _) _
          c := (Chg.ext HE.out).trans C
          a1 := by
            rw [World.cell?_setCell_other _ _ _ _ (fun h => by simp at h)]
            exact World.cell?_setCell_same _ _ _ d1
          a2 := World.cell?_setCell_same _ _ _ d5
          f1 := by rw [World.frozen?_setCell, World.frozen?_setCell]; exact d3
          f2 := by rw [World.frozen?_setCell, World.frozen?_setCell]; exact d4 }
  case done =>
    rintro Db W h1 h2 ⟨h3, h4⟩ h5
    obtain ⟨x, hx, hd⟩ := EX.out
    exact absurd hd (h4 x hx)
  case stop =>
    rintro Db c pre W h1 h2 hpre ⟨rfl, pre', x, rfl, h4, h5, h6⟩ h7
    rw [← stepTo_of hpre h4 h5] at h6
    exact hstop Db W h1 h2 h6 h7
end Go.Proofs.Ytechakkdcllgoaa
/- The route. -/
namespace Go.Proofs.Ytechakkdcllgoaa
open Go.RowKit
attribute [local go_sem] Oper.semAt_some

def routeL (g : Gr) (p q : Pt) : List Pt := if dst g q p < 0 then [] else way g p q
def RoutePost (g : Gr) (p q : Pt) (w : World) (e : Ending) (w' : World) : Prop :=
  ∃ v, e = .returned (.tuple #[v, .int .i64 (if dst g q p < 0 then 6 else 0)]) ∧ Owns w' v (routeL g p q) ∧ Ext w w'

def sliceLen : Value → Nat
  | .slice _ n _ => n
  | _ => 0
def fuelR (a : Act) : Nat := 5000 - sliceLen (a.tmps.getD 9 undef)

/-- a frame with marks leaves: only the marks turn -/
theorem leaves_keep {P : Program} {fn : Func} {tmps : Array Value} {R : Ending → World → Prop} {m n : Nat} {v : Value} (hv : ∀ w, (results fn tmps).run P w = .ok v w) :
    ∀ (ds : List Deferred) (w : World), Marks n ds w → (∀ w', Keep n w w' → R (.returned v) w') → LeavesInM Fence.wide m P fn tmps R ds .returning w := by
  intro ds
  induction ds with
  | nil => intro w _ hR; exact ⟨v, hv w, hR w (Keep.refl _ _)⟩
  | cons d ds ih =>
    intro w hm hR
    obtain ⟨Ds, h1, h2, h3⟩ := hm
    cases Ds with
    | nil => cases h1
    | cons D Ds =>
      simp only [List.map_cons, List.cons.injEq] at h1
      obtain ⟨rfl, rfl⟩ := h1
      have hD := h3 D (List.mem_cons_self ..)
      have hb : Keep n w (w.putObj D (.deferred none)) := Keep.turn hD.1 hD.2 rfl
      refine ⟨(by simp), .inl ⟨D, _, rfl, run_takeDeferred hD.2, ih _ ⟨Ds, rfl, (List.nodup_cons.1 h2).2, fun E hE => ⟨(h3 E (List.mem_cons_of_mem _ hE)).1, ?_⟩⟩ (fun w' hw' => hR w' (hb.trans hw'))⟩⟩
      have hne : E ≠ D := fun e => (List.nodup_cons.1 h2).1 (e ▸ hE)
      rw [World.putObj_heap_other hne]
      exact (h3 E (List.mem_cons_of_mem _ hE)).2

theorem owns_new (W : World) (p : Pt) : Owns (W.alloc (.cells #[.int .i64 p.1, .int .i64 p.2] 27)) (.slice (some ⟨W.heap.size, 0, none⟩) [p].length 1) [p] :=
  ⟨rfl, .inr ⟨W.heap.size, 1, #[.int .i64 p.1, .int .i64 p.2], rfl, Nat.zero_le _, World.alloc_heap_new _ _, by simp, by decide, rfl, rfl⟩⟩

theorem stepTo_spec {g : Gr} {D : Pt → Int} {a : Pt} (h : ∃ x ∈ near g a, D x = D a - 1) : stepTo g D a ∈ near g a ∧ D (stepTo g D a) = D a - 1 := by
  obtain ⟨x, h1, h2⟩ := h
  unfold stepTo
  cases hf : (near g a).find? (fun x => decide (D x = D a - 1)) with
  | none => exact absurd (List.find?_eq_none.1 hf x h1) (by simp [h2])
  | some y => exact ⟨List.mem_of_find?_eq_some hf, by simpa using List.find?_some hf⟩

structure RtLoop (g : Gr) (p q : Pt) (W0 : World) (k : Nat) (a : Pt) (L : List Pt) (v : Value) (atb : Nat) (ds : List Deferred) (w : World) : Prop where
  eq : way g p q = L ++ wayGo g (dst g q) k a
  isd : IsD g q a k
  op : opn g a = true
  be : Below W0.heap.size W0 w
  a1 : w.cell? ⟨atb, 0, none⟩ = some (.int .i64 a.1)
  a2 : w.cell? ⟨atb, 1, none⟩ = some (.int .i64 a.2)
  a3 : w.frozen? ⟨atb, 0, none⟩ = false
  a4 : w.frozen? ⟨atb, 1, none⟩ = false
  own : Owns w v L
  vb : ∀ b, v.ownBlock = some b → W0.heap.size ≤ b ∧ b ≠ atb
  am : W0.heap.size ≤ atb
  ms : Marks W0.heap.size ds w
def RtLoopA (g : Gr) (p q : Pt) (W0 : World) (gb qb ob : Nat) (x : Act) (w : World) : Prop :=
  ∃ (k : Nat) (a : Pt) (L : List Pt) (av : Option Addr) (cv atb : Nat) (ds : List Deferred) (u0 u1 u2 u4 u6 u7 u11 u12 u13 u14 u15 u16 u17 u18 u19 u20 u21 u22 u23 u24 u25 u26 u27 u28 u29 u30 u31 u32 u33 u34 u35 u36 u37 u38 u39 u40 u41 u42 u43 u44 u45 u46 u47 u48 u49 u50 u51 u52 u53 u54 u55 u56 u57 u58 u59 u60 u61 : Value), x = { tmps := #[u0, u1, u2, .pointer (some ⟨gb, 0, none⟩), u4, .pointer (some ⟨qb, 0, none⟩), u6, u7, .pointer (some ⟨ob, 0, none⟩), .slice av L.length cv, .pointer (some ⟨atb, 0, none⟩), u11, u12, u13, u14, u15, u16, u17, u18, u19, u20, u21, u22, u23, u24, u25, u26, u27, u28, u29, u30, u31, u32, u33, u34, u35, u36, u37, u38, u39, u40, u41, u42, u43, u44, u45, u46, u47, u48, u49, u50, u51, u52, u53, u54, u55, u56, u57, u58, u59, u60, u61], defers := ds } ∧ RtLoop g p q W0 k a L (.slice av L.length cv) atb ds w

set_option maxHeartbeats 4000000 in
set_option maxRecDepth 100000 in
theorem route_any (g : Gr) (p q : Pt) (ga : Option Addr) (gc : Nat) (w : World) (hr : Right g) (hp : opn g p = true) (hq : opn g q = true) (hc : Cells2 w ga g.bl) :
    Calls Try.prog 13 #[.agg #[.int .i64 g.rows, .int .i64 g.cols, .slice ga g.bl.length gc], .agg #[.int .i64 p.1, .int .i64 p.2], .agg #[.int .i64 q.1, .int .i64 q.2]] w fun e w' => RoutePost g p q w e w' := by
  have HR := Lib.hid hr
  have HC : Hid (Cells2 w ga g.bl) := hc
  have HP := Lib.hid hp
  have HQ := Lib.hid hq
  obtain ⟨r1, r2, r3, r4⟩ := inG_of hr (opn_inside hp)
  have E0 : Ext w ((( (( ((w).alloc (.cells #[.int .i64 g.rows, .int .i64 g.cols, .slice ga g.bl.length gc] 25))).alloc (.cells #[.int .i64 p.1, .int .i64 p.2] 27))).alloc (.cells #[.int .i64 q.1, .int .i64 q.2] 27))) := (((Ext.refl _).alloc _).alloc _).alloc _
  have a1 : ((( (( ((w).alloc (.cells #[.int .i64 g.rows, .int .i64 g.cols, .slice ga g.bl.length gc] 25))).alloc (.cells #[.int .i64 p.1, .int .i64 p.2] 27))).alloc (.cells #[.int .i64 q.1, .int .i64 q.2] 27))).cell? ⟨w.heap.size, 0, none⟩ = some (.int .i64 g.rows) := by go_simp
  have a2 : ((( (( ((w).alloc (.cells #[.int .i64 g.rows, .int .i64 g.cols, .slice ga g.bl.length gc] 25))).alloc (.cells #[.int .i64 p.1, .int .i64 p.2] 27))).alloc (.cells #[.int .i64 q.1, .int .i64 q.2] 27))).cell? ⟨w.heap.size, 1, none⟩ = some (.int .i64 g.cols) := by go_simp
  have a3 : ((( (( ((w).alloc (.cells #[.int .i64 g.rows, .int .i64 g.cols, .slice ga g.bl.length gc] 25))).alloc (.cells #[.int .i64 p.1, .int .i64 p.2] 27))).alloc (.cells #[.int .i64 q.1, .int .i64 q.2] 27))).cell? ⟨w.heap.size, 2, none⟩ = some (.slice ga g.bl.length gc) := by go_simp
  have a4 : ((( (( ((w).alloc (.cells #[.int .i64 g.rows, .int .i64 g.cols, .slice ga g.bl.length gc] 25))).alloc (.cells #[.int .i64 p.1, .int .i64 p.2] 27))).alloc (.cells #[.int .i64 q.1, .int .i64 q.2] 27))).cell? ⟨w.heap.size + 1, 0, none⟩ = some (.int .i64 p.1) := by go_simp
  have a5 : ((( (( ((w).alloc (.cells #[.int .i64 g.rows, .int .i64 g.cols, .slice ga g.bl.length gc] 25))).alloc (.cells #[.int .i64 p.1, .int .i64 p.2] 27))).alloc (.cells #[.int .i64 q.1, .int .i64 q.2] 27))).cell? ⟨w.heap.size + 1, 1, none⟩ = some (.int .i64 p.2) := by go_simp
  have a6 : ((( (( ((w).alloc (.cells #[.int .i64 g.rows, .int .i64 g.cols, .slice ga g.bl.length gc] 25))).alloc (.cells #[.int .i64 p.1, .int .i64 p.2] 27))).alloc (.cells #[.int .i64 q.1, .int .i64 q.2] 27))).cell? ⟨w.heap.size + 1 + 1, 0, none⟩ = some (.int .i64 q.1) := by go_simp
  have a7 : ((( (( ((w).alloc (.cells #[.int .i64 g.rows, .int .i64 g.cols, .slice ga g.bl.length gc] 25))).alloc (.cells #[.int .i64 p.1, .int .i64 p.2] 27))).alloc (.cells #[.int .i64 q.1, .int .i64 q.2] 27))).cell? ⟨w.heap.size + 1 + 1, 1, none⟩ = some (.int .i64 q.2) := by go_simp
  clear hc hr hp hq
  refine (callsIn_wide (n := 0)).1 ?_
  refine callsIn_of_wp_marks Try.func13 rfl trivial ?_
  simp only [Try.ntmps13, List.size_toArray, List.length_cons, List.length_nil, Nat.reduceAdd, Nat.reduceSub, Array.replicate_succ, Array.replicate_zero, List.push_toArray, List.append_toArray, List.nil_append, List.cons_append]
  gi_wp2_with fail
  refine ⟨trivial, rfl, ?_⟩
  gi_at_call 10
  refine (callsIn_wide.2 (distances_any g q ga gc _ HR.out (opn_inside HQ.out) (HC.out.ext E0))).mono ?_
  rintro e w1 ⟨tb, rfl, hT, hE⟩
  have E1 : Ext w1 (w1.alloc (.cells #[.pointer (some ⟨tb, 0, none⟩)] 44)) := (Ext.refl _).alloc _
  have o1 : (w1.alloc (.cells #[.pointer (some ⟨tb, 0, none⟩)] 44)).cell? ⟨w1.heap.size, 0, none⟩ = some (.pointer (some ⟨tb, 0, none⟩)) := by go_simp
  have EX := hE.trans E1
  have b1 := EX.cell a1
  have b2 := EX.cell a2
  have b3 := EX.cell a3
  have b4 := EX.cell a4
  have b5 := EX.cell a5
  have b6 := EX.cell a6
  have b7 := EX.cell a7
  have hTT := hT.ext E1
  have c1 := (hTT p ⟨r1, r2, r3, r4⟩).1
  have EW := E0.trans EX
  have HT := Lib.hid hTT
  have HCw : Hid (Cells2 (w1.alloc (.cells #[.pointer (some ⟨tb, 0, none⟩)] 44)) ga g.bl) := HC.out.ext EW
  clear hT hE E1 EX hTT HC E0 a1 a2 a3 a4 a5 a6 a7
  generalize hob : w1.heap.size = ob at o1
  have zob : ob < (w1.alloc (.cells #[.pointer (some ⟨tb, 0, none⟩)] 44)).heap.size := by rw [← hob]; simp
  gi_wp2_with fail
  generalize w1.alloc (.cells #[.pointer (some ⟨tb, 0, none⟩)] 44) = w2 at o1 b1 b2 b3 b4 b5 b6 b7 c1 EW HT HCw zob ⊢
  clear hob
  rcases dst_cases HR.out (opn_inside HQ.out) p with ⟨k, hk, hd⟩ | ⟨hno, hd⟩
  · have hneg : ¬ dst g q p < 0 := by omega
    have HNEG := Lib.hid hneg
    have HK := Lib.hid hk
    have HD := Lib.hid hd
    clear hk hd
    refine wpIn_wide.2 ?_
    go_quiet (fail)
    have EN : Ext w2 (w2.drewN nq) := (Ext.refl _).drewN _
    have o1 := EN.cell o1
    have b1 := EN.cell b1
    have b2 := EN.cell b2
    have b3 := EN.cell b3
    have b4 := EN.cell b4
    have b5 := EN.cell b5
    have b6 := EN.cell b6
    have b7 := EN.cell b7
    have T0 := Lib.hid (HT.out.ext EN)
    have C0 := Lib.hid (HCw.out.ext EN)
    have EW0 := EW.trans EN
    generalize w2.drewN nq = W0 at EN o1 b1 b2 b3 b4 b5 b6 b7 T0 C0 EW0 ⊢
    clear EN HT HCw EW zob c1
    have hgb : w.heap.size < W0.heap.size := cell_lt b1
    have hpb : w.heap.size + 1 < W0.heap.size := cell_lt b4
    have hqb : w.heap.size + 1 + 1 < W0.heap.size := cell_lt b6
    have HO : ob < W0.heap.size := cell_lt o1
    have HTb : tb < W0.heap.size := T0.out.lt
    have HBL : Hid (g.bl ≠ [] → ∀ b off, ga = some ⟨b, off, none⟩ → b < W0.heap.size) := fun hne b off hb => C0.out.lt hne hb
    gi_wp2
    refine wpIn_loop (RtLoopA g p q W0 w.heap.size (w.heap.size + 1 + 1) ob) (fun a _ => fuelR a) ?_ ?_
    · have E4 : Ext W0 ((( W0).alloc (.cells #[.int .i64 p.1, .int .i64 p.2] 27))) := (Ext.refl _).alloc _
      have E5 : Ext ((( W0).alloc (.cells #[.int .i64 p.1, .int .i64 p.2] 27))) ((( (( W0).alloc (.cells #[.int .i64 p.1, .int .i64 p.2] 27))).alloc (.cells #[.int .i64 p.1, .int .i64 p.2] 27))) := (Ext.refl _).alloc _
      refine ⟨k, p, [p], some ⟨W0.heap.size, 0, none⟩, 1, W0.heap.size + 1, [], _, _, _, _, _, _, _, _, _, _, _, _, _, _, _, _, _, _, _, _, _, _, _, _, _, _, _, _, _, _, _, _, _, _, _, _, _, _, _, _, _, _, _, _, _, _, _, _, _, _, _, _, _, _, _, _, _, rfl, ?_⟩
      exact {
        eq := by unfold way; rw [HD.out]; rfl
        isd := HK.out
        op := HP.out
        be := E4.trans E5
        a1 := by go_simp
        a2 := by go_simp
        a3 := by go_simp
        a4 := by go_simp
        own := (owns_new W0 p).ext E5
        vb := fun b hb => by
          have hb : some W0.heap.size = some b := hb
          cases hb
          exact ⟨Nat.le_refl _, by omega⟩
        am := by omega
        ms := Marks.nil _ _ }
    · have HK2 : Hid (dst g q p < 4097) := by show _ < _; have h1 := HK.out.lt HR.out (opn_inside HQ.out); have h2 := HD.out; omega
      clear HK
      rintro x wr ⟨k, a, L, av, cv, atb, ds, u0, u1, u2, u4, u6, u7, u11, u12, u13, u14, u15, u16, u17, u18, u19, u20, u21, u22, u23, u24, u25, u26, u27, u28, u29, u30, u31, u32, u33, u34, u35, u36, u37, u38, u39, u40, u41, u42, u43, u44, u45, u46, u47, u48, u49, u50, u51, u52, u53, u54, u55, u56, u57, u58, u59, u60, u61, rfl, h⟩
      have H := Lib.hid h
      have q1 : wr.cell? ⟨w.heap.size + 1 + 1, 0, none⟩ = some (.int .i64 q.1) := (h.be.cell (p := ⟨w.heap.size + 1 + 1, 0, none⟩) hqb).trans b6
      have q2 : wr.cell? ⟨w.heap.size + 1 + 1, 1, none⟩ = some (.int .i64 q.2) := (h.be.cell (p := ⟨w.heap.size + 1 + 1, 1, none⟩) hqb).trans b7
      have g1 : wr.cell? ⟨w.heap.size, 0, none⟩ = some (.int .i64 g.rows) := (h.be.cell (p := ⟨w.heap.size, 0, none⟩) hgb).trans b1
      have g2 : wr.cell? ⟨w.heap.size, 1, none⟩ = some (.int .i64 g.cols) := (h.be.cell (p := ⟨w.heap.size, 1, none⟩) hgb).trans b2
      have g3 : wr.cell? ⟨w.heap.size, 2, none⟩ = some (.slice ga g.bl.length gc) := (h.be.cell (p := ⟨w.heap.size, 2, none⟩) hgb).trans b3
      have oo : wr.cell? ⟨ob, 0, none⟩ = some (.pointer (some ⟨tb, 0, none⟩)) := (h.be.cell (p := ⟨ob, 0, none⟩) HO).trans o1
      have a1 := h.a1
      have a2 := h.a2
      have hatb : atb < wr.heap.size := cell_lt a1
      have zgb : w.heap.size < wr.heap.size := cell_lt g1
      have TT : Hid (TabAt wr tb (dst g q)) := T0.out.below h.be HTb
      have CC : Hid (Cells2 wr ga g.bl) := Cells2.kept (Kd := fun k => k < W0.heap.size) (n := 0) ⟨h.be.size, fun k o hk ho _ => by rw [h.be.block k hk]; exact ho⟩ (fun b off hb hne => HBL.out hne b off hb) C0.out
      clear h b1 b2 b3 b4 b5 b6 b7 o1
      cases k with
      | zero =>
        obtain rfl : a = q := H.out.isd.w.zero
        gi_wp2
        refine leaves_keep (v := .tuple #[.slice av L.length cv, .int .i64 0]) (fun w => (results_tmp2 (t := 6) (u := 7) rfl _ _ _).trans rfl) _ _ H.out.ms (fun w' hw' => ?_)
        refine ⟨.slice av L.length cv, by rw [if_neg (show ¬ _ < (0 : Int) by have := HNEG.out; omega)], ?_, ?_⟩
        · unfold routeL
          rw [if_neg (show ¬ _ < (0 : Int) by have := HNEG.out; omega), H.out.eq]
          simp only [wayGo, List.append_nil]
          exact H.out.own.keep hw'
        · exact Below.trans EW0 ((H.out.be.trans hw'.1).mono EW0.size)
      | succ k =>
        have hne : a ≠ q := by
          rintro rfl
          have := (IsD.self g a).unique H.out.isd
          omega
        have hia : Hid (inside g a = true) := opn_inside H.out.op
        obtain ⟨x, hx1, hx2⟩ := stepTo_ex HR.out HQ.out H.out.op H.out.isd
        have hda : dst g q a = (k : Int) + 1 := by have := dst_of HR.out (opn_inside HQ.out) H.out.isd; rw [this]; omega
        have hlt := H.out.isd.lt HR.out (opn_inside HQ.out)
        have EX : Hid (∃ x ∈ near g a, dst g q x = dst g q a - 1) := ⟨x, hx1, by rw [hx2, hda]; omega⟩
        have HDA := Lib.hid hda
        clear hx1 hx2 hda
        have HH1 : a.1 = q.1 → (a.2 == q.2) = false := fun h1 => by
          cases hb : (a.2 == q.2)
          · rfl
          · exact absurd (Prod.ext h1 (by simpa using hb)) hne
        have step : ∀ (b1 b2 : Bool), (a.1 == q.1) = b1 → (a.2 == q.2) = b2 → b1 = false ∨ b2 = false → True := fun _ _ _ _ _ => trivial
        clear step
        have main : ∀ (K : Prop), ((a.1 == q.1) = false → K) → (a.1 = q.1 → (a.2 == q.2) = false → K) → K := fun K h1 h2 => by
          by_cases e : a.1 = q.1
          · exact h2 e (HH1 e)
          · exact h1 (by simpa using e)
        clear HH1 hne
        have HEQ := Lib.hid (stepTo_spec EX.out)
        have HLT := Lib.hid hlt
        have hown : Hid (∀ b, (Value.slice av L.length cv).ownBlock = some b → b < wr.heap.size) := fun b hb => H.out.own.lt hb
        clear hlt hneg
        refine main _ (fun e1 => ?_) (fun e1 e2 => ?_)
        all_goals (try clear main)
        · gi_wp2_with fail
          refine ⟨trivial, rfl, ?_⟩
          gi_at_call 20
          refine (callsIn_wide.2 (around_any g a _ _)).mono ?_
          rintro e w3 ⟨rfl, hw3⟩
          gi_wp2_with fail
          have E6 : Ext wr w3 := by rw [← hw3]; exact ((Ext.refl _).alloc _).alloc _
          have hz3 : w3.heap.size = wr.heap.size + 2 := by rw [← hw3]; simp
          have G1 : w3.cell? ⟨wr.heap.size, 0, none⟩ = some (.int .i64 g.rows) := by rw [← hw3, World.cell?_alloc2_first]; rfl
          have G2 : w3.cell? ⟨wr.heap.size, 1, none⟩ = some (.int .i64 g.cols) := by rw [← hw3, World.cell?_alloc2_first]; rfl
          have G3 : w3.cell? ⟨wr.heap.size, 2, none⟩ = some (.slice ga g.bl.length gc) := by rw [← hw3, World.cell?_alloc2_first]; rfl
          have P1 : w3.cell? ⟨wr.heap.size + 1, 0, none⟩ = some (.int .i64 (a).1) := by rw [← hw3, World.cell?_alloc2_new]; rfl
          have P2 : w3.cell? ⟨wr.heap.size + 1, 1, none⟩ = some (.int .i64 (a).2) := by rw [← hw3, World.cell?_alloc2_new]; rfl
          have ham := H.out.am
          refine wpIn_wide.2 (route_range _ _ rfl g a (dst g q) ga gc w3 (wr.heap.size + 1) wr.heap.size ob tb atb HR.out hia.out P1 P2 G1 G2 G3 (CC.out.ext E6) (by omega) (by omega)
            (fun hne b off h => by have := HBL.out hne b off h; omega) (E6.cell oo) (TT.out.ext E6) (E6.cell a1) (E6.cell a2)
            ((Below.frozen E6 (p := ⟨atb, 0, none⟩) hatb).trans H.out.a3) ((Below.frozen E6 (p := ⟨atb, 1, none⟩) hatb).trans H.out.a4) (by rw [HDA.out]; omega) (by rw [HDA.out]; have := HLT.out; omega) EX.out _ _ _ _ _ _ _ _ _ _ _ _ _ _ _ _ _ _ _ _ _ _ _ _ _ _ _ _ _ _ _ _ _ _ _ _ _ _ _ _ _ _ _ _ _ _ _ _ _ _ _ _ _ _ _ _ _ _ _ _ _ ?_)
          intro Db w4 k1 k2 hend k4
          generalize hx : stepTo g (dst g q) a = x at hend
          have HX := Lib.hid hx
          have HE := Lib.hid hend
          have x1 := hend.a1
          have x2 := hend.a2
          have K4 := Lib.hid k4
          have hz4 : w3.heap.size ≤ w4.heap.size := hend.c.1
          clear hx hend k4 P1 P2 G1 G2 G3 hw3
          have V4 : Hid (Owns w4 (.slice av L.length cv) L) := (H.out.own.ext E6).kept (X := fun k => k ≠ atb) (n := 0) (HE.out.c.kept (fun k hk _ => hk)) (fun b hb => (H.out.vb b hb).2)
          obtain ⟨i0, hi, hi0, hi1, hi2⟩ := info_parts infoPl
          have hlen : L.length ≤ 4097 := by
            have h1 : (way g p q).length = L.length + (k + 1) := by rw [H.out.eq, List.length_append, wayGo_len]
            have h2 : (way g p q).length = (dst g q p).toNat + 1 := by unfold way; simp [wayGo_len]
            have h3 := HNEG.out
            have h4 := HK2.out
            omega
          refine (wpIn_wide (n := 0)).1 ?_
          gi_wp2_with (gi_at_builtin; refine wpListIn_append1 _ rfl _ _ 23 rfl 27 i0 (.agg #[.int .i64 0, .int .i64 0]) 2 16 Try.underlying23 hi hi0 hi1 hi2 rfl (by decide) (.slice av L.length cv) _ _ rfl (V4.out.ext ((Ext.refl _).alloc _)) ⟨w4.heap.size, 0, none⟩ 1 1 (by decide) [.int .i64 x.1, .int .i64 x.2] rfl rfl (cell_two_new _ _ _ _) ?c1 ?c2 ?c3 ?c4)
          case c1 => intro u hu; simp at hu; rcases hu with rfl | rfl <;> rfl
          case c2 => unfold maxLen; omega
          case c3 => omega
          case c4 =>
            intro v' w5 hown5 hend5
            have O5 := owns_succ hown5
            obtain ⟨av', cv', rfl, _, hbk⟩ := O5.reads
            have E4 : Ext w4 (w4.alloc (.cells #[.int .i64 x.1, .int .i64 x.2] 27)) := (Ext.refl _).alloc _
            have CA : Chg (fun k => (Value.slice av L.length cv).ownBlock = some k) (w4.alloc (.cells #[.int .i64 x.1, .int .i64 x.2] 27)) w5 := Chg.app hend5 (fun b hb => hb)
            have KA : Kept (fun k => k = atb) 0 (w4.alloc (.cells #[.int .i64 x.1, .int .i64 x.2] 27)) w5 := CA.kept (fun k hk _ e => (H.out.vb k e).2 hk)
            have d1 : w5.cell? ⟨atb, 0, none⟩ = some (.int .i64 x.1) := KA.cell (p := ⟨atb, 0, none⟩) rfl (E4.cell x1)
            have d2 : w5.cell? ⟨atb, 1, none⟩ = some (.int .i64 x.2) := KA.cell (p := ⟨atb, 1, none⟩) rfl (E4.cell x2)
            have HCA := Lib.hid CA
            have HE4 := Lib.hid E4
            have HEND := Lib.hid hend5
            have HO5 := Lib.hid O5
            clear KA CA E4 hend5 hown5 O5 hbk x1 x2
            gi_wp2
            have E7 : Ext w5 (w5.alloc (.cells #[.int .i64 x.1, .int .i64 x.2] 27)) := (Ext.refl _).alloc _
            have s0 : W0.heap.size ≤ wr.heap.size := H.out.be.size
            have s1 : wr.heap.size + 2 ≤ w4.heap.size := by omega
            have s2 : w4.heap.size + 1 ≤ w5.heap.size := by have := HCA.out.1; simp at this; omega
            have C46 : Chg (fun k => (Value.slice av L.length cv).ownBlock = some k) w4 (w5.alloc (.cells #[.int .i64 x.1, .int .i64 x.2] 27)) := ((Chg.ext HE4.out).trans HCA.out).trans (Chg.ext E7)
            have C6 : Chg (fun k => k = atb ∨ (Value.slice av L.length cv).ownBlock = some k) wr (w5.alloc (.cells #[.int .i64 x.1, .int .i64 x.2] 27)) :=
              ((Chg.ext E6).trans ⟨HE.out.c.1, fun k hk hn => HE.out.c.2 k hk (fun e => hn (.inl e))⟩).trans ⟨C46.1, fun k hk hn => C46.2 k hk (fun e => hn (.inr e))⟩
            refine ⟨⟨k, x, L ++ [x], av', cv', w5.heap.size, mark Db :: ds, _, _, _, _, _, _, _, _, _, _, _, _, _, _, _, _, _, _, _, _, _, _, _, _, _, _, _, _, _, _, _, _, _, _, _, _, _, _, _, _, _, _, _, _, _, _, _, _, _, _, _, _, _, _, _, _, _, by rw [List.length_append, List.length_singleton], ?_⟩, by simp [fuelR, sliceLen]; omega⟩
            exact {
              eq := by rw [H.out.eq, List.append_assoc, ← HX.out]; rfl
              isd := stepTo_isD HR.out HQ.out H.out.isd (HX.out ▸ HEQ.out.1) (by rw [← HX.out, HEQ.out.2, HDA.out]; omega)
              op := near_opn (HX.out ▸ HEQ.out.1)
              be := ((((H.out.be.trans (E6.mono s0)).trans (HE.out.b.mono ham)).trans (HE4.out.mono (by omega))).trans (HEND.out.below (by simp; omega) (fun b hb => (H.out.vb b hb).1))).trans (E7.mono (by omega))
              a1 := by go_simp
              a2 := by go_simp
              a3 := by go_simp
              a4 := by go_simp
              own := HO5.out.ext E7
              vb := fun b hb => by
                refine ⟨?_, fun e => by have := HO5.out.lt hb; omega⟩
                rcases HEND.out with ⟨h1, _, _⟩ | ⟨h1, _⟩
                · rw [h1] at hb; exact (H.out.vb b hb).1
                · rw [h1] at hb
                  have hb' : b = (w4.alloc (.cells #[.int .i64 x.1, .int .i64 x.2] 27)).heap.size := by cases hb; rfl
                  simp at hb'
                  omega
              am := by omega
              ms := Marks.cons (A := wr) H.out.ms (by omega) (by omega) (H.out.ms.keptX (X := fun k => ¬ (k = atb ∨ (Value.slice av L.length cv).ownBlock = some k)) (C6.kept (fun k hk _ => hk)) (fun D _ hD => by
                  rintro (e | e)
                  · have := isCells_of_cell (p := ⟨atb, _, none⟩) H.out.a1 (e ▸ hD)
                    cases this
                  · have := H.out.own.isCells e hD
                    cases this))
                ((C46.2 Db k2 (fun e => by have := hown.out Db e; omega)).trans K4.out) }
        · obtain ⟨ax, ay⟩ := a
          dsimp only at a1 a2 e1 e2
          subst e1
          gi_wp2_with fail
          refine ⟨trivial, rfl, ?_⟩
          gi_at_call 20
          refine (callsIn_wide.2 (around_any g (q.1, ay) _ _)).mono ?_
          rintro e w3 ⟨rfl, hw3⟩
          gi_wp2_with fail
          have E6 : Ext wr w3 := by rw [← hw3]; exact ((Ext.refl _).alloc _).alloc _
          have hz3 : w3.heap.size = wr.heap.size + 2 := by rw [← hw3]; simp
          have G1 : w3.cell? ⟨wr.heap.size, 0, none⟩ = some (.int .i64 g.rows) := by rw [← hw3, World.cell?_alloc2_first]; rfl
          have G2 : w3.cell? ⟨wr.heap.size, 1, none⟩ = some (.int .i64 g.cols) := by rw [← hw3, World.cell?_alloc2_first]; rfl
          have G3 : w3.cell? ⟨wr.heap.size, 2, none⟩ = some (.slice ga g.bl.length gc) := by rw [← hw3, World.cell?_alloc2_first]; rfl
          have P1 : w3.cell? ⟨wr.heap.size + 1, 0, none⟩ = some (.int .i64 ((q.1, ay)).1) := by rw [← hw3, World.cell?_alloc2_new]; rfl
          have P2 : w3.cell? ⟨wr.heap.size + 1, 1, none⟩ = some (.int .i64 ((q.1, ay)).2) := by rw [← hw3, World.cell?_alloc2_new]; rfl
          have ham := H.out.am
          refine wpIn_wide.2 (route_range _ _ rfl g (q.1, ay) (dst g q) ga gc w3 (wr.heap.size + 1) wr.heap.size ob tb atb HR.out hia.out P1 P2 G1 G2 G3 (CC.out.ext E6) (by omega) (by omega)
            (fun hne b off h => by have := HBL.out hne b off h; omega) (E6.cell oo) (TT.out.ext E6) (E6.cell a1) (E6.cell a2)
            ((Below.frozen E6 (p := ⟨atb, 0, none⟩) hatb).trans H.out.a3) ((Below.frozen E6 (p := ⟨atb, 1, none⟩) hatb).trans H.out.a4) (by rw [HDA.out]; omega) (by rw [HDA.out]; have := HLT.out; omega) EX.out _ _ _ _ _ _ _ _ _ _ _ _ _ _ _ _ _ _ _ _ _ _ _ _ _ _ _ _ _ _ _ _ _ _ _ _ _ _ _ _ _ _ _ _ _ _ _ _ _ _ _ _ _ _ _ _ _ _ _ _ _ ?_)
          intro Db w4 k1 k2 hend k4
          generalize hx : stepTo g (dst g q) (q.1, ay) = x at hend
          have HX := Lib.hid hx
          have HE := Lib.hid hend
          have x1 := hend.a1
          have x2 := hend.a2
          have K4 := Lib.hid k4
          have hz4 : w3.heap.size ≤ w4.heap.size := hend.c.1
          clear hx hend k4 P1 P2 G1 G2 G3 hw3
          have V4 : Hid (Owns w4 (.slice av L.length cv) L) := (H.out.own.ext E6).kept (X := fun k => k ≠ atb) (n := 0) (HE.out.c.kept (fun k hk _ => hk)) (fun b hb => (H.out.vb b hb).2)
          obtain ⟨i0, hi, hi0, hi1, hi2⟩ := info_parts infoPl
          have hlen : L.length ≤ 4097 := by
            have h1 : (way g p q).length = L.length + (k + 1) := by rw [H.out.eq, List.length_append, wayGo_len]
            have h2 : (way g p q).length = (dst g q p).toNat + 1 := by unfold way; simp [wayGo_len]
            have h3 := HNEG.out
            have h4 := HK2.out
            omega
          refine (wpIn_wide (n := 0)).1 ?_
          gi_wp2_with (gi_at_builtin; refine wpListIn_append1 _ rfl _ _ 23 rfl 27 i0 (.agg #[.int .i64 0, .int .i64 0]) 2 16 Try.underlying23 hi hi0 hi1 hi2 rfl (by decide) (.slice av L.length cv) _ _ rfl (V4.out.ext ((Ext.refl _).alloc _)) ⟨w4.heap.size, 0, none⟩ 1 1 (by decide) [.int .i64 x.1, .int .i64 x.2] rfl rfl (cell_two_new _ _ _ _) ?c1 ?c2 ?c3 ?c4)
          case c1 => intro u hu; simp at hu; rcases hu with rfl | rfl <;> rfl
          case c2 => unfold maxLen; omega
          case c3 => omega
          case c4 =>
            intro v' w5 hown5 hend5
            have O5 := owns_succ hown5
            obtain ⟨av', cv', rfl, _, hbk⟩ := O5.reads
            have E4 : Ext w4 (w4.alloc (.cells #[.int .i64 x.1, .int .i64 x.2] 27)) := (Ext.refl _).alloc _
            have CA : Chg (fun k => (Value.slice av L.length cv).ownBlock = some k) (w4.alloc (.cells #[.int .i64 x.1, .int .i64 x.2] 27)) w5 := Chg.app hend5 (fun b hb => hb)
            have KA : Kept (fun k => k = atb) 0 (w4.alloc (.cells #[.int .i64 x.1, .int .i64 x.2] 27)) w5 := CA.kept (fun k hk _ e => (H.out.vb k e).2 hk)
            have d1 : w5.cell? ⟨atb, 0, none⟩ = some (.int .i64 x.1) := KA.cell (p := ⟨atb, 0, none⟩) rfl (E4.cell x1)
            have d2 : w5.cell? ⟨atb, 1, none⟩ = some (.int .i64 x.2) := KA.cell (p := ⟨atb, 1, none⟩) rfl (E4.cell x2)
            have HCA := Lib.hid CA
            have HE4 := Lib.hid E4
            have HEND := Lib.hid hend5
            have HO5 := Lib.hid O5
            clear KA CA E4 hend5 hown5 O5 hbk x1 x2
            gi_wp2
            have E7 : Ext w5 (w5.alloc (.cells #[.int .i64 x.1, .int .i64 x.2] 27)) := (Ext.refl _).alloc _
            have s0 : W0.heap.size ≤ wr.heap.size := H.out.be.size
            have s1 : wr.heap.size + 2 ≤ w4.heap.size := by omega
            have s2 : w4.heap.size + 1 ≤ w5.heap.size := by have := HCA.out.1; simp at this; omega
            have C46 : Chg (fun k => (Value.slice av L.length cv).ownBlock = some k) w4 (w5.alloc (.cells #[.int .i64 x.1, .int .i64 x.2] 27)) := ((Chg.ext HE4.out).trans HCA.out).trans (Chg.ext E7)
            have C6 : Chg (fun k => k = atb ∨ (Value.slice av L.length cv).ownBlock = some k) wr (w5.alloc (.cells #[.int .i64 x.1, .int .i64 x.2] 27)) :=
              ((Chg.ext E6).trans ⟨HE.out.c.1, fun k hk hn => HE.out.c.2 k hk (fun e => hn (.inl e))⟩).trans ⟨C46.1, fun k hk hn => C46.2 k hk (fun e => hn (.inr e))⟩
            refine ⟨⟨k, x, L ++ [x], av', cv', w5.heap.size, mark Db :: ds, _, _, _, _, _, _, _, _, _, _, _, _, _, _, _, _, _, _, _, _, _, _, _, _, _, _, _, _, _, _, _, _, _, _, _, _, _, _, _, _, _, _, _, _, _, _, _, _, _, _, _, _, _, _, _, _, _, by rw [List.length_append, List.length_singleton], ?_⟩, by simp [fuelR, sliceLen]; omega⟩
            exact {
              eq := by rw [H.out.eq, List.append_assoc, ← HX.out]; rfl
              isd := stepTo_isD HR.out HQ.out H.out.isd (HX.out ▸ HEQ.out.1) (by rw [← HX.out, HEQ.out.2, HDA.out]; omega)
              op := near_opn (HX.out ▸ HEQ.out.1)
              be := ((((H.out.be.trans (E6.mono s0)).trans (HE.out.b.mono ham)).trans (HE4.out.mono (by omega))).trans (HEND.out.below (by simp; omega) (fun b hb => (H.out.vb b hb).1))).trans (E7.mono (by omega))
              a1 := by go_simp
              a2 := by go_simp
              a3 := by go_simp
              a4 := by go_simp
              own := HO5.out.ext E7
              vb := fun b hb => by
                refine ⟨?_, fun e => by have := HO5.out.lt hb; omega⟩
                rcases HEND.out with ⟨h1, _, _⟩ | ⟨h1, _⟩
                · rw [h1] at hb; exact (H.out.vb b hb).1
                · rw [h1] at hb
                  have hb' : b = (w4.alloc (.cells #[.int .i64 x.1, .int .i64 x.2] 27)).heap.size := by cases hb; rfl
                  simp at hb'
                  omega
              am := by omega
              ms := Marks.cons (A := wr) H.out.ms (by omega) (by omega) (H.out.ms.keptX (X := fun k => ¬ (k = atb ∨ (Value.slice av L.length cv).ownBlock = some k)) (C6.kept (fun k hk _ => hk)) (fun D _ hD => by
                  rintro (e | e)
                  · have := isCells_of_cell (p := ⟨atb, _, none⟩) H.out.a1 (e ▸ hD)
                    cases this
                  · have := H.out.own.isCells e hD
                    cases this))
                ((C46.2 Db k2 (fun e => by have := hown.out Db e; omega)).trans K4.out) }
  · have hneg : dst g q p < 0 := by omega
    have HD := Lib.hid hd
    clear hd
    refine wpIn_wide.2 ?_
    go_quiet (fail)
    gi_wp2
    refine leaves_marks (n := w.heap.size) (v := .tuple #[.slice none 0 0, .int .i64 6]) (fun w => (results_tmp2 (t := 6) (u := 7) rfl _ _ _).trans rfl) _ _ (Marks.nil _ _) (fun w' hw' => ?_)
    refine ⟨.slice none 0 0, ?_, ?_, ?_⟩
    · rw [if_pos hneg]
    · unfold routeL
      rw [if_pos hneg]
      exact Owns.nil _
    · exact Below.trans EW (Below.trans (((Ext.refl _).drewN _).mono EW.size) hw')
end Go.Proofs.Ytechakkdcllgoaa
/- Route. -/
namespace Go.Proofs.Ytechakkdcllgoaa
open Go.RowKit

def routeV (g : Gr) (p q : Pt) : List Pt := if givenErr g [p, q] ≠ 0 then [] else routeL g p q
def RouteAPost (g : Gr) (p q : Pt) (w : World) (e : Ending) (w' : World) : Prop :=
  ∃ v, e = .returned (.tuple #[v, .int .i64 (lenE g p q)]) ∧ Owns w' v (routeV g p q) ∧ Ext w w'

end Go.Proofs.Ytechakkdcllgoaa
/- The difference of the rows and columns of two cells. -/
namespace Go.Proofs.Ytechakkdcllgoaa
open Go.RowKit

def awayI (p q : Pt) : Int := max (p.1 - q.1) (q.1 - p.1) + max (p.2 - q.2) (q.2 - p.2)

end Go.Proofs.Ytechakkdcllgoaa
/- Maps as sets: map[K]bool, where each entry is true. -/
namespace Go.Proofs.Ytechakkdcllgoaa
open Go.RowKit Go.Maps

/-- block b of w is a map of at most n entries, whose keys are those of S, each true -/
def SetAt {α : Type} [DecidableEq α] (P : Program) (k e : TypeId) (ev : α → Value) (w : World) (b n : Nat) (S : List α) : Prop :=
  ∃ D : DataW Unit, w.ownsMap P k (plainElem P e) b n D ∧ (∀ a kl, keyOf P k (ev a) = some kl → D.atKey kl (.lit (.bool false)) = .lit (.bool (decide (a ∈ S))) ∧ Maps.has D kl = decide (a ∈ S)) ∧ Maps.size D = S.length ∧ S.Nodup

section
variable {α : Type} [DecidableEq α] {P : Program} {t k e : TypeId} {ev : α → Value} {w : World} {b n : Nat} {S : List α}

theorem SetAt.made (P : Program) (k e : TypeId) (ev : α → Value) (w : World) : SetAt P k e ev (w.alloc (.map #[] 0)) w.heap.size 0 ([] : List α) :=
  ⟨.map [], World.ownsMap_made _ _ _ _, fun _ _ _ => ⟨rfl, rfl⟩, rfl, List.nodup_nil⟩
theorem SetAt.lt (h : SetAt P k e ev w b n S) : b < w.heap.size := by
  obtain ⟨D, h1, _⟩ := h
  exact h1.lt
theorem SetAt.at (h : SetAt P k e ev w b n S) : ∃ es clock, w.heap[b]? = some (.map es clock) := by
  obtain ⟨D, ⟨es, clock, hb, _⟩, _⟩ := h
  exact ⟨es, clock, hb⟩
theorem SetAt.same {w' : World} (h : SetAt P k e ev w b n S) (hb : w'.heap[b]? = w.heap[b]?) : SetAt P k e ev w' b n S := by
  obtain ⟨D, ⟨es, clock, h1, h2⟩, h3⟩ := h
  exact ⟨D, ⟨es, clock, hb.trans h1, h2⟩, h3⟩
theorem SetAt.ext {w' : World} (h : SetAt P k e ev w b n S) (hx : Ext w w') : SetAt P k e ev w' b n S := h.same (Below.block hx _ h.lt)
theorem SetAt.lookup (h : SetAt P k e ev w b n S) (K : Keyed P k) (ht : P.underlying t = some (.map k e)) (he : P.underlying e = some .bool) (hz : (zeroValue e).run P w = .ok (.bool false) w)
    {a : α} {kl : Lit} (hkey : keyOf P k (ev a) = some kl) : (Instr.lookup t (.map (some b)) (ev a) false).run P w = .ok (.bool (decide (a ∈ S))) w := by
  obtain ⟨D, h1, h2, _⟩ := h
  obtain ⟨v, ps, hrun, hv⟩ := h1.lookup K ht hz (plainElem_bool he false) hkey
  rw [(h2 a kl hkey).1] at hv
  rw [hrun]
  have : v = .bool (decide (a ∈ S)) := by
    unfold plainElem at hv
    rw [he] at hv
    cases v <;> simp at hv
    rename_i x
    rw [hv.1]
  rw [this]
theorem SetAt.update (h : SetAt P k e ev w b n S) (K : Keyed P k) (ht : P.underlying t = some (.map k e)) (he : P.underlying e = some .bool) (hn : n < maxLen) (hinj : ∀ x y, ev x = ev y → x = y)
    {a : α} {kl : Lit} (hkey : keyOf P k (ev a) = some kl) : ∃ w', (Instr.mapUpdate t (.map (some b)) (ev a) (.bool true)).run P w = .ok () w' ∧ SetAt P k e ev w' b (n + 1) (if a ∈ S then S else a :: S) ∧ w.grownBy w' (some b) := by
  obtain ⟨D, h1, h2, h3, h4⟩ := h
  obtain ⟨w', hrun, r1, r2⟩ := h1.update K ht hn hkey (plainElem_bool he true)
  have hT := h1.tidy K
  refine ⟨w', hrun, ⟨_, r1, fun a' kl' hk' => ?_, ?_, ?_⟩, r2⟩
  · by_cases e1 : a' = a
    · subst e1
      rw [hkey] at hk'
      cases hk'
      have hm : a' ∈ (if a' ∈ S then S else a' :: S) := by
        split
        · assumption
        · exact List.mem_cons_self ..
      rw [atKey_put_same hT.isMap (K.key hkey), has_put_same hT.isMap (K.key hkey)]
      simp [hm]
    · have hne : kl' ≠ kl := fun e2 => e1 (hinj _ _ (K.inj hk' (e2 ▸ hkey)))
      have hm : decide (a' ∈ (if a ∈ S then S else a :: S)) = decide (a' ∈ S) := by
        by_cases e2 : a ∈ S
        · rw [if_pos e2]
        · rw [if_neg e2]; simp [e1]
      rw [atKey_put_other hne, has_put_other hne, hm]
      exact h2 a' kl' hk'
  · rw [size_put hT, (h2 a kl hkey).2]
    by_cases e2 : a ∈ S
    · simp [e2, h3]
    · simp [e2, h3]
  · by_cases e2 : a ∈ S
    · rw [if_pos e2]; exact h4
    · rw [if_neg e2]; exact List.nodup_cons.2 ⟨e2, h4⟩
end

/-! ### The two keys of this program -/
theorem laidOut : laidOutB Try.prog = true := by kernel_rfl
theorem rowPl : (27 : TypeId) < Try.prog.types.size := of_decide_eq_true (by kernel_rfl)
theorem rowPr : (36 : TypeId) < Try.prog.types.size := of_decide_eq_true (by kernel_rfl)
theorem lawPl : Keyed Try.prog 27 := Keyed.of_law (deep_law_laid laidOut (m := 3) (by omega) rowPl (by kernel_rfl) (by rw [Try.underlying27]))
theorem lawPr : Keyed Try.prog 36 := Keyed.of_law (deep_law_laid laidOut (m := 4) (by omega) rowPr (by kernel_rfl) (by rw [Try.underlying36]))
def evPl (p : Pt) : Value := .agg #[.int .i64 p.1, .int .i64 p.2]
def evPr (p : Pt × Pt) : Value := .agg #[.int .i64 p.1.1, .int .i64 p.1.2, .int .i64 p.2.1, .int .i64 p.2.2]
theorem evPl_inj (x y : Pt) (h : evPl x = evPl y) : x = y := by
  unfold evPl at h
  simp at h
  exact Prod.ext h.1 h.2
theorem evPr_inj (x y : Pt × Pt) (h : evPr x = evPr y) : x = y := by
  unfold evPr at h
  simp at h
  obtain ⟨h1, h2, h3, h4⟩ := h
  exact Prod.ext (Prod.ext h1 h2) (Prod.ext h3 h4)
def Wf64 (a : Int) : Prop := (Lit.int .i64 a).wf = true
theorem cellsPl : Try.prog.cellsOf 27 = 2 := by kernel_rfl
theorem cellsInt : Try.prog.cellsOf 3 = 1 := by kernel_rfl
theorem cellsPr : Try.prog.cellsOf 36 = 4 := by kernel_rfl
theorem typesSz : ∃ m, Try.prog.types.size + 1 = m + 3 := ⟨Try.prog.types.size - 2, by
  have : 3 ≤ Try.prog.types.size := of_decide_eq_true (by kernel_rfl)
  omega⟩
theorem litsPl {p : Pt} (h1 : Wf64 p.1) (h2 : Wf64 p.2) (m : Nat) : Try.prog.keyLits (m + 2) 27 [.int .i64 p.1, .int .i64 p.2] = some [.int .i64 p.1, .int .i64 p.2] := by
  unfold Wf64 at h1 h2
  unfold Program.keyLits
  rw [Try.underlying27]
  simp [cellsPl, cellsInt, Program.keyLits, Try.underlying3, h1, h2]
theorem keyPl {p : Pt} (h1 : Wf64 p.1) (h2 : Wf64 p.2) : ∃ kl, keyOf Try.prog 27 (evPl p) = some kl := by
  obtain ⟨m, hm⟩ := typesSz
  have hk : Try.prog.keyType 27 = true := by kernel_rfl
  have hf : (evPl p).formed Try.prog 27 = true := by simp [evPl, Value.formed, Try.underlying27, cellsPl]
  have hl := litsPl h1 h2 (m + 1)
  unfold keyOf
  rw [Try.underlying27]
  simp only [hk, hf, hm]
  simp [evPl, Value.cells, hl]
theorem keyPr {p : Pt × Pt} (h1 : Wf64 p.1.1) (h2 : Wf64 p.1.2) (h3 : Wf64 p.2.1) (h4 : Wf64 p.2.2) : ∃ kl, keyOf Try.prog 36 (evPr p) = some kl := by
  obtain ⟨m, hm⟩ := typesSz
  have hk : Try.prog.keyType 36 = true := by kernel_rfl
  have hf : (evPr p).formed Try.prog 36 = true := by simp [evPr, Value.formed, Try.underlying36, cellsPr]
  have l1 := litsPl (p := p.1) h1 h2 m
  have l2 := litsPl (p := p.2) h3 h4 m
  have hl : Try.prog.keyLits (m + 3) 36 [.int .i64 p.1.1, .int .i64 p.1.2, .int .i64 p.2.1, .int .i64 p.2.2] = some [.int .i64 p.1.1, .int .i64 p.1.2, .int .i64 p.2.1, .int .i64 p.2.2] := by
    unfold Program.keyLits
    rw [Try.underlying36]
    simp [cellsPr, cellsPl, List.range_succ, l1, l2]
  unfold keyOf
  rw [Try.underlying36]
  simp only [hk, hf, hm]
  simp [evPr, Value.cells, hl]
theorem wf_inG {p : Pt} (h : InG p) : Wf64 p.1 ∧ Wf64 p.2 := by
  obtain ⟨h1, h2, h3, h4⟩ := h
  exact ⟨WalkArith.wf_i64 (by omega), WalkArith.wf_i64 (by omega)⟩
end Go.Proofs.Ytechakkdcllgoaa
/- Whether cells are a route. -/
namespace Go.Proofs.Ytechakkdcllgoaa
open Go.RowKit Go.Maps

/-- from the k-th cell on -/
def jFrom (l : List Pt) : Nat → Nat → Bool
  | 0, _ => true
  | n + 1, k => if pt l k ∈ l.take k then false else if k ≠ 0 ∧ awayI (pt l (k - 1)) (pt l k) ≠ 1 then false else jFrom l n (k + 1)
def joinedB (l : List Pt) : Bool := jFrom l l.length 0

theorem setStep {l : List Pt} {k : Nat} (hk : k < l.length) {S : List Pt} (h : ∀ x, x ∈ S ↔ x ∈ l.take k) : ∀ x, x ∈ (if pt l k ∈ S then S else pt l k :: S) ↔ x ∈ l.take (k + 1) := by
  intro x
  have e : l.take (k + 1) = l.take k ++ [pt l k] := by
    rw [List.take_succ_eq_append_getElem hk]
    congr 2
    unfold pt
    rw [List.getD_eq_getElem?_getD, List.getElem?_eq_getElem hk]; simp
  rw [e, List.mem_append, ← h x]
  by_cases hm : pt l k ∈ S
  · rw [if_pos hm]
    constructor
    · exact .inl
    · rintro (h1 | h1)
      · exact h1
      · simp at h1; subst h1; exact hm
  · rw [if_neg hm, List.mem_cons]
    constructor
    · rintro (h1 | h1)
      · exact .inr (by simp [h1])
      · exact .inl h1
    · rintro (h1 | h1)
      · exact .inr h1
      · simp at h1; exact .inl h1

end Go.Proofs.Ytechakkdcllgoaa
/- Verify. -/
namespace Go.Proofs.Ytechakkdcllgoaa
open Go.RowKit Go.Maps

theorem listed_ok {g : Gr} {l : List Pt} (h : listedErr g l = 0) : Right g ∧ l ≠ [] ∧ l.length ≤ 4096 ∧ ∀ p ∈ l, opn g p = true := by
  unfold listedErr at h
  split at h
  · rename_i h1; exact absurd h h1
  · rename_i h1
    split at h
    · omega
    · rename_i h2
      split at h
      · omega
      · rename_i h3
        exact ⟨right_of_chk (by simpa using h1), h2, by omega, cells_ok h⟩
theorem pt_mem {l : List Pt} {i : Nat} (h : i < l.length) : pt l i ∈ l := by
  unfold pt; rw [List.getD_eq_getElem?_getD, List.getElem?_eq_getElem h]; simp
def verV (g : Gr) (l : List Pt) : Bool := if listedErr g l ≠ 0 then false else joinedB l && decide (dst g (pt l (l.length - 1)) (pt l 0) = (l.length : Int) - 1)

end Go.Proofs.Ytechakkdcllgoaa
/- What the law TubingTurns asks of routes, in plain Lean. -/
namespace Go.Proofs.Ytechakkdcllgoaa

def rightB (g : Gr) : Bool := decide (g.rows ≤ 9) && (decide (g.cols ≤ 9) && decide (chk g = 0))
theorem rightB_ok {g : Gr} (h : rightB g = true) : g.rows ≤ 9 ∧ g.cols ≤ 9 ∧ chk g = 0 := by
  unfold rightB at h
  simp only [Bool.and_eq_true, decide_eq_true_eq] at h
  exact ⟨h.1, h.2.1, h.2.2⟩
theorem nbs_one {p q : Pt} : q ∈ nbs p ↔ awayI p q = 1 := by
  unfold nbs awayI
  simp only [List.mem_cons, List.not_mem_nil, or_false, Prod.ext_iff]
  omega
theorem near_one {g : Gr} {p q : Pt} (h : q ∈ near g p) : awayI p q = 1 := nbs_one.1 (List.mem_filter.1 h).1
theorem walk_away {g : Gr} {p q : Pt} {n : Nat} (h : Walk g p n q) : awayI p q ≤ n ∧ ((n : Int) - awayI p q) % 2 = 0 := by
  induction h with
  | nil => unfold awayI; omega
  | cons _ h2 ih =>
    have := near_one h2
    unfold awayI at *
    omega
theorem jFrom_iff {l : List Pt} : ∀ (n k : Nat), jFrom l n k = true ↔ ∀ i, k ≤ i → i < k + n → pt l i ∉ l.take i ∧ (i ≠ 0 → awayI (pt l (i - 1)) (pt l i) = 1) := by
  intro n
  induction n with
  | zero => intro k; simp only [jFrom, true_iff]; intro i h1 h2; omega
  | succ n ih =>
    intro k
    unfold jFrom
    by_cases h1 : pt l k ∈ l.take k
    · rw [if_pos h1]
      constructor
      · intro h; cases h
      · intro h; exact absurd h1 (h k (Nat.le_refl _) (by omega)).1
    · rw [if_neg h1]
      by_cases h2 : k ≠ 0 ∧ awayI (pt l (k - 1)) (pt l k) ≠ 1
      · rw [if_pos h2]
        constructor
        · intro h; cases h
        · intro h; exact absurd ((h k (Nat.le_refl _) (by omega)).2 h2.1) h2.2
      · rw [if_neg h2, ih]
        constructor
        · intro h i hi hj
          by_cases e : i = k
          · subst e
            exact ⟨h1, fun h0 => Decidable.byContradiction fun hc => h2 ⟨h0, hc⟩⟩
          · exact h i (by omega) (by omega)
        · intro h i hi hj
          exact h i (by omega) (by omega)
theorem pt_cons (a : Pt) (l : List Pt) (i : Nat) : pt (a :: l) (i + 1) = pt l i := by simp [pt, List.getD]
theorem pt_mem_take {l : List Pt} {k : Nat} {x : Pt} (h : x ∈ l.take k) : ∃ i, i < k ∧ i < l.length ∧ pt l i = x := by
  obtain ⟨i, hi, e⟩ := List.mem_iff_getElem.1 h
  rw [List.length_take] at hi
  refine ⟨i, by omega, by omega, ?_⟩
  rw [List.getElem_take] at e
  unfold pt
  rw [List.getD_eq_getElem?_getD, List.getElem?_eq_getElem (by omega)]
  simpa using e
theorem wayGo_spec {g : Gr} (hr : Right g) {q : Pt} (hq : opn g q = true) : ∀ (n : Nat) (a : Pt), opn g a = true → IsD g q a n →
    (∀ i, i ≤ n → dst g q (pt (a :: wayGo g (dst g q) n a) i) = (n : Int) - i) ∧ (∀ i, i < n → pt (a :: wayGo g (dst g q) n a) (i + 1) ∈ near g (pt (a :: wayGo g (dst g q) n a) i)) := by
  intro n
  induction n with
  | zero =>
    intro a _ hd
    refine ⟨fun i hi => ?_, fun i hi => by omega⟩
    obtain rfl : i = 0 := by omega
    show dst g q a = _
    rw [dst_of hr (opn_inside hq) hd]
    omega
  | succ n ih =>
    intro a ha hd
    have hda : dst g q a = (n : Int) + 1 := by have := dst_of hr (opn_inside hq) hd; rw [this]; omega
    obtain ⟨y, hy1, hy2⟩ := stepTo_ex hr hq ha hd
    have hs : stepTo g (dst g q) a ∈ near g a ∧ dst g q (stepTo g (dst g q) a) = dst g q a - 1 := by
      unfold stepTo
      cases hf : (near g a).find? (fun x => decide (dst g q x = dst g q a - 1)) with
      | none =>
        have := List.find?_eq_none.1 hf y hy1
        simp at this
        omega
      | some z =>
        have h1 := List.find?_some hf
        have h2 := List.mem_of_find?_eq_some hf
        simp at h1
        exact ⟨h2, h1⟩
    obtain ⟨i1, i2⟩ := ih (stepTo g (dst g q) a) (near_opn hs.1) (stepTo_isD hr hq hd hs.1 (by rw [hs.2, hda]; omega))
    refine ⟨fun i hi => ?_, fun i hi => ?_⟩
    · cases i with
      | zero => show dst g q a = _; rw [hda]; omega
      | succ i =>
        show dst g q (pt (a :: stepTo g (dst g q) a :: wayGo g (dst g q) n (stepTo g (dst g q) a)) (i + 1)) = _
        rw [pt_cons, i1 i (by omega)]; omega
    · cases i with
      | zero => exact hs.1
      | succ i =>
        show pt (a :: stepTo g (dst g q) a :: wayGo g (dst g q) n (stepTo g (dst g q) a)) (i + 1 + 1) ∈ near g (pt (a :: stepTo g (dst g q) a :: wayGo g (dst g q) n (stepTo g (dst g q) a)) (i + 1))
        rw [pt_cons, pt_cons]
        exact i2 i (by omega)

/-- what the law TubingTurns asks of a route -/
structure TurnFacts (g : Gr) (p q : Pt) (l : List Pt) : Prop where
  len : (l.length : Int) = lenN g p q + 1
  le : l.length ≤ 576
  hd : pt l 0 = p
  last : pt l (l.length - 1) = q
  step : ∀ i, i + 1 < l.length → awayI (pt l i) (pt l (i + 1)) = 1
  free : ∀ i, i < l.length → pt l i ∉ g.bl
  cell : ∀ i, i < l.length → inside g (pt l i) = true
  ok : verV g l = true
  err : listedErr g l = 0
  ok2 : verV g (l ++ [p]) = false
  err2 : listedErr g (l ++ [p]) = 0
  d1 : awayI p q ≤ lenN g p q
  d2 : (lenN g p q - awayI p q) % 2 = 0
theorem listed_of {g : Gr} {l : List Pt} (hk : chk g = 0) (hne : l ≠ []) (hl : l.length ≤ 4096) (h : ∀ p ∈ l, opn g p = true) : listedErr g l = 0 := by
  unfold listedErr
  rw [if_neg (by simp [hk]), if_neg hne, if_neg (by omega)]
  exact cells_of h
theorem pt_app1 {l m : List Pt} {i : Nat} (h : i < l.length) : pt (l ++ m) i = pt l i := by
  unfold pt; rw [List.getD_eq_getElem?_getD, List.getD_eq_getElem?_getD, List.getElem?_append_left h]
theorem pt_app2 {l : List Pt} {p : Pt} : pt (l ++ [p]) l.length = p := by
  unfold pt; rw [List.getD_eq_getElem?_getD, List.getElem?_append_right (Nat.le_refl _)]; simp
theorem turn_facts {g : Gr} {p q : Pt} (hb : rightB g = true) (h : lenE g p q = 0) : TurnFacts g p q (routeV g p q) := by
  obtain ⟨c1, c2, hk⟩ := rightB_ok hb
  obtain ⟨_, hp, hq, hd, hn⟩ := len_is h
  have hr := right_of_chk hk
  have hip := opn_inside hp
  have hiq := opn_inside hq
  have e0 : routeV g p q = way g p q := by
    unfold routeV routeL
    rw [if_neg (by simp [given_of hk (l := [p, q]) (by simp [hp, hq])]), if_neg (by omega)]
  rw [e0]
  clear e0
  have hD : IsD g q p (dst g q p).toNat := by
    rcases dst_cases hr hiq p with ⟨k, h1, h2⟩ | ⟨_, h2⟩
    · rw [h2]; exact h1
    · omega
  obtain ⟨w1, w2⟩ := wayGo_spec hr hq _ p hp hD
  have hw : p :: wayGo g (dst g q) (dst g q p).toNat p = way g p q := rfl
  rw [hw] at w1 w2
  have hlen : (way g p q).length = (dst g q p).toNat + 1 := by unfold way; simp [wayGo_len]
  have hopn : ∀ i, i < (way g p q).length → opn g (pt (way g p q) i) = true := by
    intro i
    induction i with
    | zero => intro _; exact hp
    | succ i ih => intro hi; exact near_opn (w2 i (by omega))
  have hmem : ∀ x ∈ way g p q, opn g x = true := by
    intro x hx
    obtain ⟨i, hi, e⟩ := List.mem_iff_getElem.1 hx
    have := hopn i hi
    unfold pt at this
    rw [List.getD_eq_getElem?_getD, List.getElem?_eq_getElem hi] at this
    simp at this
    rw [← e]; exact this
  have hdis : ∀ i, i < (way g p q).length → pt (way g p q) i ∉ (way g p q).take i := by
    intro i hi hx
    obtain ⟨j, hj, hj2, e⟩ := pt_mem_take hx
    have a1 := w1 i (by omega)
    have a2 := w1 j (by omega)
    rw [e] at a2
    omega
  have hstep : ∀ i, i + 1 < (way g p q).length → awayI (pt (way g p q) i) (pt (way g p q) (i + 1)) = 1 := fun i hi => near_one (w2 i (by omega))
  have hjoin : joinedB (way g p q) = true := by
    unfold joinedB
    rw [jFrom_iff]
    intro i _ hi
    refine ⟨hdis i (by omega), fun h0 => ?_⟩
    obtain ⟨j, rfl⟩ : ∃ j, i = j + 1 := ⟨i - 1, by omega⟩
    exact hstep j (by omega)
  have hlast : pt (way g p q) ((way g p q).length - 1) = q := by
    have := w1 (dst g q p).toNat (Nat.le_refl _)
    rw [hlen]
    have h0 : dst g q (pt (way g p q) (dst g q p).toNat) = 0 := by omega
    have hwk := dst_walk hr hiq (q := pt (way g p q) (dst g q p).toNat) (by omega)
    rw [h0] at hwk
    exact hwk.zero
  have hnd : (way g p q).Nodup := by
    unfold List.Nodup
    rw [List.pairwise_iff_getElem]
    intro i j hi hj hij e
    have h1 := hdis j hj
    apply h1
    unfold pt
    rw [List.getD_eq_getElem?_getD, List.getElem?_eq_getElem hj, Option.getD_some, ← e]
    rw [List.mem_take_iff_getElem]
    exact ⟨i, by omega, rfl⟩
  have hsmall : (way g p q).length ≤ 576 := by
    rw [← List.length_map (f := idx)]
    refine nodup_lt 576 _ ?_ ?_
    · unfold List.Nodup at *
      rw [List.pairwise_map]
      refine List.Pairwise.imp_of_mem ?_ hnd
      intro a b ha hb hab e
      exact hab (idx_inj (inG_of hr (opn_inside (hmem a ha))) (inG_of hr (opn_inside (hmem b hb))) e)
    · intro x hx
      obtain ⟨y, hy, rfl⟩ := List.mem_map.1 hx
      have := opn_inside (hmem y hy)
      unfold inside at this
      simp only [Bool.and_eq_true, decide_eq_true_eq] at this
      unfold idx
      omega
  have hw2 := (dst_walk hr hiq hd).symm hq
  obtain ⟨g1, g2⟩ := walk_away hw2
  have hne : way g p q ≠ [] := by unfold way; simp
  have herr2 : listedErr g (way g p q ++ [p]) = 0 := listed_of hk (by simp) (by simp; omega) (fun x hx => by
    rcases List.mem_append.1 hx with hx | hx
    · exact hmem x hx
    · simp at hx; subst hx; exact hp)
  have herr : listedErr g (way g p q) = 0 := listed_of hk hne (by omega) hmem
  refine ⟨by rw [hlen, hn]; omega, hsmall, rfl, hlast, hstep, fun i hi hx => ?_, fun i hi => opn_inside (hopn i hi), ?_, herr, ?_, herr2, by rw [hn]; omega, by rw [hn]; omega⟩
  · have := hopn i hi
    unfold opn blk at this
    simp only [Bool.and_eq_true, Bool.not_eq_true', decide_eq_false_iff_not] at this
    exact this.2 hx
  · unfold verV
    rw [if_neg (by simp [herr]), hjoin, hlast]
    show decide (dst g q p = _) = true
    rw [hlen]
    simp
    omega
  · unfold verV
    rw [if_neg (by simp [herr2])]
    have hj : joinedB (way g p q ++ [p]) = false := by
      cases hc : joinedB (way g p q ++ [p])
      · rfl
      · exfalso
        unfold joinedB at hc
        rw [jFrom_iff] at hc
        have := (hc (way g p q).length (Nat.zero_le _) (by simp)).1
        rw [pt_app2] at this
        apply this
        rw [List.take_append_of_le_length (Nat.le_refl _), List.take_length]
        exact List.mem_cons_self ..
    rw [hj]; rfl
end Go.Proofs.Ytechakkdcllgoaa
/- Slices of numbers of one's own. -/
namespace Go.Proofs.Ytechakkdcllgoaa
open Go.RowKit

def CellsI (w : World) (a : Option Addr) (l : List Int) : Prop := ∀ i, i < l.length → ∃ b off, a = some ⟨b, off, none⟩ ∧ w.cell? ⟨b, off + i, none⟩ = some (.int .i64 (l.getD i 0))
theorem CellsI.ext {w w' : World} {a : Option Addr} {l : List Int} (h : CellsI w a l) (he : Ext w w') : CellsI w' a l := fun i hi => by
  obtain ⟨b, off, h1, h2⟩ := h i hi
  exact ⟨b, off, h1, he.cell h2⟩
theorem CellsI.nil (w : World) (a : Option Addr) : CellsI w a [] := fun i hi => by simp at hi

def vals (l : List Int) : List Value := l.map (Value.int .i64)
/-- the slice value v owns the numbers l -/
def OwnsI (w : World) (v : Value) (l : List Int) : Prop := w.ownsRow 0 3 1 v l.length (vals l)
theorem OwnsI.nil (w : World) : OwnsI w (.slice none 0 0) [] := World.ownsRow_nil w 0 _ _
theorem OwnsI.kept {X : Nat → Prop} {n : Nat} {A B : World} {v : Value} {N : List Int} (ho : OwnsI A v N) (h : Kept X n A B) (hk : ∀ b, v.ownBlock = some b → X b) : OwnsI B v N := by
  obtain ⟨h1, h2⟩ := ho
  refine ⟨h1, ?_⟩
  rcases h2 with h2 | ⟨g, cap, cur, hv, hg, hh, r⟩
  · exact .inl h2
  · exact .inr ⟨g, cap, cur, hv, hg, h.2 g _ (hk g (by rw [hv]; rfl)) hh (.inl rfl), r⟩
theorem OwnsI.ext {A B : World} {v : Value} {N : List Int} (ho : OwnsI A v N) (h : Ext A B) : OwnsI B v N := ho.kept (Kept.ext h (fun _ => True) 0) (fun _ _ => trivial)
theorem OwnsI.lt {A : World} {v : Value} {N : List Int} (ho : OwnsI A v N) {b : Nat} (hb : v.ownBlock = some b) : b < A.heap.size := (World.ownsRow.lt ho b hb).2
theorem OwnsI.keep {m : Nat} {A B : World} {v : Value} {N : List Int} (ho : OwnsI A v N) (h : Keep m A B) : OwnsI B v N := by
  obtain ⟨h1, h2⟩ := ho
  refine ⟨h1, ?_⟩
  rcases h2 with h2 | ⟨g, cap, cur, hv, hg, hh, r⟩
  · exact .inl h2
  · exact .inr ⟨g, cap, cur, hv, hg, h.2 g _ hh rfl, r⟩
theorem OwnsI.reads {A : World} {v : Value} {N : List Int} (ho : OwnsI A v N) : ∃ a cap, v = .slice a N.length cap ∧ CellsI A a N ∧ (N = [] ∨ ∃ b, a = some ⟨b, 0, none⟩ ∧ v.ownBlock = some b ∧ ∀ i, i < N.length → A.cell? ⟨b, i, none⟩ = some (.int .i64 (N.getD i 0)) ∧ A.frozen? ⟨b, i, none⟩ = false) := by
  rcases ho.2 with ⟨hv, hn⟩ | ⟨g, cap, cur, hv, hg, hh, hnc, hm, hcs, ht⟩
  · have : N = [] := List.eq_nil_of_length_eq_zero hn
    subst this
    exact ⟨none, 0, hv, CellsI.nil _ _, .inl rfl⟩
  · have key : ∀ i, i < N.length → A.cell? ⟨g, i, none⟩ = some (.int .i64 (N.getD i 0)) := fun i hi => by
      have hc := World.ownsRow.cells ho (g := g) (by rw [hv]; rfl)
      have := hc i (.int .i64 (N.getD i 0)) (by simp [vals, List.getD, hi])
      rwa [Addr.add_lit, Nat.zero_add] at this
    refine ⟨some ⟨g, 0, none⟩, cap, hv, fun i hi => ⟨g, 0, rfl, by rw [Nat.zero_add]; exact key i hi⟩, .inr ⟨g, rfl, by rw [hv]; rfl, fun i hi => ⟨key i hi, ?_⟩⟩⟩
    have ho' : A.ownsRow 0 3 1 (.slice (some ⟨g, 0, none⟩) N.length cap) N.length (vals N) := by have h9 := ho; unfold OwnsI at h9; rw [hv] at h9; exact h9
    exact ho'.frozenAt i
theorem OwnsI.isCells {A : World} {v : Value} {N : List Int} (h : OwnsI A v N) {b : Nat} (hb : v.ownBlock = some b) {o : Obj} (ho : A.heap[b]? = some o) : o.isCells = true := by
  rcases h.2 with ⟨hv, _⟩ | ⟨g, cap, cur, hv, _, hh, _⟩
  · rw [hv] at hb; cases hb
  · rw [hv] at hb; cases hb
    rw [hh] at ho; cases ho; rfl
theorem ownsI_succ {w : World} {v : Value} {N : List Int} {x : Int} (h : w.ownsRow 0 3 1 v (N.length + 1) (vals N ++ [.int .i64 x])) : OwnsI w v (N ++ [x]) := by
  unfold OwnsI vals
  rw [List.length_append, List.length_singleton, List.map_append]
  exact h
theorem infoInt : (Try.prog.info? 3).map (fun i => (i.zero, i.size, i.bytes)) = some (some (.int .i64 0), 1, 8) := by kernel_rfl
theorem cell_one_int (w : World) (a : Value) (t : TypeId) : ∀ j u, ([a] : List Value)[j]? = some u → (w.alloc (.cells #[a] t)).cell? ((⟨w.heap.size, 0, none⟩ : Addr).add j) = some u := by
  intro j u h
  match j, h with
  | 0, h => simp at h; subst h; rw [Addr.add_lit, World.cell?_alloc_new]; rfl
end Go.Proofs.Ytechakkdcllgoaa
/- What the walk of Ducts wants of own memory and of distances. -/
/- The bundles of hoses, in plain Lean; lists of routes in memory. -/
namespace Go.Proofs.Ytechakkdcllgoaa
open Go.RowKit Go.Maps

abbrev Hose := Pt × Pt
def ph (hs : List Hose) (i : Nat) : Hose := hs.getD i ((0, 0), (0, 0))
/-- a list of pairs of places in memory -/
def Cells4 (w : World) (a : Option Addr) (hs : List Hose) : Prop :=
  ∀ i, i < hs.length → ∃ b off, a = some ⟨b, off, none⟩ ∧ w.cell? ⟨b, off + i * 4, none⟩ = some (.int .i64 (ph hs i).1.1) ∧ w.cell? ⟨b, off + i * 4 + 1, none⟩ = some (.int .i64 (ph hs i).1.2) ∧ w.cell? ⟨b, off + i * 4 + 2, none⟩ = some (.int .i64 (ph hs i).2.1) ∧ w.cell? ⟨b, off + i * 4 + 3, none⟩ = some (.int .i64 (ph hs i).2.2)
theorem Cells4.ext {w w' : World} {a : Option Addr} {l : List Hose} (h : Cells4 w a l) (he : Ext w w') : Cells4 w' a l := fun i hi => by
  obtain ⟨b, off, h1, h2, h3, h4, h5⟩ := h i hi
  exact ⟨b, off, h1, he.cell h2, he.cell h3, he.cell h4, he.cell h5⟩
theorem Cells4.below {m : Nat} {w w' : World} {a : Option Addr} {l : List Hose} (h : Cells4 w a l) (he : Below m w w') (hm : l ≠ [] → ∀ b off, a = some ⟨b, off, none⟩ → b < m) : Cells4 w' a l := fun i hi => by
  obtain ⟨b, off, h1, h2, h3, h4, h5⟩ := h i hi
  have hb := hm (by rintro rfl; simp at hi) b off h1
  exact ⟨b, off, h1, (he.cell (p := ⟨b, _, none⟩) hb).trans h2, (he.cell (p := ⟨b, _, none⟩) hb).trans h3, (he.cell (p := ⟨b, _, none⟩) hb).trans h4, (he.cell (p := ⟨b, _, none⟩) hb).trans h5⟩
theorem Cells4.lt {w : World} {a : Option Addr} {l : List Hose} (h : Cells4 w a l) (hne : l ≠ []) {b off : Nat} (ha : a = some ⟨b, off, none⟩) : b < w.heap.size := by
  obtain ⟨b', off', h1, h2, _⟩ := h 0 (List.length_pos_iff.2 hne)
  rw [ha] at h1
  cases h1
  exact cell_lt h2
theorem Cells2.below {m : Nat} {w w' : World} {a : Option Addr} {l : List Pt} (h : Cells2 w a l) (he : Below m w w') (hm : l ≠ [] → ∀ b off, a = some ⟨b, off, none⟩ → b < m) : Cells2 w' a l := fun i hi => by
  obtain ⟨b, off, h1, h2, h3⟩ := h i hi
  have hb := hm (by rintro rfl; simp at hi) b off h1
  exact ⟨b, off, h1, (he.cell (p := ⟨b, _, none⟩) hb).trans h2, (he.cell (p := ⟨b, _, none⟩) hb).trans h3⟩

def insP (S : List Hose) (a : Hose) : List Hose := if a ∈ S then S else a :: S
theorem insP_mem (S : List Hose) (a x : Hose) : x ∈ insP S a ↔ x ∈ S ∨ x = a := by
  unfold insP
  split
  · rename_i h
    constructor
    · exact .inl
    · rintro (h1 | rfl)
      · exact h1
      · exact h
  · rw [List.mem_cons]
    constructor
    · rintro (h | h)
      · exact .inr h
      · exact .inl h
    · rintro (h | h)
      · exact .inr h
      · exact .inl h
theorem insP_nodup {S : List Hose} (h : S.Nodup) (a : Hose) : (insP S a).Nodup := by
  unfold insP
  split
  · exact h
  · rename_i hn; exact List.nodup_cons.2 ⟨hn, h⟩
theorem insP_len (S : List Hose) (a : Hose) : (insP S a).length ≤ S.length + 1 := by
  unfold insP
  split
  · omega
  · simp
def pairOf (a b : Pt) : Hose := if 0 < ordP a b then (b, a) else (a, b)
def pairK (S : List Hose) (l : List Pt) : Nat → List Hose
  | 0 => S
  | j + 1 => insP (pairK S l j) (pairOf (pt l j) (pt l (j + 1)))
def pairsIn (S : List Hose) (l : List Pt) : List Hose := pairK S l (l.length - 1)
/-- the ducts behind the first k hoses -/
def ductK (g : Gr) (hs : List Hose) : Nat → List Hose
  | 0 => []
  | k + 1 => pairsIn (ductK g hs k) (way g (ph hs k).1 (ph hs k).2)
def hoseErr (g : Gr) (x : Hose) : Int := if cellsErr g [x.1, x.2] ≠ 0 then cellsErr g [x.1, x.2] else if dst g x.2 x.1 < 0 then 6 else 0
def hosesErr (g : Gr) (hs : List Hose) : Nat → Nat → Int
  | 0, _ => 0
  | n + 1, k => if hoseErr g (ph hs k) ≠ 0 then hoseErr g (ph hs k) else hosesErr g hs n (k + 1)
def ductE (g : Gr) (hs : List Hose) : Int := if chk g ≠ 0 then chk g else if 256 < hs.length then 5 else hosesErr g hs hs.length 0
def ductN (g : Gr) (hs : List Hose) : Int := if ductE g hs ≠ 0 then 0 else ((ductK g hs hs.length).length : Int)
def ways (g : Gr) (hs : List Hose) : Nat → List (List Pt)
  | 0 => []
  | k + 1 => ways g hs k ++ [way g (ph hs k).1 (ph hs k).2]
def ductL (g : Gr) (hs : List Hose) : List (List Pt) := if ductE g hs ≠ 0 then [] else ways g hs hs.length
theorem ways_len (g : Gr) (hs : List Hose) : ∀ k, (ways g hs k).length = k := by
  intro k
  induction k with
  | zero => rfl
  | succ k ih => simp [ways, ih]
theorem way_len (g : Gr) (p q : Pt) : (way g p q).length = (dst g q p).toNat + 1 := by unfold way; simp [wayGo_len]
theorem pairK_len (S : List Hose) (l : List Pt) : ∀ j, (pairK S l j).length ≤ S.length + j := by
  intro j
  induction j with
  | zero => exact Nat.le_refl _
  | succ j ih =>
    have := insP_len (pairK S l j) (pairOf (pt l j) (pt l (j + 1)))
    show (insP _ _).length ≤ _
    omega
theorem pairK_nodup {S : List Hose} (h : S.Nodup) (l : List Pt) : ∀ j, (pairK S l j).Nodup := by
  intro j
  induction j with
  | zero => exact h
  | succ j ih => exact insP_nodup ih _
theorem ductK_nodup (g : Gr) (hs : List Hose) : ∀ k, (ductK g hs k).Nodup := by
  intro k
  induction k with
  | zero => exact List.nodup_nil
  | succ k ih => exact pairK_nodup ih _ _

/-- the slice value v owns rows that own their places -/
def RowsO (w : World) (v : Value) (LL : List (List Pt)) : Prop :=
  ∃ vs : List Value, w.ownsRow 0 23 1 v LL.length vs ∧ vs.length = LL.length ∧ ∀ i, i < LL.length → Owns w (vs.getD i undef) (LL.getD i [])
/-- what one who is given the rows sees -/
def RowsR (w : World) (a : Option Addr) (LL : List (List Pt)) : Prop :=
  ∀ i, i < LL.length → ∃ b off ai ci, a = some ⟨b, off, none⟩ ∧ w.cell? ⟨b, off + i, none⟩ = some (.slice ai (LL.getD i []).length ci) ∧ Cells2 w ai (LL.getD i [])
theorem RowsR.ext {w w' : World} {a : Option Addr} {LL : List (List Pt)} (h : RowsR w a LL) (he : Ext w w') : RowsR w' a LL := fun i hi => by
  obtain ⟨b, off, ai, ci, h1, h2, h3⟩ := h i hi
  exact ⟨b, off, ai, ci, h1, he.cell h2, h3.ext he⟩
theorem RowsR.nil (w : World) (a : Option Addr) : RowsR w a [] := fun i hi => by simp at hi
theorem RowsO.nil (w : World) : RowsO w (.slice none 0 0) [] := ⟨[], World.ownsRow_nil w 0 _ _, rfl, fun i hi => by simp at hi⟩
theorem ownsRow_kept {X : Nat → Prop} {m : Nat} {A B : World} {e : TypeId} {s n : Nat} {v : Value} {xs : List Value} (ho : A.ownsRow 0 e s v n xs) (h : Kept X m A B) (hk : ∀ b, v.ownBlock = some b → X b) : B.ownsRow 0 e s v n xs := by
  obtain ⟨h1, h2⟩ := ho
  refine ⟨h1, ?_⟩
  rcases h2 with h2 | ⟨g, cap, cur, hv, hg, hh, r⟩
  · exact .inl h2
  · exact .inr ⟨g, cap, cur, hv, hg, h.2 g _ (hk g (by rw [hv]; rfl)) hh (.inl rfl), r⟩
theorem ownsRow_at {A : World} {e : TypeId} {s n : Nat} {v : Value} {xs : List Value} (ho : A.ownsRow 0 e s v n xs) {b : Nat} (hb : v.ownBlock = some b) : ∃ cur fr, A.heap[b]? = some (.cells cur e fr) := by
  rcases ho.2 with ⟨hv, _⟩ | ⟨g, cap, cur, hv, hg, hh, r⟩
  · rw [hv] at hb; cases hb
  · rw [hv] at hb; cases hb; exact ⟨_, _, hh⟩
theorem RowsO.kept {X : Nat → Prop} {m : Nat} {A B : World} {v : Value} {LL : List (List Pt)} (ho : RowsO A v LL) (h : Kept X m A B) (hk : ∀ b, v.ownBlock = some b → X b) (hX : ∀ b cur fr, A.heap[b]? = some (.cells cur 27 fr) → X b) : RowsO B v LL := by
  obtain ⟨vs, h1, h2, h3⟩ := ho
  refine ⟨vs, ownsRow_kept h1 h hk, h2, fun i hi => (h3 i hi).kept h (fun b hb => ?_)⟩
  obtain ⟨cur, fr, h4⟩ := ownsRow_at (h3 i hi) hb
  exact hX b cur fr h4
theorem RowsO.ext {A B : World} {v : Value} {LL : List (List Pt)} (ho : RowsO A v LL) (h : Ext A B) : RowsO B v LL := ho.kept (Kept.ext h (fun _ => True) 0) (fun _ _ => trivial) (fun _ _ _ _ => trivial)
theorem RowsO.shape {A : World} {v : Value} {LL : List (List Pt)} (ho : RowsO A v LL) : ∃ a cap, v = .slice a LL.length cap := by
  obtain ⟨vs, h1, _⟩ := ho
  rcases h1.2 with ⟨hv, hn⟩ | ⟨g, cap, cur, hv, _⟩
  · exact ⟨none, 0, by rw [hv, hn]⟩
  · exact ⟨_, cap, hv⟩
theorem RowsO.lt {A : World} {v : Value} {LL : List (List Pt)} (ho : RowsO A v LL) {b : Nat} (hb : v.ownBlock = some b) : b < A.heap.size := by
  obtain ⟨vs, h1, _⟩ := ho
  exact (World.ownsRow.lt h1 b hb).2
theorem RowsO.at {A : World} {v : Value} {LL : List (List Pt)} (ho : RowsO A v LL) {b : Nat} (hb : v.ownBlock = some b) : ∃ cur fr, A.heap[b]? = some (.cells cur 23 fr) := by
  obtain ⟨vs, h1, _⟩ := ho
  exact ownsRow_at h1 hb
theorem RowsO.reads {A : World} {v : Value} {LL : List (List Pt)} (ho : RowsO A v LL) : ∃ a cap, v = .slice a LL.length cap ∧ RowsR A a LL := by
  obtain ⟨vs, h1, h2, h3⟩ := ho
  rcases h1.2 with ⟨hv, hn⟩ | ⟨g, cap, cur, hv, hg, hh, hr⟩
  · have : LL = [] := List.eq_nil_of_length_eq_zero hn
    subst this
    exact ⟨none, 0, hv, RowsR.nil _ _⟩
  · refine ⟨some ⟨g, 0, none⟩, cap, hv, fun i hi => ?_⟩
    have hc := World.ownsRow.cells h1 (g := g) (by rw [hv]; rfl)
    have hi2 : i < vs.length := by omega
    obtain ⟨ai, ci, e1, e2, _⟩ := (h3 i hi).reads
    have := hc i (vs.getD i undef) (by simp [List.getD, hi2])
    rw [Addr.add_lit] at this
    rw [e1] at this
    exact ⟨g, 0, ai, ci, rfl, this, e2⟩
theorem rows_app {A B : World} {v v' u : Value} {vs : List Value} {LL : List (List Pt)} {L : List Pt} (h1 : A.ownsRow 0 23 1 v LL.length vs) (h2 : vs.length = LL.length) (h3 : ∀ i, i < LL.length → Owns A (vs.getD i undef) (LL.getD i [])) (hu : Owns A u L)
    (he : AppEnd A B v v') (h4 : B.ownsRow 0 23 1 v' (LL.length + 1) (vs ++ [u])) : RowsO B v' (LL ++ [L]) := by
  have K : Kept (fun k => v.ownBlock ≠ some k) 0 A B := Kept.grown he (fun b hb hn => hn hb)
  have keep : ∀ (x : Value) (N : List Pt), Owns A x N → Owns B x N := fun x N hx => hx.kept K (fun b hb hvb => by
    obtain ⟨c1, f1, e1⟩ := ownsRow_at hx hb
    obtain ⟨c2, f2, e2⟩ := ownsRow_at h1 hvb
    rw [e1] at e2
    injection e2 with e2
    injection e2 with _ e3 _
    exact absurd e3 (by decide))
  refine ⟨vs ++ [u], by rw [List.length_append, List.length_singleton]; exact h4, by simp [h2], fun i hi => ?_⟩
  by_cases e : i < LL.length
  · have e1 : (vs ++ [u]).getD i undef = vs.getD i undef := by simp [List.getD, List.getElem?_append_left (show i < vs.length by omega)]
    have e2 : (LL ++ [L]).getD i [] = LL.getD i [] := by simp [List.getD, List.getElem?_append_left e]
    rw [e1, e2]; exact keep _ _ (h3 i e)
  · have ei : i = LL.length := by simp at hi; omega
    have e1 : (vs ++ [u]).getD i undef = u := by rw [ei, ← h2]; simp [List.getD]
    have e2 : (LL ++ [L]).getD i [] = L := by rw [ei]; simp [List.getD]
    rw [e1, e2]; exact keep _ _ hu
theorem wayGo_opn {g : Gr} (hr : Right g) {q : Pt} (hq : opn g q = true) : ∀ (n : Nat) (a : Pt), opn g a = true → IsD g q a n → ∀ x ∈ wayGo g (dst g q) n a, opn g x = true := by
  intro n
  induction n with
  | zero => intro a _ _ x hx; cases hx
  | succ n ih =>
    intro a ha hd x hx
    have hda : dst g q a = (n : Int) + 1 := by have := dst_of hr (opn_inside hq) hd; rw [this]; omega
    obtain ⟨y, hy1, hy2⟩ := stepTo_ex hr hq ha hd
    have hs := stepTo_spec (g := g) (D := dst g q) (a := a) ⟨y, hy1, by rw [hy2, hda]; omega⟩
    rcases List.mem_cons.1 hx with rfl | hx
    · exact near_opn hs.1
    · exact ih _ (near_opn hs.1) (stepTo_isD hr hq hd hs.1 (by rw [hs.2, hda]; omega)) x hx
theorem way_isD {g : Gr} (hr : Right g) {p q : Pt} (hq : opn g q = true) (hneg : ¬ dst g q p < 0) : IsD g q p (dst g q p).toNat := by
  rcases dst_cases hr (opn_inside hq) p with ⟨k, h1, h2⟩ | ⟨_, h2⟩
  · rw [h2]; exact h1
  · omega
theorem way_opn {g : Gr} (hr : Right g) {p q : Pt} (hp : opn g p = true) (hq : opn g q = true) (hneg : ¬ dst g q p < 0) : ∀ x ∈ way g p q, opn g x = true := by
  intro x hx
  rcases List.mem_cons.1 hx with rfl | hx
  · exact hp
  · exact wayGo_opn hr hq _ _ hp (way_isD hr hq hneg) x hx
theorem infoRow : (Try.prog.info? 23).map (fun i => (i.zero, i.size, i.bytes)) = some (some (.slice none 0 0), 1, 24) := by kernel_rfl
end Go.Proofs.Ytechakkdcllgoaa
/- What the law TubingSaves asks of bundles of hoses, in plain Lean. -/
namespace Go.Proofs.Ytechakkdcllgoaa

theorem nodup_sub {α : Type} [DecidableEq α] : ∀ {l m : List α}, l.Nodup → (∀ x ∈ l, x ∈ m) → l.length ≤ m.length := by
  intro l
  induction l with
  | nil => intro m _ _; exact Nat.zero_le _
  | cons a l ih =>
    intro m hn hs
    obtain ⟨h1, h2⟩ := List.nodup_cons.1 hn
    have ha := hs a (List.mem_cons_self ..)
    have := ih (m := m.erase a) h2 (fun x hx => by
      have hne : x ≠ a := fun e => h1 (e ▸ hx)
      exact (List.mem_erase_of_ne hne).2 (hs x (List.mem_cons_of_mem _ hx)))
    rw [List.length_erase_of_mem ha] at this
    have hp := List.length_pos_of_mem ha
    simp only [List.length_cons]
    omega
theorem pairK_mem (S : List Hose) (l : List Pt) (x : Hose) : ∀ j, x ∈ pairK S l j ↔ x ∈ S ∨ ∃ i, i < j ∧ x = pairOf (pt l i) (pt l (i + 1)) := by
  intro j
  induction j with
  | zero => show x ∈ S ↔ _; simp
  | succ j ih =>
    show x ∈ insP (pairK S l j) (pairOf (pt l j) (pt l (j + 1))) ↔ _
    rw [insP_mem, ih]
    constructor
    · rintro ((h | ⟨i, h1, h2⟩) | h)
      · exact .inl h
      · exact .inr ⟨i, by omega, h2⟩
      · exact .inr ⟨j, by omega, h⟩
    · rintro (h | ⟨i, h1, h2⟩)
      · exact .inl (.inl h)
      · by_cases e : i = j
        · subst e; exact .inr h2
        · exact .inl (.inr ⟨i, by omega, h2⟩)
def wayOf (g : Gr) (x : Hose) : List Pt := way g x.1 x.2
theorem ductK_mem (g : Gr) (hs : List Hose) (x : Hose) : ∀ k, x ∈ ductK g hs k ↔ ∃ i, i < k ∧ ∃ j, j < (wayOf g (ph hs i)).length - 1 ∧ x = pairOf (pt (wayOf g (ph hs i)) j) (pt (wayOf g (ph hs i)) (j + 1)) := by
  intro k
  induction k with
  | zero => show x ∈ [] ↔ _; simp
  | succ k ih =>
    show x ∈ pairK (ductK g hs k) (wayOf g (ph hs k)) ((wayOf g (ph hs k)).length - 1) ↔ _
    rw [pairK_mem, ih]
    constructor
    · rintro (⟨i, h1, h2⟩ | h)
      · exact ⟨i, by omega, h2⟩
      · exact ⟨k, by omega, h⟩
    · rintro ⟨i, h1, h2⟩
      by_cases e : i = k
      · subst e; exact .inr h2
      · exact .inl ⟨i, by omega, h2⟩
theorem hosesErr_iff (g : Gr) (hs : List Hose) : ∀ n k, hosesErr g hs n k = 0 ↔ ∀ i, k ≤ i → i < k + n → hoseErr g (ph hs i) = 0 := by
  intro n
  induction n with
  | zero => intro k; simp only [hosesErr, true_iff]; intro i h1 h2; omega
  | succ n ih =>
    intro k
    unfold hosesErr
    by_cases h : hoseErr g (ph hs k) = 0
    · rw [if_neg (by simp [h]), ih]
      constructor
      · intro hh i h1 h2
        by_cases e : i = k
        · subst e; exact h
        · exact hh i (by omega) (by omega)
      · intro hh i h1 h2; exact hh i (by omega) (by omega)
    · rw [if_pos h]
      constructor
      · intro hh; exact absurd hh h
      · intro hh; exact absurd (hh k (Nat.le_refl _) (by omega)) h
theorem ductE_iff {g : Gr} {hs : List Hose} (hk : chk g = 0) (hl : hs.length ≤ 256) : ductE g hs = 0 ↔ ∀ i, i < hs.length → hoseErr g (ph hs i) = 0 := by
  unfold ductE
  rw [if_neg (by simp [hk]), if_neg (by omega), hosesErr_iff]
  constructor
  · intro h i hi; exact h i (Nat.zero_le _) (by omega)
  · intro h i _ hi; exact h i (by omega)
theorem hose_len {g : Gr} {x : Hose} (hk : chk g = 0) (h : hoseErr g x = 0) : lenE g x.1 x.2 = 0 := by
  unfold hoseErr at h
  unfold lenE givenErr
  have e0 : ¬ chk g ≠ 0 := by simp [hk]
  rw [if_neg e0]
  by_cases h1 : cellsErr g [x.1, x.2] = 0
  · rw [if_neg (by simp [h1])] at h ⊢; exact h
  · rw [if_pos h1] at h; exact absurd h h1
theorem ph_app1 {hs ks : List Hose} {i : Nat} (h : i < hs.length) : ph (hs ++ ks) i = ph hs i := by
  unfold ph; rw [List.getD_eq_getElem?_getD, List.getD_eq_getElem?_getD, List.getElem?_append_left h]
theorem ph_app2 {hs ks : List Hose} {i : Nat} (h : hs.length ≤ i) : ph (hs ++ ks) i = ph ks (i - hs.length) := by
  unfold ph; rw [List.getD_eq_getElem?_getD, List.getD_eq_getElem?_getD, List.getElem?_append_right h]
/-- the lengths of the first k hoses together, and the greatest -/
def sumK (g : Gr) (hs : List Hose) : Nat → Int
  | 0 => 0
  | k + 1 => sumK g hs k + lenN g (ph hs k).1 (ph hs k).2
def mostK (g : Gr) (hs : List Hose) : Nat → Int
  | 0 => 0
  | k + 1 => max (mostK g hs k) (lenN g (ph hs k).1 (ph hs k).2)
theorem sumK_bd (g : Gr) (hs : List Hose) : ∀ k, 0 ≤ sumK g hs k ∧ sumK g hs k ≤ 4096 * k := by
  intro k
  induction k with
  | zero => simp [sumK]
  | succ k ih =>
    have := len_bd (g := g) (p := (ph hs k).1) (q := (ph hs k).2)
    unfold sumK
    omega
theorem mostK_bd (g : Gr) (hs : List Hose) : ∀ k, 0 ≤ mostK g hs k ∧ mostK g hs k ≤ 4096 := by
  intro k
  induction k with
  | zero => simp [mostK]
  | succ k ih =>
    have := len_bd (g := g) (p := (ph hs k).1) (q := (ph hs k).2)
    unfold mostK
    omega
theorem wayOf_len {g : Gr} {x : Hose} (h : lenE g x.1 x.2 = 0) : ((wayOf g x).length : Int) = lenN g x.1 x.2 + 1 := by
  obtain ⟨_, _, _, hd, hn⟩ := len_is h
  unfold wayOf
  rw [way_len, hn]
  omega
theorem way_dst {g : Gr} {x : Hose} (h : lenE g x.1 x.2 = 0) {i : Nat} (hi : i < (wayOf g x).length) : dst g x.2 (pt (wayOf g x) i) = lenN g x.1 x.2 - i := by
  obtain ⟨hk, hp, hq, hd, hn⟩ := len_is h
  have hr := right_of_chk hk
  have hD : IsD g x.2 x.1 (dst g x.2 x.1).toNat := by
    rcases dst_cases hr (opn_inside hq) x.1 with ⟨k, h1, h2⟩ | ⟨_, h2⟩
    · rw [h2]; exact h1
    · omega
  have hl := wayOf_len h
  have := (wayGo_spec hr hq _ x.1 hp hD).1 i (by omega)
  rw [hn]
  show dst g x.2 (pt (way g x.1 x.2) i) = _
  unfold way
  rw [this]
  omega
theorem pairOf_cases (a b : Pt) : pairOf a b = (a, b) ∨ pairOf a b = (b, a) := by
  unfold pairOf
  split
  · exact .inr rfl
  · exact .inl rfl
theorem ducts_least {g : Gr} {hs : List Hose} {k : Nat} {x : Hose} (hx : ∃ i, i < k ∧ x = ph hs i) (h : lenE g x.1 x.2 = 0) : lenN g x.1 x.2 ≤ ((ductK g hs k).length : Int) := by
  obtain ⟨i, hi, rfl⟩ := hx
  have hl := wayOf_len h
  have hb := len_bd (g := g) (p := (ph hs i).1) (q := (ph hs i).2)
  have hd := fun j (hj : j < (wayOf g (ph hs i)).length) => way_dst h hj
  obtain ⟨L, hL⟩ : ∃ L, L = (List.range ((wayOf g (ph hs i)).length - 1)).map fun j => pairOf (pt (wayOf g (ph hs i)) j) (pt (wayOf g (ph hs i)) (j + 1)) := ⟨_, rfl⟩
  have hlen : L.length = (wayOf g (ph hs i)).length - 1 := by rw [hL]; simp
  have hn : L.Nodup := by
    rw [hL]
    unfold List.Nodup
    rw [List.pairwise_map]
    refine List.Pairwise.imp_of_mem ?_ (List.nodup_range (n := (wayOf g (ph hs i)).length - 1))
    intro a b ha hb2 hab e
    rw [List.mem_range] at ha hb2
    have a1 := hd a (by omega)
    have a2 := hd (a + 1) (by omega)
    have b1 := hd b (by omega)
    have b2 := hd (b + 1) (by omega)
    generalize pt (wayOf g (ph hs i)) a = A at a1 e
    generalize pt (wayOf g (ph hs i)) (a + 1) = A' at a2 e
    generalize pt (wayOf g (ph hs i)) b = B at b1 e
    generalize pt (wayOf g (ph hs i)) (b + 1) = B' at b2 e
    rcases pairOf_cases A A' with h1 | h1 <;> rcases pairOf_cases B B' with h2 | h2 <;> rw [h1, h2] at e <;> injection e with e1 e2 <;> subst e1 <;> subst e2 <;> omega
  have := nodup_sub hn (m := ductK g hs k) (fun y hy => by
    rw [hL] at hy
    obtain ⟨j, hj, rfl⟩ := List.mem_map.1 hy
    rw [List.mem_range] at hj
    exact (ductK_mem g hs _ k).2 ⟨i, hi, j, hj, rfl⟩)
  omega
/-- what the law TubingSaves asks -/
structure SaveFacts (g : Gr) (hs : List Hose) : Prop where
  len : ∀ i, i < hs.length → lenE g (ph hs i).1 (ph hs i).2 = 0
  row : ∀ i, i < hs.length → ((wayOf g (ph hs i)).length : Int) = lenN g (ph hs i).1 (ph hs i).2 + 1
  le : ductN g hs ≤ sumK g hs hs.length
  ge : mostK g hs hs.length ≤ ductN g hs
  err2 : ductE g (hs ++ hs) = 0
  n2 : ductN g (hs ++ hs) = ductN g hs
theorem save_facts {g : Gr} {hs : List Hose} (hk : chk g = 0) (hl : hs.length ≤ 5) (h : ductE g hs = 0) : SaveFacts g hs := by
  have h1 := (ductE_iff hk (by omega)).1 h
  have hlen : ∀ i, i < hs.length → lenE g (ph hs i).1 (ph hs i).2 = 0 := fun i hi => hose_len hk (h1 i hi)
  have hN : ductN g hs = ((ductK g hs hs.length).length : Int) := by unfold ductN; rw [if_neg (by simp [h])]
  have h2 : ductE g (hs ++ hs) = 0 := by
    rw [ductE_iff hk (by simp; omega)]
    intro i hi
    by_cases e : i < hs.length
    · rw [ph_app1 e]; exact h1 i e
    · rw [ph_app2 (by omega)]
      rw [List.length_append] at hi
      exact h1 _ (by omega)
  have hN2 : ductN g (hs ++ hs) = ((ductK g (hs ++ hs) (hs ++ hs).length).length : Int) := by unfold ductN; rw [if_neg (by simp [h2])]
  refine ⟨hlen, fun i hi => wayOf_len (hlen i hi), ?_, ?_, h2, ?_⟩
  · rw [hN]
    have key : ∀ k, k ≤ hs.length → ((ductK g hs k).length : Int) ≤ sumK g hs k := by
      intro k
      induction k with
      | zero => intro _; simp [ductK, sumK]
      | succ k ih =>
        intro hk2
        have a := ih (by omega)
        have b := pairK_len (ductK g hs k) (wayOf g (ph hs k)) ((wayOf g (ph hs k)).length - 1)
        have c := wayOf_len (hlen k (by omega))
        have d := len_bd (g := g) (p := (ph hs k).1) (q := (ph hs k).2)
        show ((pairK (ductK g hs k) (wayOf g (ph hs k)) ((wayOf g (ph hs k)).length - 1)).length : Int) ≤ sumK g hs k + _
        omega
    exact key _ (Nat.le_refl _)
  · rw [hN]
    have key : ∀ k, k ≤ hs.length → mostK g hs k ≤ ((ductK g hs hs.length).length : Int) := by
      intro k
      induction k with
      | zero => intro _; simp [mostK]
      | succ k ih =>
        intro hk2
        have a := ih (by omega)
        have b := ducts_least (g := g) (hs := hs) (k := hs.length) (x := ph hs k) ⟨k, by omega, rfl⟩ (hlen k (by omega))
        show max _ _ ≤ _
        omega
    exact key _ (Nat.le_refl _)
  · rw [hN, hN2]
    congr 1
    refine List.Perm.length_eq ((List.perm_ext_iff_of_nodup (ductK_nodup g _ _) (ductK_nodup g _ _)).2 fun x => ?_)
    rw [ductK_mem, ductK_mem]
    constructor
    · rintro ⟨i, hi, hx⟩
      rw [List.length_append] at hi
      by_cases e : i < hs.length
      · rw [ph_app1 e] at hx; exact ⟨i, e, hx⟩
      · rw [ph_app2 (by omega)] at hx; exact ⟨i - hs.length, by omega, hx⟩
    · rintro ⟨i, hi, hx⟩
      exact ⟨i, by rw [List.length_append]; omega, by rw [ph_app1 hi]; exact hx⟩
end Go.Proofs.Ytechakkdcllgoaa
/- A grid of 8 rows and 8 columns without blocked cells, in plain Lean. -/
namespace Go.Proofs.Ytechakkdcllgoaa

def e8 : Gr := ⟨8, 8, []⟩
def ab (a b : Int) : Int := max (a - b) (b - a)
def man (p q : Pt) : Int := ab p.1 q.1 + ab p.2 q.2
def InE (p : Pt) : Prop := 0 ≤ p.1 ∧ p.1 < 8 ∧ 0 ≤ p.2 ∧ p.2 < 8
theorem chk_e8 : chk e8 = 0 := by decide +kernel
theorem opn_e8 {p : Pt} (h : InE p) : opn e8 p = true := by
  obtain ⟨h1, h2, h3, h4⟩ := h
  unfold opn inside blk e8
  simp [h1, h2, h3, h4]
theorem near_mem {g : Gr} {p q : Pt} : q ∈ near g p ↔ q ∈ nbs p ∧ opn g q = true := by unfold near; rw [List.mem_filter]
theorem nbs_iff (p q : Pt) : q ∈ nbs p ↔ (q.1 = p.1 - 1 ∧ q.2 = p.2) ∨ (q.1 = p.1 ∧ q.2 = p.2 - 1) ∨ (q.1 = p.1 ∧ q.2 = p.2 + 1) ∨ (q.1 = p.1 + 1 ∧ q.2 = p.2) := by
  unfold nbs
  simp [Prod.ext_iff]
theorem man_step {a p q : Pt} (h : q ∈ nbs p) : man a q ≤ man a p + 1 := by
  rw [nbs_iff] at h
  unfold man ab
  omega
theorem man_self (p : Pt) : man p p = 0 := by unfold man ab; omega
theorem man_symm (p q : Pt) : man p q = man q p := by unfold man ab; omega
theorem man_nn (p q : Pt) : 0 ≤ man p q := by unfold man ab; omega
theorem man_zero {p q : Pt} (h : man p q = 0) : p = q := by
  unfold man ab at h
  exact Prod.ext (by omega) (by omega)
theorem man_pos {p q : Pt} {n : Nat} (hq : InE q) (hp : InE p) (h : man p q = (n : Int) + 1) : ∃ r, InE r ∧ man p r = n ∧ q ∈ nbs r := by
  unfold InE at *
  by_cases h1 : p.1 < q.1
  · exact ⟨(q.1 - 1, q.2), by dsimp only; omega, by unfold man ab at *; dsimp only; omega, by rw [nbs_iff]; dsimp only; omega⟩
  · by_cases h2 : q.1 < p.1
    · exact ⟨(q.1 + 1, q.2), by dsimp only; omega, by unfold man ab at *; dsimp only; omega, by rw [nbs_iff]; dsimp only; omega⟩
    · by_cases h3 : p.2 < q.2
      · exact ⟨(q.1, q.2 - 1), by dsimp only; omega, by unfold man ab at *; dsimp only; omega, by rw [nbs_iff]; dsimp only; omega⟩
      · exact ⟨(q.1, q.2 + 1), by dsimp only; unfold man ab at h; omega, by unfold man ab at *; dsimp only; omega, by rw [nbs_iff]; dsimp only; omega⟩
theorem walk_man {p : Pt} (hp : InE p) : ∀ (n : Nat) (q : Pt), InE q → man p q = n → Walk e8 p n q := by
  intro n
  induction n with
  | zero =>
    intro q _ h
    have := man_zero (p := p) (q := q) (by omega)
    subst this
    exact .nil
  | succ n ih =>
    intro q hq h
    obtain ⟨r, h1, h2, h3⟩ := man_pos (n := n) hq hp (by omega)
    exact .cons (ih r h1 h2) (near_mem.2 ⟨h3, opn_e8 hq⟩)
theorem man_walk {p q : Pt} {n : Nat} (h : Walk e8 p n q) : man p q ≤ n := by
  induction h with
  | nil => rw [man_self]; exact Int.le_refl _
  | cons _ hn ih =>
    have := man_step (a := p) (near_mem.1 hn).1
    omega
theorem right_e8 : Right e8 := right_of_chk chk_e8
theorem dst_e8 {p q : Pt} (hp : InE p) (hq : InE q) : dst e8 p q = man p q := by
  have h := man_nn p q
  rw [dst_of right_e8 (opn_inside (opn_e8 hp)) (k := (man p q).toNat) ⟨walk_man hp _ q hq (by omega), fun m hm hw => by have := man_walk hw; omega⟩]
  omega
theorem len_e8 {p q : Pt} (hp : InE p) (hq : InE q) : lenE e8 p q = 0 ∧ lenN e8 p q = man p q := by
  have h := dst_e8 hq hp
  have h2 := man_nn q p
  obtain ⟨h3, h4⟩ := len_of chk_e8 (opn_e8 hp) (opn_e8 hq) (by omega)
  exact ⟨h3, by rw [h4, h, man_symm]⟩

/-- a step of a way crosses each distance between its ends -/
theorem cross (f : Nat → Int) (k : Int) : ∀ m : Nat, f 0 < k → k ≤ f m → (∀ j, j < m → f (j + 1) ≤ f j + 1) → ∃ j, j < m ∧ max (f j) (f (j + 1)) = k := by
  intro m
  induction m with
  | zero => intro h1 h2 _; omega
  | succ m ih =>
    intro h1 h2 h3
    by_cases h : k ≤ f m
    · obtain ⟨j, hj, e⟩ := ih h1 h (fun j hj => h3 j (by omega))
      exact ⟨j, by omega, e⟩
    · have := h3 m (by omega)
      exact ⟨m, by omega, by omega⟩
structure WayFacts (p q : Pt) (L : List Pt) : Prop where
  len : 0 < L.length
  first : pt L 0 = p
  last : pt L (L.length - 1) = q
  step : ∀ i, i < L.length - 1 → pt L (i + 1) ∈ nbs (pt L i)
theorem way_e8 {p q : Pt} (hp : InE p) (hq : InE q) : WayFacts p q (wayOf e8 (p, q)) := by
  have h := dst_e8 hq hp
  have h2 := man_nn q p
  have hop := opn_e8 hp
  have hoq := opn_e8 hq
  have hD : IsD e8 q p (dst e8 q p).toNat := way_isD right_e8 hoq (by omega)
  obtain ⟨w1, w2⟩ := wayGo_spec right_e8 hoq _ p hop hD
  have hl := way_len e8 p q
  refine ⟨by show 0 < (way e8 p q).length; omega, rfl, ?_, fun i hi => ?_⟩
  · unfold wayOf
    have := w1 (dst e8 q p).toNat (Nat.le_refl _)
    rw [show (way e8 (p, q).1 (p, q).2).length - 1 = (dst e8 q p).toNat by dsimp only; omega]
    change dst e8 q (pt (way e8 p q) (dst e8 q p).toNat) = _ at this
    show pt (way e8 p q) _ = q
    rw [Int.sub_self] at this
    rcases dst_cases right_e8 (opn_inside hoq) (pt (way e8 p q) (dst e8 q p).toNat) with ⟨k, h3, h4⟩ | ⟨_, h4⟩
    · rw [this] at h4
      have hk : k = 0 := by omega
      subst hk
      exact h3.w.zero
    · omega
  · unfold wayOf at *
    exact (near_mem.1 (w2 i (by dsimp only at hi; omega))).1
def label (a : Pt) (x : Hose) : Int := max (man a x.1) (man a x.2)
theorem label_pair (a p q : Pt) : label a (pairOf p q) = max (man a p) (man a q) := by
  rcases pairOf_cases p q with h | h <;> rw [h] <;> unfold label <;> dsimp only
  omega
theorem ducts_e8 {a b c : Pt} (ha : InE a) (hb : InE b) (hc : InE c) : ductE e8 [(a, c), (c, b)] = 0 ∧ man a b ≤ ductN e8 [(a, c), (c, b)] ∧ ductN e8 [(a, c), (c, b)] ≤ man a c + man c b := by
  have hh : ∀ {p q : Pt}, InE p → InE q → hoseErr e8 (p, q) = 0 := fun {p q} hp hq => by
    unfold hoseErr
    have h1 := dst_e8 hq hp
    have h2 := man_nn q p
    dsimp only
    rw [cells_of (fun x hx => by simp at hx; rcases hx with rfl | rfl <;> exact opn_e8 (by assumption)), if_neg (by simp), if_neg (by omega)]
  have he : ductE e8 [(a, c), (c, b)] = 0 := (ductE_iff chk_e8 (by simp)).2 (fun i hi => by
    rcases i with _ | _ | i
    · exact hh ha hc
    · exact hh hc hb
    · simp only [List.length_cons, List.length_nil] at hi; omega)
  have hs := save_facts chk_e8 (by simp) he
  refine ⟨he, ?_, ?_⟩
  · have hN : ductN e8 [(a, c), (c, b)] = ((ductK e8 [(a, c), (c, b)] 2).length : Int) := by unfold ductN; rw [if_neg (by simp [he])]; rfl
    rw [hN]
    have hab := man_nn a b
    have hsub := nodup_sub (l := (List.range (man a b).toNat).map (fun (k : Nat) => (k : Int) + 1)) (m := (ductK e8 [(a, c), (c, b)] 2).map (label a)) (by
        unfold List.Nodup
        rw [List.pairwise_map]
        exact List.Pairwise.imp (fun h e => h (by omega)) List.nodup_range) (fun x hx => by
        obtain ⟨k, hk, rfl⟩ := List.mem_map.1 hx
        rw [List.mem_range] at hk
        rw [List.mem_map]
        by_cases h1 : (k : Int) + 1 ≤ man a c
        · have w := way_e8 ha hc
          obtain ⟨j, hj, e⟩ := cross (fun j => man a (pt (wayOf e8 (a, c)) j)) ((k : Int) + 1) ((wayOf e8 (a, c)).length - 1) (by rw [w.first, man_self]; omega) (by rw [w.last]; exact h1) (fun j hj => man_step (w.step j hj))
          exact ⟨_, (ductK_mem e8 _ _ 2).2 ⟨0, by omega, j, hj, rfl⟩, by rw [label_pair]; exact e⟩
        · have w := way_e8 hc hb
          obtain ⟨j, hj, e⟩ := cross (fun j => man a (pt (wayOf e8 (c, b)) j)) ((k : Int) + 1) ((wayOf e8 (c, b)).length - 1) (by rw [w.first]; omega) (by rw [w.last]; omega) (fun j hj => man_step (w.step j hj))
          exact ⟨_, (ductK_mem e8 _ _ 2).2 ⟨1, by omega, j, hj, rfl⟩, by rw [label_pair]; exact e⟩)
    simp only [List.length_map, List.length_range] at hsub
    omega
  · have h1 := hs.le
    have h2 := (len_e8 ha hc).2
    have h3 := (len_e8 hc hb).2
    have h4 : sumK e8 [(a, c), (c, b)] 2 = 0 + lenN e8 a c + lenN e8 c b := rfl
    change _ ≤ sumK e8 _ 2 at h1
    omega

theorem med (a b c : Int) : ∃ m, (m = a ∨ m = b ∨ m = c) ∧ 2 * (ab a m + ab b m + ab c m) = ab a b + ab b c + ab a c := by
  unfold ab
  by_cases h1 : a ≤ b
  · by_cases h2 : b ≤ c
    · exact ⟨b, by omega, by omega⟩
    · by_cases h3 : a ≤ c
      · exact ⟨c, by omega, by omega⟩
      · exact ⟨a, by omega, by omega⟩
  · by_cases h2 : a ≤ c
    · exact ⟨a, by omega, by omega⟩
    · by_cases h3 : b ≤ c
      · exact ⟨c, by omega, by omega⟩
      · exact ⟨b, by omega, by omega⟩
theorem meet_e8 {a b c : Pt} (ha : InE a) (hb : InE b) (hc : InE c) : meetE e8 a b c = 0 ∧ 2 * meetN e8 a b c = man a b + man b c + man a c := by
  have hg : givenErr e8 [a, b, c] = 0 := given_of chk_e8 (fun x hx => by simp at hx; rcases hx with rfl | rfl | rfl <;> exact opn_e8 (by assumption))
  have dab := dst_e8 ha hb
  have dac := dst_e8 ha hc
  have nab := man_nn a b
  have nac := man_nn a c
  have hbad : meetBad e8 a b c = false := by unfold meetBad; simp; omega
  have he : meetE e8 a b c = 0 := by unfold meetE; rw [if_neg (by simp [hg]), if_neg (by simp [hbad])]
  have hm := meet_facts he
  refine ⟨he, ?_⟩
  have h2 := hm.two
  rw [(len_e8 ha hb).2, (len_e8 hb hc).2, (len_e8 hc ha).2, man_symm c a] at h2
  have eN : meetN e8 a b c = (meetV e8 a b c).1 := by unfold meetN; rw [if_neg (by simp [hg]), if_neg (by simp [hbad])]
  obtain ⟨m1, k1, k2⟩ := med a.1 b.1 c.1
  obtain ⟨m2, k3, k4⟩ := med a.2 b.2 c.2
  have hx : InE (m1, m2) := by
    unfold InE at *
    dsimp only
    omega
  have hall : ∀ x, 0 ≤ dst e8 a x → 0 ≤ dst e8 b x ∧ 0 ≤ dst e8 c x := fun x h => ⟨(dst_tri right_e8 (opn_inside (opn_e8 hb)) (opn_inside (opn_e8 ha)) (by rw [dst_e8 hb ha]; exact man_nn _ _) h).1, (dst_tri right_e8 (opn_inside (opn_e8 hc)) (opn_inside (opn_e8 ha)) (by rw [dst_e8 hc ha]; exact man_nn _ _) h).1⟩
  have hs := meetK_spec (g := e8) (A := dst e8 a) (B := dst e8 b) (C := dst e8 c) hall (e8.rows.toNat * e8.cols.toNat)
  obtain ⟨j, hj, ej⟩ := inside_at (opn_inside (opn_e8 hx))
  have ea := dst_e8 ha hx
  have eb := dst_e8 hb hx
  have ec := dst_e8 hc hx
  have na := man_nn a (m1, m2)
  change ((meetV e8 a b c).1 = -1 ∧ _) ∨ (0 ≤ (meetV e8 a b c).1 ∧ _ ∧ _ ∧ ∀ j, j < e8.rows.toNat * e8.cols.toNat → 0 ≤ dst e8 a (cellAt e8 j) → (meetV e8 a b c).1 ≤ dst e8 a (cellAt e8 j) + dst e8 b (cellAt e8 j) + dst e8 c (cellAt e8 j)) at hs
  rcases hs with ⟨_, h⟩ | ⟨_, _, _, h⟩
  · have := h j hj
    rw [ej] at this
    omega
  · have := h j hj
    rw [ej, ea, eb, ec, ← eN] at this
    have := this na
    unfold man at this h2 ⊢
    dsimp only at this
    omega
end Go.Proofs.Ytechakkdcllgoaa
