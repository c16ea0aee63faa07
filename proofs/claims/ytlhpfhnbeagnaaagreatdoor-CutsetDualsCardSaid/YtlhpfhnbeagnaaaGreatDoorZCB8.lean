/- Steps of the proof: Cut9, CPrb, CLik, CImp, CSam, CPre, COf. No conditions. -/
import Derived.Laws.ResultCell
import Derived.Deep.Slices
import Derived.Test.YtlhpfhnbeagnaaaGreatDoorZCB1
import Derived.Test.YtlhpfhnbeagnaaaGreatDoorZCB2
import Derived.Test.YtlhpfhnbeagnaaaGreatDoorZCB3
import Derived.Test.YtlhpfhnbeagnaaaGreatDoorZCB4
import Derived.Test.YtlhpfhnbeagnaaaGreatDoorZCB5
import Derived.Test.YtlhpfhnbeagnaaaGreatDoorZCB6
import Derived.Test.YtlhpfhnbeagnaaaGreatDoorZCB7
namespace Go.Proofs.YtlhpfhnbeagnaaaGreatDoor
open Go.Lib (decDigits itoa)
structure LikS (t : Tr) (p : List Txt) (i : Nat) (g : Nat → Rat) (D : Nat) : Prop where
  lk : lkQ (pQ p) i g = likQ t (pQ p)
  div : ∀ s, s < 2 ^ i → DivD D D (g s)
  le : D * prodE (denP p) i ≤ 10 ^ 25
theorem LikS.start {n : Nat} {t : Tr} {p : List Txt} (h : ProbL n p) (ht : t.ev.toNat = n) : LikS t p n (topQ t) 1 :=
  ⟨by unfold likQ; rw [ht], fun s _ => top_div t s, by rw [Nat.one_mul]; exact h.prod (Nat.le_refl _)⟩
theorem prodE_pos {E : Nat → Nat} : ∀ n, (∀ i, i < n → 0 < E i) → 0 < prodE E n := by
  intro n
  induction n with
  | zero => intro _; exact Nat.one_pos
  | succ n ih => intro h; exact Nat.mul_pos (ih fun i hi => h i (by omega)) (h n (by omega))
theorem LikS.bd {n : Nat} {t : Tr} {p : List Txt} (h : ProbL n p) {i : Nat} (hi : i ≤ n) {g : Nat → Rat} {D : Nat} (k : LikS t p i g D) : D ≤ 10 ^ 25 := by
  have h0 : 0 < prodE (denP p) i := prodE_pos i fun j hj => (h.at (by omega)).2.2.2.1.1
  have h1 : D * 1 ≤ D * prodE (denP p) i := Nat.mul_le_mul_left _ h0
  have := k.le
  omega
theorem LikS.good {n : Nat} {t : Tr} {p : List Txt} (h : ProbL n p) {i : Nat} (hi : i ≤ n) {g : Nat → Rat} {D : Nat} (k : LikS t p i g D) {s : Nat} (hs : s < 2 ^ i) : Good 26 (fracT (g s)) (g s) := by
  have hb : D < 10 ^ 26 := Nat.lt_of_le_of_lt (k.bd h hi) (by decide)
  exact (Good.of ((k.div s hs).fit hb hb) (by omega)).2
theorem Good.mono {K L : Nat} {s : Txt} {q : Rat} (h : Good K s q) (hk : K ≤ L) : Good L s q := ⟨h.ok, h.val, h.fit.mono hk⟩
theorem half_lt {i s : Nat} (h : s < 2 ^ i) : s < 2 ^ (i + 1) ∧ s + 2 ^ i < 2 ^ (i + 1) := by
  rw [Nat.pow_succ]
  omega
theorem LikS.bet {n : Nat} {t : Tr} {p : List Txt} (h : ProbL n p) {i : Nat} (hi : i < n) {g : Nat → Rat} {D : Nat} (k : LikS t p (i + 1) g D) {s : Nat} (hs : s < 2 ^ i) :
    BetS (fracT (g s)) (fracT (g (s + 2 ^ i))) (p.getD i []) (g s) (g (s + 2 ^ i)) (pQ p i) := by
  obtain ⟨_, _, gp, dp, bp⟩ := h.at hi
  obtain ⟨s1, s2⟩ := half_lt hs
  refine bet_good ((k.good h hi s1).mono (by omega)) ((k.good h hi s2).mono (by omega)) (gp.mono (by omega)) (k.div s s1) (k.div _ s2) dp ?_
  have := Nat.mul_le_mul (k.bd h hi) (Nat.le_of_lt bp)
  rw [← Nat.pow_add] at this
  exact Nat.lt_of_le_of_lt this (by decide)
theorem LikS.step {n : Nat} {t : Tr} {p : List Txt} (h : ProbL n p) {i : Nat} (hi : i < n) {g : Nat → Rat} {D : Nat} (k : LikS t p (i + 1) g D) : LikS t p i (fun s => betQ (g s) (g (s + 2 ^ i)) (pQ p i)) (D * denP p i) := by
  obtain ⟨_, _, _, dp, _⟩ := h.at hi
  refine ⟨k.lk, fun s hs => ?_, ?_⟩
  · obtain ⟨s1, s2⟩ := half_lt hs
    exact (k.div s s1).between (k.div _ s2) dp
  · have := k.le
    unfold prodE at this
    rw [Nat.mul_assoc, Nat.mul_comm (denP p i)]
    exact this
theorem LikS.end {t : Tr} {p : List Txt} {g : Nat → Rat} {D : Nat} (k : LikS t p 0 g D) : fracT (g 0) = likT t p := by
  unfold likT
  rw [← k.lk]
  rfl
theorem topT (t : Tr) (s : Nat) : fracT (topQ t s) = if topB t s = true then [49] else [48] := by
  unfold topQ
  split
  · decide +kernel
  · decide +kernel
end Go.Proofs.YtlhpfhnbeagnaaaGreatDoor
namespace Go.Proofs.YtlhpfhnbeagnaaaGreatDoor
open Go.RowKit
open Go.Lib (decDigits itoa)
theorem len_fr {a : Txt} (h : fracE a = 0) : a.length ≤ 400 := by
  obtain ⟨h1, h2, h3, h4, h5, _, _⟩ := frac_parts h
  have hb : (bareS (topS a)).length ≤ 60 := by
    rw [← canon_back h1.1]
    rw [intV_abs] at h2
    exact (digits_len_le _ 60 (by omega)).2 h2
  have hd : (lowS a).length ≤ 60 := by
    rw [← canon_back h3]
    exact (digits_len_le _ 60 (by omega)).2 h5
  have ht : (topS a).length ≤ (bareS (topS a)).length + 1 := by
    unfold bareS
    split
    · rw [List.length_tail]; omega
    · omega
  by_cases hs : 47 ∈ a
  · have e := congrArg List.length (split_some hs)
    rw [List.length_append, List.length_cons] at e
    omega
  · have e := (split_none hs).1
    rw [e] at ht hb
    have : (topS a).length = a.length := by rw [e]
    omega
theorem sign_neg (q : Rat) : q.num.sign < 0 ↔ q < 0 := by
  rw [Int.sign_neg_iff, ← Rat.not_le, ← Rat.num_nonneg]
  omega
theorem sign_pos (q : Rat) : 0 < q.num.sign ↔ 0 < q := by
  rw [Int.sign_pos_iff]
  have h : 0 ≤ -q ↔ 0 ≤ (-q).num := Rat.num_nonneg.symm
  rw [Rat.neg_num] at h
  constructor
  · intro g
    refine Rat.not_le.1 fun h2 => ?_
    have := h.1 (by grind)
    omega
  · intro g
    refine Int.not_le.1 fun h2 => ?_
    have := h.2 (by omega)
    exact absurd g (Rat.not_lt.2 (by grind))
theorem cmp_zero {x : Txt} (h : fracE x = 0) : ∃ z, cmpS x [48] = (z, 0) ∧ (z < 0 ↔ fracQ x < 0) := by
  refine ⟨(fracQ x - fracQ [48]).num.sign, ?_, ?_⟩
  · unfold cmpS ifOk
    rw [if_pos (bothE_zero h zero_good.ok)]
  · rw [sign_neg, fracQ_zero]
    constructor <;> intro g <;> grind
theorem cmp_one {x : Txt} (h : fracE x = 0) : ∃ z, cmpS x [49] = (z, 0) ∧ (0 < z ↔ 1 < fracQ x) := by
  refine ⟨(fracQ x - fracQ [49]).num.sign, ?_, ?_⟩
  · unfold cmpS ifOk
    rw [if_pos (bothE_zero h one_good.ok)]
  · rw [sign_pos, fracQ_one]
    constructor <;> intro g <;> grind
theorem numE_at {l : List Txt} {k : Nat} (h : k < l.length) : numE (l.drop k) = if fracE (l.getD k []) ≠ 0 then fracE (l.getD k []) else if fracQ (l.getD k []) < 0 ∨ 1 < fracQ (l.getD k []) then 2 else numE (l.drop (k + 1)) := by
  rw [drop_txt h]; rfl
theorem chance_a {t : Tr} {p : List Txt} (h : treeE t ≠ 0) : chanceE t p = treeE t := if_pos h
theorem chance_b {t : Tr} {p : List Txt} (h : treeE t = 0) (h2 : (p.length : Int) ≠ t.ev) : chanceE t p = 8 := by unfold chanceE; rw [if_neg (not_not_intro h), if_pos h2]
theorem chance_c {t : Tr} {p : List Txt} (h : treeE t = 0) (h2 : (p.length : Int) = t.ev) : chanceE t p = numE p := by unfold chanceE; rw [if_neg (not_not_intro h), if_neg (not_not_intro h2)]
set_option maxHeartbeats 4000000 in
set_option maxRecDepth 100000 in
theorem cRight_any {t : Tr} {a la : Option Addr} {cap lc : Nat} {l : List Txt} {w : World} (hG : Glob w) (ht : TreeG w t a cap) (hc : CellsT w la l) (hl : l.length ≤ maxLen) (hs : ∀ x ∈ l, x.length ≤ 400) :
    Calls Tryz.prog 63 #[treeV t a cap, .slice la l.length lc] w fun e w' => e = .returned (.int .i64 (chanceE t l : Nat)) ∧ Ext w w' := by
  have HK := Lib.hid (fun W (hW : Ext w W) => cCheck_any (ht.ext hW))
  have HG := Lib.hid hG
  have HC := Lib.hid hc
  have HA := Lib.hid (fun k (hk : k < l.length) W (hW : Ext w W) => check_any (l.getD k []) W (hG.ext hW) (hs _ (mem_txt hk)))
  have HZ := Lib.hid (fun k (hk : k < l.length) W (hW : Ext w W) => compareF_any (l.getD k []) [48] W (hG.ext hW) (hs _ (mem_txt hk)) (by simp))
  have HO := Lib.hid (fun k (hk : k < l.length) W (hW : Ext w W) => compareF_any (l.getD k []) [49] W (hG.ext hW) (hs _ (mem_txt hk)) (by simp))
  obtain ⟨r, hr⟩ : ∃ r, ((chanceE t l : Nat) : Int) = r := ⟨_, rfl⟩
  rw [hr]
  have H1 : Hid (treeE t ≠ 0 → ((treeE t : Nat) : Int) = r) := fun h => by rw [← hr, chance_a h]
  have H2 : Hid (treeE t = 0 → (l.length : Int) ≠ t.ev → (8 : Int) = r) := fun h h2 => by rw [← hr, chance_b h h2]; rfl
  have H3 : Hid (treeE t = 0 → (l.length : Int) = t.ev → ((numE (l.drop 0) : Nat) : Int) = r) := fun h h2 => by rw [← hr, chance_c h h2]; rfl
  unfold treeV at HK ⊢
  obtain ⟨n, hn⟩ : ∃ n, n = l.length := ⟨_, rfl⟩
  rw [← hn] at H2 H3 hl HA HZ HO ⊢
  have HN := Lib.hid hn
  have hn2 : n ≤ 9223372036854775807 := by unfold maxLen at hl; omega
  generalize t.gates.length = gn at HK ⊢
  obtain ⟨ev, hev⟩ : ∃ ev, ev = t.ev := ⟨_, rfl⟩
  rw [← hev] at HK H2 H3 ⊢
  generalize treeE t = er at HK H1 H2 H3
  have y0 : (w.alloc (.cells #[.int .i64 ev, .slice a gn cap] 24)).cell? ⟨w.heap.size, 0, none⟩ = some (.int .i64 ev) := by rw [World.cell?_alloc_new]; rfl
  have y1 : (w.alloc (.cells #[.int .i64 ev, .slice a gn cap] 24)).cell? ⟨w.heap.size, 1, none⟩ = some (.slice a gn cap) := by rw [World.cell?_alloc_new]; rfl
  have E0 : Ext w (w.alloc (.cells #[.int .i64 ev, .slice a gn cap] 24)) := extA
  unfold IntP at HZ HO
  clear hr hc hn hl hG ht hs hev
  go_enter Tryz.func63, Tryz.ntmps63
  go_wp2_with fail
  generalize (w.alloc (.cells #[.int .i64 ev, .slice a gn cap] 24)) = W at y0 y1 E0 ⊢
  refine (HK.out _ E0).mono ?_
  rintro e w1 ⟨rfl, hE⟩
  have E1 := E0.trans hE
  replace y0 := hE.cell y0
  replace y1 := hE.cell y1
  clear hE HK
  by_cases h0 : er = 0
  case neg =>
    have HX := Lib.hid (H1.out h0)
    have k5 : ((er : Int) != 0) = true := by rw [bne_iff_ne]; omega
    clear H1 H2 H3 h0
    go_wp2
    go_ret
    exact ⟨ret_int HX.out, E1⟩
  have H2X := Lib.hid (H2.out h0)
  have H3X := Lib.hid (H3.out h0)
  subst h0
  clear H1 H2 H3
  by_cases h1 : (n : Int) = ev
  case neg =>
    have HX := Lib.hid (H2X.out h1)
    have k5 : ((n : Int) != ev) = true := by rw [bne_iff_ne]; exact h1
    clear H2X H3X
    go_wp2
    go_ret
    exact ⟨ret_int HX.out, E1⟩
  have HX := Lib.hid (H3X.out h1)
  have k5 : ((n : Int) != ev) = false := by simp [h1]
  clear H2X H3X h1 y1
  go_wp2
  clear y0
  go_loopw [25] (fun x wr => ∃ k : Nat, k ≤ n ∧ x = .int .i64 k ∧ Hid (((numE (l.drop k) : Nat) : Int) = r) ∧ Ext w1 wr) (fun x _ => n - (intOf x).toNat)
  case atStart => exact ⟨0, Nat.zero_le _, rfl, HX, Ext.refl _⟩
  case round =>
    obtain ⟨k, hk, rfl, hz, he⟩ := hrel
    have EK := E1.trans he
    by_cases hlt : k < n
    · have hlt' : (k : Int) < (n : Int) := by omega
      have hll : k < l.length := by rw [← HN.out]; exact hlt
      obtain ⟨b, off, rfl, c1⟩ := HC.out.ext EK k hll
      have hst := hz.out
      rw [numE_at hll] at hst
      have HAX := Lib.hid (HA.out k hlt)
      have HZX := Lib.hid (HZ.out k hlt)
      have HOX := Lib.hid (HO.out k hlt)
      clear hz
      generalize l.getD k [] = x at c1 hst HAX HZX HOX
      by_cases hx : fracE x = 0
      case neg =>
        rw [if_pos hx] at hst
        have HS := Lib.hid hst
        have k6 : (((fracE x : Nat) : Int) != 0) = true := by rw [bne_iff_ne]; omega
        clear hst hx HZX HOX
        generalize ((fracE x : Nat) : Int) = e1 at k6 HS HAX
        go_wp2_with fail
        refine (HAX.out _ EK).mono ?_
        rintro e w2 ⟨rfl, hE⟩
        go_wp2
        go_ret
        exact ⟨ret_int HS.out, EK.trans hE⟩
      rw [if_neg (not_not_intro hx)] at hst
      obtain ⟨z0, hz0, iz0⟩ := cmp_zero hx
      obtain ⟨z1, hz1, iz1⟩ := cmp_one hx
      rw [hx] at HAX
      rw [hz0] at HZX
      rw [hz1] at HOX
      have hbad : z0 < 0 ∨ 0 < z1 → (2 : Int) = r := fun h => by rw [if_pos (h.imp iz0.1 iz1.1)] at hst; exact hst
      have hgood : ¬ z0 < 0 → ¬ 0 < z1 → ((numE (l.drop (k + 1)) : Nat) : Int) = r := fun g1 g2 => by rw [if_neg fun h => h.elim (fun h => g1 (iz0.2 h)) (fun h => g2 (iz1.2 h))] at hst; exact hst
      have HB := Lib.hid hbad
      have HGD := Lib.hid hgood
      clear hst hx hz0 hz1 iz0 iz1 hbad hgood
      go_wp2_with fail
      refine (HAX.out _ EK).mono ?_
      rintro e w2 ⟨rfl, hE⟩
      have F2 := EK.trans hE
      go_wp2_with fail
      refine (HZX.out _ F2).mono ?_
      rintro e w3 ⟨rfl, hE3⟩
      have F3 := F2.trans hE3
      go_wp2_with fail
      refine (HOX.out _ F3).mono ?_
      rintro e w4 ⟨rfl, hE4⟩
      have F4 := F3.trans hE4
      have G4 := ((he.trans hE).trans hE3).trans hE4
      clear HAX HZX HOX hE hE3 hE4
      by_cases g1 : z0 < 0
      · have HS := Lib.hid (HB.out (.inl g1))
        clear HB HGD
        go_wp2
        go_ret
        exact ⟨ret_int HS.out, F4⟩
      by_cases g2 : 0 < z1
      · have HS := Lib.hid (HB.out (.inr g2))
        clear HB HGD
        go_wp2
        go_ret
        exact ⟨ret_int HS.out, F4⟩
      have HS := Lib.hid (HGD.out (by omega) (by omega))
      clear HB HGD
      go_wp2
      exact ⟨⟨k + 1, by omega, by go_num, HS, G4⟩, by simp [intOf]; omega⟩
    · have hke : k = n := by omega
      have hlt' : ¬ (k : Int) < (n : Int) := by omega
      have HS : Hid (0 = r) := by
        show _ = _
        rw [← hz.out, hke, HN.out, List.drop_length]
        rfl
      clear hz
      go_wp2
      go_ret
      exact ⟨ret_int HS.out, EK⟩
set_option maxHeartbeats 4000000 in
theorem between_any {s u v : Txt} {a b x : Rat} (H : BetS s u v a b x) (es : fracE s = 0) (eu : fracE u = 0) (ev : fracE v = 0) (w : World) (hG : Glob w) :
    Calls Tryz.prog 98 #[txt s, txt u, txt v] w fun e w' => e = .returned (.tuple #[txt (fracT (betQ a b x)), .int .i64 0]) ∧ Ext w w' := by
  have HS := Lib.hid (fun W (hW : Ext w W) => sub_any u s W (hG.ext hW) (len_fr eu) (len_fr es))
  have HM := Lib.hid (fun W (hW : Ext w W) => mul_any (fracT (b - a)) v W (hG.ext hW) (len_fr H.subG.ok) (len_fr ev))
  have HA := Lib.hid (fun W (hW : Ext w W) => add_any s (fracT ((b - a) * x)) W (hG.ext hW) (len_fr es) (len_fr H.mulG.ok))
  rw [H.sub] at HS
  rw [H.mul] at HM
  rw [H.add] at HA
  have HE := Lib.hid H.same
  clear H hG es eu ev
  unfold ResP at HS HM HA
  generalize fracT (betQ a b x) = r at HA HE ⊢
  generalize fracT (b - a) = d at HS HM
  generalize fracT ((b - a) * x) = m at HM HA
  by_cases hsu : s = u
  · subst hsu
    have hr := HE.out rfl
    subst hr
    have hb := beq_self_eq_true s
    clear HS HM HA HE
    go_enter Tryz.func98, Tryz.ntmps98
    go_wp2
    go_ret2
    exact ⟨rfl, Ext.refl _⟩
  · have hb : (s == u) = false := by rw [beq_eq_false_iff_ne]; exact hsu
    clear HE
    go_enter Tryz.func98, Tryz.ntmps98
    go_wp2_with fail
    refine (HS.out _ (Ext.refl _)).mono ?_
    rintro e w1 ⟨rfl, E1⟩
    go_wp2_with fail
    refine (HM.out _ E1).mono ?_
    rintro e w2 ⟨rfl, hE⟩
    have E2 := E1.trans hE
    go_wp2_with fail
    refine (HA.out _ E2).mono ?_
    rintro e w3 ⟨rfl, hE3⟩
    go_wp2
    go_ret2
    exact ⟨rfl, E2.trans hE3⟩
end Go.Proofs.YtlhpfhnbeagnaaaGreatDoor
namespace Go.Proofs.YtlhpfhnbeagnaaaGreatDoor
open Go.RowKit
open Go.Lib (decDigits itoa)
def RowT (w : World) (g m : Nat) (f : Nat → Txt) : Prop := ∀ s, s < m → w.cell? ⟨g, s, none⟩ = some (txt (f s)) ∧ w.frozen? ⟨g, s, none⟩ = false
theorem RowT.ext {A B : World} {g m : Nat} {f : Nat → Txt} (h : RowT A g m f) (e : Ext A B) : RowT B g m f := fun s hs => ⟨e.cell (h s hs).1, (Below.frozen (p := ⟨g, s, none⟩) e (cell_lt (h s hs).1)).trans (h s hs).2⟩
theorem RowT.set {w : World} {g m : Nat} {f : Nat → Txt} (h : RowT w g m f) {k : Nat} (hk : k < m) (x : Txt) {f2 : Nat → Txt} (hx : f2 k = x) (ho : ∀ s, s < m → s ≠ k → f2 s = f s) : RowT (w.setCell ⟨g, k, none⟩ (txt x)) g m f2 := fun s hs => by
  refine ⟨?_, by rw [World.frozen?_setCell]; exact (h s hs).2⟩
  by_cases e : s = k
  · subst e
    rw [hx]
    exact World.cell?_setCell_same _ _ _ (h s hs).1
  · rw [World.cell?_setCell_other _ _ _ _ (by intro e'; simp only [Addr.mk.injEq] at e'; omega), ho s hs e]
    exact (h s hs).1
theorem RowT.less {w : World} {g m m2 : Nat} {f : Nat → Txt} (h : RowT w g m f) (hm : m2 ≤ m) {f2 : Nat → Txt} (ho : ∀ s, s < m2 → f2 s = f s) : RowT w g m2 f2 := fun s hs => by rw [ho s hs]; exact h s (by omega)
theorem makeFr (n : Nat) (hn : n ≤ 100000) (w : World) : (Instr.makeSlice 42 (.int .i64 (n : Int)) (.int .i64 (n : Int))).run Tryz.prog w = .ok (.slice (some ⟨w.heap.size, 0, none⟩) n n) (w.alloc (.cells (madeCells #[.string ByteArray.empty] n) 44)) :=
  run_make_row' _ _ (.string ByteArray.empty) 16 Tryz.underlying42 infoFr rfl _ _ n (by omega) (by omega) w
theorem madeFr (w : World) (n : Nat) : RowT (w.alloc (.cells (madeCells #[.string ByteArray.empty] n) 44)) w.heap.size n (fun _ => []) := fun k hk => by
  refine ⟨?_, by simp [go_sem]⟩
  rw [World.cell?_alloc_new]
  simp [madeCells, hk, Nat.mod_one]
  rfl
def topF (t : Tr) (k s : Nat) : Txt := if s < k then fracT (topQ t s) else []
theorem topF_zero (t : Tr) (s : Nat) : topF t 0 s = [] := if_neg (by omega)
set_option maxHeartbeats 8000000 in
set_option maxRecDepth 100000 in
theorem likely_any {t : Tr} {a la : Option Addr} {cap lc n : Nat} {l : List Txt} {w : World} (hG : Glob w) (ht : TreeG w t a cap) (hok : TrOk t) (hc : CellsT w la l) (hp : ProbL n l) (hn : t.ev.toNat = n) :
    Calls Tryz.prog 64 #[treeV t a cap, .slice la l.length lc] w fun e w' => e = .returned (.tuple #[txt (likT t l), .int .i64 0]) ∧ Ext w w' := by
  obtain ⟨hev, hE1, _⟩ := hok.natE
  rw [hn] at hev hE1
  have h5 := hp.few
  have HG := Lib.hid hG
  have HC := Lib.hid hc
  have HF := Lib.hid (fun s (hs : s < 64) W (hW : Ext w W) => fails_any (ht.ext hW) hok (s := s) (by omega))
  have HP := Lib.hid hp
  have HLS := Lib.hid (LikS.start hp hn)
  have HLE := Lib.hid (fun (f : Nat → Rat) D (h : LikS t l 0 f D) => h.end)
  have hll : l.length = n := hp.len
  rw [hll]
  obtain ⟨N, hN⟩ : ∃ N, N = 2 ^ n := ⟨_, rfl⟩
  have hN32 : N ≤ 32 := by rw [hN]; exact Nat.pow_le_pow_right (n := 2) (i := n) (j := 5) (by decide) h5
  have hN1 : 1 ≤ N := by rw [hN]; exact Nat.two_pow_pos n
  have hpi : ((2 : Int) ^ n) = (N : Int) := by rw [hN, Int.natCast_pow]; rfl
  have hsh : IntKind.i64.wrap ((2 : Int) ^ n) = (N : Int) := by rw [hpi]; exact IntWalk.i64_in _ (by omega)
  have hmin : min n 64 = n := Nat.min_eq_left (by omega)
  have hmk := makeFr N (by omega)
  generalize likT t l = res at HLE ⊢
  unfold treeV at HF ⊢
  rw [hev] at HF ⊢
  generalize t.gates.length = gn at HF ⊢
  have HNH := Lib.hid hN
  have HLL := Lib.hid hll
  clear hG ht hok hc hp hn hN hpi hll hev
  have y0 : (w.alloc (.cells #[.int .i64 (n : Int), .slice a gn cap] 24)).cell? ⟨w.heap.size, 0, none⟩ = some (.int .i64 (n : Int)) := by rw [World.cell?_alloc_new]; rfl
  have y1 : (w.alloc (.cells #[.int .i64 (n : Int), .slice a gn cap] 24)).cell? ⟨w.heap.size, 1, none⟩ = some (.slice a gn cap) := by rw [World.cell?_alloc_new]; rfl
  have E0 : Ext w (w.alloc (.cells #[.int .i64 (n : Int), .slice a gn cap] 24)) := extA
  have z0 : (w.alloc (.cells #[.int .i64 (n : Int), .slice a gn cap] 24)).heap.size = w.heap.size + 1 := Array.size_push _
  go_enter Tryz.func64, Tryz.ntmps64
  go_wp2
  have R0 := madeFr (w.alloc (.cells #[.int .i64 (n : Int), .slice a gn cap] 24)) N
  have EW : Ext (w.alloc (.cells #[.int .i64 (n : Int), .slice a gn cap] 24)) ((w.alloc (.cells #[.int .i64 (n : Int), .slice a gn cap] 24)).alloc (.cells (madeCells #[.string ByteArray.empty] N) 44)) := (Ext.refl _).alloc _
  rw [z0] at R0
  generalize ((w.alloc (.cells #[.int .i64 (n : Int), .slice a gn cap] 24)).alloc (.cells (madeCells #[.string ByteArray.empty] N) 44)) = W1 at R0 EW ⊢
  generalize (w.alloc (.cells #[.int .i64 (n : Int), .slice a gn cap] 24)) = W0 at y0 y1 E0 z0 EW
  obtain ⟨g, hg⟩ : ∃ g, w.heap.size + 1 = g := ⟨_, rfl⟩
  rw [hg] at R0 z0 ⊢
  obtain ⟨bt, hbt⟩ : ∃ bt, w.heap.size = bt := ⟨_, rfl⟩
  rw [hbt] at y0 y1 ⊢
  have hbg : bt < g := by omega
  have HZ0 : Hid (W0.heap.size ≤ g) := Nat.le_of_eq z0
  have HR0 := Lib.hid R0
  clear hmk hsh hmin hg hbt z0 R0
  go_loopw [19] (fun x wr => ∃ k : Nat, k ≤ N ∧ x = .int .i64 k ∧ Hid (RowT wr g N (topF t k)) ∧ Ext W0 wr) (fun x _ => N - (intOf x).toNat)
  case atStart => exact ⟨0, Nat.zero_le _, rfl, HR0.out.less (Nat.le_refl _) (fun s _ => topF_zero t s), EW⟩
  case round =>
    clear HR0
    obtain ⟨k, hk, rfl, hR, he⟩ := hrel
    by_cases hlt : k < N
    · have hlt' : (k : Int) < (N : Int) := by omega
      obtain ⟨c1, c2⟩ := hR.out k hlt
      have zc := cell_lt c1
      dsimp only at zc
      have F1 : Ext W0 (wr.setCell ⟨g, k, none⟩ (.string ⟨#[48]⟩)) := he.set HZ0.out _
      have d0 := F1.cell y0
      have d1 := F1.cell y1
      have R1 : RowT (wr.setCell ⟨g, k, none⟩ (.string ⟨#[48]⟩)) g N (fun s => if s = k then [48] else topF t k s) := hR.out.set hlt [48] (if_pos rfl) (fun s _ hs => if_neg hs)
      have HR1 := Lib.hid R1
      have HFX := Lib.hid (HF.out k (by omega) _ (E0.trans F1))
      have hw : IntKind.u64.wrap (k : Int) = (k : Int) := by rw [IntKind.wrap_u64]; omega
      have HT := Lib.hid (topT t k)
      clear hR R1
      cases hm : topB t k
      · rw [hm] at HFX
        rw [hm, if_neg (by simp)] at HT
        have HNX : Hid (∀ s, topF t (k + 1) s = if s = k then [48] else topF t k s) := fun s => by
          unfold topF
          by_cases e : s = k
          · subst e; rw [if_pos (by omega), if_pos rfl, HT.out]
          · rw [if_neg e]
            by_cases h : s < k
            · rw [if_pos h, if_pos (by omega)]
            · rw [if_neg h, if_neg (by omega)]
        clear hm
        go_wp2_with fail
        refine HFX.out.mono ?_
        rintro e w2 ⟨rfl, hE⟩
        go_wp2
        exact ⟨⟨k + 1, hlt, by go_num, (HR1.out.ext hE).less (Nat.le_refl _) (fun s _ => HNX.out s), F1.trans hE⟩, by simp [intOf]; omega⟩
      · rw [hm] at HFX
        rw [hm, if_pos rfl] at HT
        have HNX : Hid (topF t (k + 1) k = [49] ∧ ∀ s, s < N → s ≠ k → topF t (k + 1) s = if s = k then [48] else topF t k s) := ⟨by unfold topF; rw [if_pos (by omega), HT.out], fun s _ hs => by
          unfold topF
          rw [if_neg hs]
          by_cases h : s < k
          · rw [if_pos h, if_pos (by omega)]
          · rw [if_neg h, if_neg (by omega)]⟩
        clear hm
        go_wp2_with fail
        refine HFX.out.mono ?_
        rintro e w2 ⟨rfl, hE⟩
        have F2 := F1.trans hE
        have R2 := HR1.out.ext hE
        obtain ⟨c1, c2⟩ := R2 k hlt
        have HR2 : Hid (RowT (w2.setCell ⟨g, k, none⟩ (.string ⟨#[49]⟩)) g N (topF t (k + 1))) := R2.set hlt [49] HNX.out.1 HNX.out.2
        have zc := cell_lt c1
        dsimp only at zc
        clear R2 hE HNX
        go_wp2
        exact ⟨⟨k + 1, hlt, by go_num, HR2, F2.set HZ0.out _⟩, by simp [intOf]; omega⟩
    · have hke : k = N := by omega
      have hlt' : ¬ (k : Int) < (N : Int) := by omega
      have HRN : Hid (RowT wr g N (fun s => fracT (topQ t s))) := hR.out.less (Nat.le_refl _) (fun s hs => by unfold topF; rw [if_pos (by omega)])
      have d0 := he.cell y0
      have zd := cell_lt d0
      dsimp only at zd
      have hw1 : IntKind.i64.wrap ((n : Int) - 1) = (n : Int) - 1 := IntWalk.i64_in _ (by omega)
      clear hR
      go_wp2
      clear d0 zd hw1
      go_loopw [8, 6] (fun x v wr => ∃ (j M : Nat) (z : Int) (f : Nat → Rat) (D : Nat), j ≤ n ∧ Hid (M = 2 ^ j) ∧ M ≤ N ∧ z = (j : Int) - 1 ∧ x = .int .i64 z ∧ v = .slice (some ⟨g, 0, none⟩) M N ∧ Hid (LikS t l j f D) ∧ Hid (RowT wr g M (fun s => fracT (f s))) ∧ Ext W0 wr) (fun x _ _ => (intOf x + 1).toNat)
      case atStart => exact ⟨n, k, (n : Int) - 1, topQ t, 1, Nat.le_refl _, by show k = _; rw [hke]; exact HNH.out, by omega, rfl, rfl, by rw [hke], HLS.out, by rw [hke]; exact HRN.out, he⟩
      case round =>
        clear HRN
        obtain ⟨j, M, z, f, D, hj, hM, hMN, hz, rfl, rfl, hL, hR, he⟩ := hrel
        by_cases hj0 : j = 0
        · subst hj0
          have hM1 : M = 1 := by rw [hM.out]
          have hneg : ¬ z ≥ 0 := by omega
          have hneg2 : z < 0 := by omega
          obtain ⟨c1, _⟩ := hR.out 0 (by omega)
          dsimp only at c1
          rw [HLE.out f D hL.out] at c1
          subst hM1
          clear hL hR hM
          go_wp2
          go_ret2
          exact ⟨rfl, E0.trans he⟩
        · obtain ⟨i, hi⟩ : ∃ i, j = i + 1 := ⟨j - 1, by omega⟩
          have hzi : z = (i : Int) := by omega
          have hin : i < n := by omega
          obtain ⟨H, hH⟩ : ∃ H, H = 2 ^ i := ⟨_, rfl⟩
          have hM2 : M = H + H := by rw [hM.out, hi, Nat.pow_succ, hH]; omega
          subst hi
          have HBT := Lib.hid (fun s (hs : s < H) W (hW : Ext W0 W) => between_any (hL.out.bet HP.out hin (s := s) (by rw [← hH]; exact hs)) ((hL.out.good HP.out hj (s := s) (by rw [← hM.out]; omega)).ok) ((hL.out.good HP.out hj (s := s + 2 ^ i) (by rw [← hM.out, ← hH]; omega)).ok) (HP.out.at hin).2.2.1.ok W (HG.out.ext (E0.trans hW)))
          have HLN := Lib.hid (hL.out.step HP.out hin)
          rw [← hH] at HBT HLN
          have HH := Lib.hid hH
          clear hL hH hM
          generalize hq : pQ l i = q at HBT HLN
          clear hq
          subst hzi
          clear hz
          obtain ⟨pb, po, rfl, cp⟩ := HC.out i (by rw [HLL.out]; exact hin)
          have hquo : ((M : Nat) : Int).tdiv 2 = (H : Int) := by rw [Int.tdiv_eq_ediv_of_nonneg (by omega)]; omega
          have hquo2 : (M : Int) / 2 = (H : Int) := by omega
          have hge : ((i : Int) ≥ 0) := by omega
          have HRX : Hid (RowT wr g M (fun s => if s < 0 then fracT (betQ (f s) (f (s + H)) q) else fracT (f s))) := hR.out.less (Nat.le_refl _) (fun s _ => if_neg (by omega))
          have HM2 := Lib.hid hM2
          clear hR hM2
          go_wp2
          go_loopw [44] (fun x wr => ∃ k : Nat, k ≤ H ∧ x = .int .i64 k ∧ Hid (RowT wr g M (fun s => if s < k then fracT (betQ (f s) (f (s + H)) q) else fracT (f s))) ∧ Ext W0 wr) (fun x _ => H - (intOf x).toNat)
          case atStart => exact ⟨0, Nat.zero_le _, rfl, HRX, he⟩
          case round =>
            clear HRX he
            obtain ⟨m, hm, rfl, hR, he⟩ := hrel
            have hM2 := HM2.out
            by_cases hmt : m < H
            · have hmt' : (m : Int) < (H : Int) := by omega
              obtain ⟨c1, _⟩ := hR.out m (by omega)
              obtain ⟨c2, _⟩ := hR.out (m + H) (by omega)
              dsimp only at c1 c2
              rw [if_neg (by omega)] at c1 c2
              have c3 := (E0.trans he).cell cp
              have z1 := cell_lt c1
              have z3 := cell_lt c3
              dsimp only at z1 z3
              have HB := Lib.hid (fun W (hW : Ext W0 W) => HBT.out m hmt W hW)
              have hwm : IntKind.i64.wrap ((m : Int) + (H : Int)) = ((m + H : Nat) : Int) := by rw [IntWalk.i64_in _ (by omega)]; omega
              have hmM : ((m + H : Nat) : Int) < (M : Int) := by omega
              have hin' : (i : Int) < (n : Int) := by omega
              have HNX : Hid (∀ s, s < M → s ≠ m → (if s < m + 1 then fracT (betQ (f s) (f (s + H)) q) else fracT (f s)) = (if s < m then fracT (betQ (f s) (f (s + H)) q) else fracT (f s))) := fun s _ hs => by
                by_cases h : s < m
                · rw [if_pos h, if_pos (by omega)]
                · rw [if_neg h, if_neg (by omega)]
              obtain ⟨m2, hm2⟩ : ∃ m2, m2 = m + H := ⟨_, rfl⟩
              rw [← hm2] at c2 hwm hmM HB
              have HRR := Lib.hid hR.out
              have HM3 := Lib.hid hm2
              have hmM2 : m < M := by omega
              clear hR hm2 hM2
              go_wp2
              go_region_held3 (fun w' => Sees wr w') ((repeat (first | exact Sees.refl _ | assumption | apply Sees.drew | apply Sees.alloc | (refine Sees.ext ?_ (by assumption))))) (first | (go_at_call 98; refine (HB.out _ (he.trans (by exact (show Sees wr _ by assumption).2.2))).mono ?_; rintro e w' ⟨rfl, hE⟩))
              have F := (show Sees wr _ by assumption).2.2
              have R2 := HRR.out.ext F
              obtain ⟨c4, c5⟩ := R2 m hmM2
              have zc := cell_lt c4
              dsimp only at zc
              have HR3 : Hid (RowT (w'.setCell ⟨g, m, none⟩ (txt (fracT (betQ (f m) (f m2) q)))) g M (fun s => if s < m + 1 then fracT (betQ (f s) (f (s + H)) q) else fracT (f s))) := R2.set hmM2 _ (by rw [if_pos (by omega), HM3.out]) HNX.out
              have F2 := (he.trans F).set HZ0.out (b := g) (o := m) (txt (fracT (betQ (f m) (f m2) q)))
              clear R2 HNX HRR c1 c2 c3 z1 z3
              go_wp2
              exact ⟨⟨m + 1, hmt, by go_num, HR3, F2⟩, by simp [intOf]; omega⟩
            · have hme : m = H := by omega
              have hmt' : ¬ (m : Int) < (H : Int) := by omega
              have HRH : Hid (RowT wr g H (fun s => fracT (betQ (f s) (f (s + H)) q))) := hR.out.less (by omega) (fun s hs => by rw [if_pos (by omega)])
              have hHN : H ≤ N := by omega
              have hw2 : IntKind.i64.wrap ((i : Int) - 1) = (i : Int) - 1 := IntWalk.i64_in _ (by omega)
              clear hR hM2
              go_wp2
              exact ⟨⟨i, H, (i : Int) - 1, _, _, by omega, HH, hHN, rfl, rfl, rfl, HLN, HRH, he⟩, by simp [intOf]⟩
def probT (t : Tr) (p : List Txt) : Txt := if chanceE t p = 0 then likT t p else []
theorem chance_ok {t : Tr} {p : List Txt} (h : chanceE t p = 0) : TrOk t ∧ (p.length : Int) = t.ev ∧ ∀ x ∈ p, ProbT x := by
  unfold chanceE at h
  split at h
  · rename_i h1; exact absurd h h1
  · rename_i h1
    split at h
    · cases h
    · rename_i h2
      exact ⟨treeE_ok (by omega), by omega, numE_ok h⟩
structure ShortP (t : Tr) (p : List Txt) : Prop where
  few : treeE t = 0 → t.ev ≤ 5
  short : ∀ x ∈ p, x.length ≤ 5
theorem ShortP.prob {t : Tr} {p : List Txt} (h : ShortP t p) (h0 : chanceE t p = 0) : ProbL t.ev.toNat p := by
  obtain ⟨h1, h2, h3⟩ := chance_ok h0
  have := h.few h1.err
  have := h1.e1
  exact ⟨by omega, by omega, h3, h.short⟩
set_option maxHeartbeats 2000000 in
theorem Probability_any {t : Tr} {a la : Option Addr} {cap lc : Nat} {l : List Txt} {w : World} (hG : Glob w) (ht : TreeG w t a cap) (hc : CellsT w la l) (hl : l.length ≤ maxLen) (hp : ShortP t l) :
    Calls Tryz.prog 20 #[treeV t a cap, .slice la l.length lc] w fun e w' => e = .returned (.tuple #[txt (probT t l), .int .i64 (chanceE t l : Nat)]) ∧ Ext w w' := by
  have HK := Lib.hid (fun W (hW : Ext w W) => cRight_any (lc := lc) (hG.ext hW) (ht.ext hW) (hc.ext hW) hl (fun x hx => by have := hp.short x hx; omega))
  have HL := Lib.hid (fun W (h0 : chanceE t l = 0) (hW : Ext w W) => likely_any (lc := lc) (hG.ext hW) (ht.ext hW) (chance_ok h0).1 (hc.ext hW) (hp.prob h0) rfl)
  have HR1 : Hid (chanceE t l = 0 → probT t l = likT t l) := fun h => if_pos h
  have HR2 : Hid (chanceE t l ≠ 0 → probT t l = []) := fun h => if_neg h
  generalize probT t l = r at HR1 HR2 ⊢
  generalize chanceE t l = er at HK HL HR1 HR2 ⊢
  generalize likT t l = al at HL HR1
  generalize l.length = ln at HK HL ⊢
  unfold treeV at HK HL ⊢
  generalize t.gates.length = gn at HK HL ⊢
  generalize t.ev = ev at HK HL ⊢
  have y0 : (w.alloc (.cells #[.int .i64 ev, .slice a gn cap] 24)).cell? ⟨w.heap.size, 0, none⟩ = some (.int .i64 ev) := by rw [World.cell?_alloc_new]; rfl
  have y1 : (w.alloc (.cells #[.int .i64 ev, .slice a gn cap] 24)).cell? ⟨w.heap.size, 1, none⟩ = some (.slice a gn cap) := by rw [World.cell?_alloc_new]; rfl
  have E0 : Ext w (w.alloc (.cells #[.int .i64 ev, .slice a gn cap] 24)) := extA
  clear ht hc hp hG hl
  go_enter Tryz.func20, Tryz.ntmps20
  go_wp2_with fail
  generalize (w.alloc (.cells #[.int .i64 ev, .slice a gn cap] 24)) = W at y0 y1 E0 ⊢
  refine (HK.out _ E0).mono ?_
  rintro e w1 ⟨rfl, hE⟩
  have E1 := E0.trans hE
  replace y0 := hE.cell y0
  replace y1 := hE.cell y1
  clear hE
  by_cases h0 : er = 0
  · have HLX := Lib.hid (HL.out w1 h0 E1)
    have hr := HR1.out h0
    subst hr h0
    clear HR1 HR2 HL HK
    go_wp2_with fail
    refine HLX.out.mono ?_
    rintro e w2 ⟨rfl, hE⟩
    go_wp2
    go_ret2
    exact ⟨rfl, E1.trans hE⟩
  · have hr := HR2.out h0
    subst hr
    have k5 : ((er : Int) != 0) = true := by rw [bne_iff_ne]; omega
    clear HR1 HR2 HL HK h0
    go_wp2
    go_ret2
    exact ⟨rfl, E1⟩
end Go.Proofs.YtlhpfhnbeagnaaaGreatDoor
namespace Go.Proofs.YtlhpfhnbeagnaaaGreatDoor
open Go.RowKit
open Go.Lib (decDigits itoa)
theorem CellsT.news {w : World} {b off : Nat} {l : List Txt} (h : CellsT w (some ⟨b, off, none⟩) l) : ∀ j u, (l.map txt)[j]? = some u → w.cell? ((⟨b, off, none⟩ : Addr).add j) = some u := by
  intro j u hj
  obtain ⟨hlt, rfl⟩ := List.getElem?_eq_some_iff.1 hj
  rw [List.length_map] at hlt
  obtain ⟨b', off', e, e2⟩ := h j hlt
  cases e
  rw [Addr.add_lit, e2, List.getElem_map, List.getD_eq_getElem?_getD, List.getElem?_eq_getElem hlt]
  rfl
def OwnsTx (w : World) (v : Value) (l : List Txt) : Prop := w.ownsRow 0 44 1 v l.length (l.map txt)
theorem OwnsTx.ext {A B : World} {v : Value} {l : List Txt} (h : OwnsTx A v l) (e : Ext A B) : OwnsTx B v l := rowExt h e
theorem OwnsTx.reads {A : World} {v : Value} {l : List Txt} (h : OwnsTx A v l) : ∃ a cap, v = .slice a l.length cap ∧ CellsT A a l ∧ l.length ≤ cap ∧ cap ≤ maxLen ∧ (0 < l.length → ∃ g, a = some ⟨g, 0, none⟩ ∧ v.ownBlock = some g ∧ RowT A g l.length (fun i => l.getD i [])) := by
  rcases h.2 with ⟨hv, hn⟩ | ⟨g, cap, cur, hv, hg, hh, hnc, hm, hcs, ht⟩
  · have : l = [] := List.eq_nil_of_length_eq_zero hn
    subst this
    exact ⟨none, 0, hv, (fun i hi => by simp at hi), Nat.le_refl _, by unfold maxLen; omega, fun h => by simp at h⟩
  · have hown : A.ownsRow 0 44 1 (.slice (some ⟨g, 0, none⟩) l.length cap) l.length (l.map txt) := hv ▸ h
    have key : ∀ i, i < l.length → A.cell? ⟨g, i, none⟩ = some (txt (l.getD i [])) := fun i hi => by
      have h1 := hown.cellAt i (by omega)
      rw [h1, List.getElem?_map, List.getElem?_eq_getElem hi, List.getD_eq_getElem?_getD, List.getElem?_eq_getElem hi]
      rfl
    exact ⟨some ⟨g, 0, none⟩, cap, hv, fun i hi => ⟨g, 0, rfl, by rw [Nat.zero_add]; exact key i hi⟩, hnc, hm, fun _ => ⟨g, rfl, by rw [hv]; rfl, fun i hi => ⟨key i hi, hown.frozenAt i⟩⟩⟩
theorem OwnsTx.app {w : World} {v : Value} {l : List Txt} (h : OwnsTx w v l) {x : Txt} {g : Nat} (c : Nat) (hc : w.cell? ⟨g, 0, none⟩ = some (txt x)) (hl : l.length ≤ 100000) {m : Nat} (hm : m ≤ w.heap.size) (hv : ∀ b, v.ownBlock = some b → m ≤ b) :
    ∃ v' w', (Builtin.append_ #[42, 42] 42 #[v, .slice (some ⟨g, 0, none⟩) 1 c]).run Tryz.prog w = .ok v' w' ∧ OwnsTx w' v' (l ++ [x]) ∧ App1 m w w' v v' := by
  obtain ⟨v', w', hr, h2, h3⟩ := row_app (P := Tryz.prog) Tryz.underlying42 infoFr rfl (by decide) h (x := txt x) rfl c hc hl hm hv
  refine ⟨v', w', hr, ?_, h3⟩
  unfold OwnsTx
  rw [List.length_append, List.map_append]
  exact h2
theorem copyT_run {w : World} {b off : Nat} {l : List Txt} (cap : Nat) (hc : CellsT w (some ⟨b, off, none⟩) l) (h0 : 0 < l.length) (hl : l.length ≤ 100000) :
    ∃ v' w', (Builtin.append_ #[42, 42] 42 #[.slice (some ⟨w.heap.size, 0, none⟩) 0 0, .slice (some ⟨b, off, none⟩) l.length cap]).run Tryz.prog (w.alloc (.cells #[] 44)) = .ok v' w' ∧ OwnsTx w' v' l ∧ (∀ b, v'.ownBlock = some b → w.heap.size ≤ b) ∧ Ext w w' := by
  obtain ⟨i0, hi, hi0, hi1, hi2⟩ := info_parts infoFr
  have E : Ext w (w.alloc (.cells #[] 44)) := (Ext.refl _).alloc _
  have hown : (w.alloc (.cells #[] 44)).ownsRow 0 44 1 (.slice (some ⟨w.heap.size, 0, none⟩) 0 0) 0 [] := World.ownsRow_lit w #[] 0 (Nat.zero_le _) (Nat.zero_le _) rfl
  have hv : ∀ b, (Value.slice (some ⟨w.heap.size, 0, none⟩) 0 0).ownBlock = some b → w.heap.size ≤ b := fun b hb => by have e : w.heap.size = b := Option.some.inj hb; omega
  obtain ⟨v', w', hr, h2, he⟩ := run_append1 (P := Tryz.prog) (w.alloc (.cells #[] 44)) 42 42 44 i0 (.string ByteArray.empty) 1 16 Tryz.underlying42 hi hi0 hi1 hi2 rfl (by decide) _ 0 [] hown ⟨b, off, none⟩ l.length cap h0 (l.map txt) (by simp) (hc.ext E).news (by
    intro u hu
    obtain ⟨x, _, rfl⟩ := List.mem_map.1 hu
    rfl) (by unfold maxLen; omega) (by omega)
  rw [Nat.zero_add, List.nil_append] at h2
  have hn : w.heap.size ≤ (w.alloc (.cells #[] 44)).heap.size := E.size
  exact ⟨v', w', hr, h2, he.ge hn hv, E.trans' (he.below hn hv) (Nat.le_refl _)⟩
set_option maxHeartbeats 2000000 in
set_option maxRecDepth 100000 in
theorem CloneT_any (l : List Txt) (a : Option Addr) (cap : Nat) (w : World) (hc : CellsT w a l) (h0 : 0 < l.length) (hl : l.length ≤ 1000) :
    Calls Tryz.prog 41 #[.slice a l.length cap] w fun e w' => ∃ v, e = .returned v ∧ OwnsTx w' v l ∧ (∀ b, v.ownBlock = some b → w.heap.size ≤ b) ∧ Ext w w' := by
  obtain ⟨b, off, rfl, _⟩ := hc 0 h0
  obtain ⟨v', w2, hr, hO, hB, hE⟩ := copyT_run (w := w) (l := l) cap hc h0 (by omega)
  have HR := Lib.hid hr
  have HO := Lib.hid (show _ ∧ _ ∧ _ from ⟨hO, hB, hE⟩)
  clear hr hO hB hE hc h0 hl
  generalize l.length = n at HR
  have hq : ∀ W, (binOp .eql 42 (.slice (some ⟨b, off, none⟩) n cap) (.slice none 0 0)).run Tryz.prog W = .ok (.bool false) W := fun W => Lib.run_eql_slice_nil (P := Tryz.prog) W 42 44 (some ⟨b, off, none⟩) n cap 0 0 Tryz.underlying42
  go_enter Tryz.func41, Tryz.ntmps41
  go_wp2_with (at_builtin; refine wpList_appC _ rfl _ _ 42 rfl (.slice (some ⟨w.heap.size, 0, none⟩) 0 0) (.slice (some ⟨b, off, none⟩) n cap) rfl rfl v' w2 HR.out ?_)
  go_ret
  exact ⟨v', rfl, HO.out.1, HO.out.2.1, HO.out.2.2⟩
def impL (t : Tr) (p : List Txt) (k : Nat) : List Txt := (List.range k).map (impT t p)
theorem impL_succ (t : Tr) (p : List Txt) (k : Nat) : impL t p (k + 1) = impL t p k ++ [impT t p k] := by unfold impL; rw [List.range_succ, List.map_append]; rfl
theorem impL_len (t : Tr) (p : List Txt) (k : Nat) : (impL t p k).length = k := by simp [impL]
def impsL (t : Tr) (p : List Txt) : List Txt := if chanceE t p = 0 then impL t p p.length else []
def TextsE (l : List Txt) (er : Int) (w : World) (e : Ending) (w' : World) : Prop := ∃ a cap, e = .returned (.tuple #[.slice a l.length cap, .int .i64 er]) ∧ CellsT w' a l ∧ l.length ≤ cap ∧ cap ≤ maxLen ∧ Ext w w'
structure EndsT (w : World) (g : Nat) (x y : Txt) : Prop where
  c0 : w.cell? ⟨g, 0, none⟩ = some (txt x)
  c1 : w.cell? ⟨g, 1, none⟩ = some (txt y)
  f0 : w.frozen? ⟨g, 0, none⟩ = false
  f1 : w.frozen? ⟨g, 1, none⟩ = false
theorem EndsT.ext {A B : World} {g : Nat} {x y : Txt} (h : EndsT A g x y) (e : Ext A B) : EndsT B g x y :=
  ⟨e.cell h.c0, e.cell h.c1, (Below.frozen (p := ⟨g, 0, none⟩) e (cell_lt h.c0)).trans h.f0, (Below.frozen (p := ⟨g, 1, none⟩) e (cell_lt h.c1)).trans h.f1⟩
theorem cellsT_row {w : World} {g m : Nat} {f : Nat → Txt} {l : List Txt} (h : RowT w g m f) (hm : l.length = m) (hf : ∀ i, i < m → f i = l.getD i []) : CellsT w (some ⟨g, 0, none⟩) l := fun i hi => ⟨g, 0, rfl, by rw [Nat.zero_add, ← hf i (by omega)]; exact (h i (by omega)).1⟩
theorem set_getD {l : List Txt} {k : Nat} {x : Txt} (hk : k < l.length) : (l.set k x).getD k [] = x ∧ ∀ i, i ≠ k → (l.set k x).getD i [] = l.getD i [] := by
  constructor
  · rw [List.getD_eq_getElem?_getD, List.getElem?_set_self hk]; rfl
  · intro i hi
    rw [List.getD_eq_getElem?_getD, List.getElem?_set_ne (Ne.symm hi), List.getD_eq_getElem?_getD]
set_option maxHeartbeats 8000000 in
set_option maxRecDepth 100000 in
theorem Importance_any {t : Tr} {a la : Option Addr} {cap lc : Nat} {l : List Txt} {w : World} (hG : Glob w) (ht : TreeG w t a cap) (hc : CellsT w la l) (hl : l.length ≤ maxLen) (hp : ShortP t l) :
    Calls Tryz.prog 22 #[treeV t a cap, .slice la l.length lc] w (TextsE (impsL t l) (chanceE t l : Nat) w) := by
  have HK := Lib.hid (fun W (hW : Ext w W) => cRight_any (lc := lc) (hG.ext hW) (ht.ext hW) (hc.ext hW) hl (fun x hx => by have := hp.short x hx; omega))
  have HLK := Lib.hid (fun (h0 : chanceE t l = 0) k (hk : k < l.length) (x : Txt) (hx : ProbT x) (hs : x.length ≤ 5) W (hW : Ext w W) g c (hC : CellsT W (some ⟨g, 0, none⟩) (l.set k x)) => likely_any (lc := c) (hG.ext hW) (ht.ext hW) (chance_ok h0).1 hC ((hp.prob h0).set k hx hs) rfl)
  have HCL := Lib.hid (fun W (hW : Ext w W) (h0 : 0 < l.length) (hl : l.length ≤ 1000) => CloneT_any l la lc W (hc.ext hW) h0 hl)
  have HR1 : Hid (chanceE t l = 0 → impsL t l = impL t l l.length ∧ l.length ≤ 5 ∧ 0 < l.length) := fun h => ⟨if_pos h, by have h1 := hp.prob h; have := h1.len; have := h1.few; omega, by have h1 := chance_ok h; have := h1.1.e1; omega⟩
  have HR2 : Hid (chanceE t l ≠ 0 → impsL t l = []) := fun h => if_neg h
  have HLQ : Hid (∀ k, k < l.length → ∀ x, likT t (l.set k x) = fracT (likQ t (setP (pQ l) k (fracQ x)))) := fun k hk x => by unfold likT; rw [pQ_set hk]
  have HSB := Lib.hid (fun (h0 : chanceE t l = 0) k => (imp_sub (hp.prob h0) rfl k).1)
  have HSG := Lib.hid (fun (h0 : chanceE t l = 0) k => And.intro (with_good (hp.prob h0) rfl k (x := 0) (zero_div (by decide))).2.2.ok (with_good (hp.prob h0) rfl k (x := 1) (one_div (by decide))).2.2.ok)
  have HGL := Lib.hid hG
  generalize impsL t l = rs at HR1 HR2 ⊢
  obtain ⟨er, her⟩ : ∃ er, er = chanceE t l := ⟨_, rfl⟩
  rw [← her] at HK HR1 HR2 HLK HSB HSG ⊢
  obtain ⟨n, hn⟩ : ∃ n, n = l.length := ⟨_, rfl⟩
  have HN := Lib.hid hn
  rw [← hn] at HK HLK HCL HR1 HLQ hl ⊢
  unfold treeV at HK HLK ⊢
  generalize t.gates.length = gn at HK HLK ⊢
  generalize t.ev = ev at HK HLK ⊢
  have y0 : (w.alloc (.cells #[.int .i64 ev, .slice a gn cap] 24)).cell? ⟨w.heap.size, 0, none⟩ = some (.int .i64 ev) := by rw [World.cell?_alloc_new]; rfl
  have y1 : (w.alloc (.cells #[.int .i64 ev, .slice a gn cap] 24)).cell? ⟨w.heap.size, 1, none⟩ = some (.slice a gn cap) := by rw [World.cell?_alloc_new]; rfl
  have E0 : Ext w (w.alloc (.cells #[.int .i64 ev, .slice a gn cap] 24)) := extA
  clear ht hc hp hG hl her hn
  go_enter Tryz.func22, Tryz.ntmps22
  go_wp2_with fail
  generalize (w.alloc (.cells #[.int .i64 ev, .slice a gn cap] 24)) = W at y0 y1 E0 ⊢
  refine (HK.out _ E0).mono ?_
  rintro e w1 ⟨rfl, hE⟩
  have E1 := E0.trans hE
  replace y0 := hE.cell y0
  replace y1 := hE.cell y1
  clear hE
  by_cases h0 : er = 0
  case neg =>
    have hr := HR2.out h0
    subst hr
    have k5 : ((er : Int) != 0) = true := by rw [bne_iff_ne]; omega
    clear HR1 HR2 HLK HCL HSB HSG HK h0
    go_wp2
    go_ret2
    exact ⟨none, 0, rfl, (fun i hi => by simp at hi), Nat.le_refl _, by unfold maxLen; omega, E1⟩
  obtain ⟨r1, r2, r3⟩ := HR1.out h0
  have HLK2 := Lib.hid (HLK.out h0)
  have HSB2 := Lib.hid (HSB.out h0)
  have HSG2 := Lib.hid (HSG.out h0)
  have HRS := Lib.hid r1
  subst h0
  clear HR1 HR2 HLK HSB HSG HK r1
  go_wp2
  go_loopw [25, 7] (fun x v wr => ∃ k : Nat, k ≤ n ∧ x = .int .i64 k ∧ Hid (OwnsTx wr v (impL t l k)) ∧ Hid (∀ b, v.ownBlock = some b → w1.heap.size ≤ b) ∧ Ext w1 wr) (fun x _ _ => n - (intOf x).toNat)
  case atStart => exact ⟨0, Nat.zero_le _, rfl, World.ownsRow_nil _ _ _ _, (fun b hb => by cases hb), Ext.refl _⟩
  case round =>
    obtain ⟨k, hk, rfl, hO, hB, he⟩ := hrel
    by_cases hlt : k < n
    · have hlt' : (k : Int) < (n : Int) := by omega
      obtain ⟨wo, hwo⟩ : ∃ wo, wo = wr := ⟨_, rfl⟩
      subst hwo
      obtain ⟨T0, hT0⟩ : ∃ T0, T0 = fracT (likQ t (setP (pQ l) k 0)) := ⟨_, rfl⟩
      obtain ⟨T1, hT1⟩ : ∃ T1, T1 = fracT (likQ t (setP (pQ l) k 1)) := ⟨_, rfl⟩
      have HSX := HSB2.out k
      obtain ⟨g0, g1⟩ := HSG2.out k
      have hL0 := HLQ.out k hlt [48]
      have hL1 := HLQ.out k hlt [49]
      rw [fracQ_zero] at hL0
      rw [fracQ_one] at hL1
      rw [← hT0] at HSX g0 hL0
      rw [← hT1] at HSX g1 hL1
      clear hT0 hT1
      have hT0 := hL0
      have hT1 := hL1
      have HSC := Lib.hid (fun W (hW : Ext w W) => sub_any T1 T0 W (HGL.out.ext hW) (len_fr g1) (len_fr g0))
      rw [HSX] at HSC
      have HNX := Lib.hid (impL_succ t l k)
      have HTT := Lib.hid (And.intro hT0 hT1)
      have HIL := Lib.hid (impL_len t l k)
      unfold ResP at HSC
      clear HSX hL0 hL1 g0 g1 hT0 hT1
      generalize impT t l k = d at HSC HNX
      go_wp2
      have hzb : (wo.alloc (.cells #[.string ⟨#[]⟩, .string ⟨#[]⟩] 106)).heap.size = wo.heap.size + 1 := Array.size_push _
      have b0 : (wo.alloc (.cells #[.string ⟨#[]⟩, .string ⟨#[]⟩] 106)).cell? ⟨wo.heap.size, 0, none⟩ = some (txt []) := by rw [World.cell?_alloc_new]; rfl
      have b1 : (wo.alloc (.cells #[.string ⟨#[]⟩, .string ⟨#[]⟩] 106)).cell? ⟨wo.heap.size, 1, none⟩ = some (txt []) := by rw [World.cell?_alloc_new]; rfl
      have b2 : (wo.alloc (.cells #[.string ⟨#[]⟩, .string ⟨#[]⟩] 106)).frozen? ⟨wo.heap.size, 0, none⟩ = false := by simp [go_sem]
      have b3 : (wo.alloc (.cells #[.string ⟨#[]⟩, .string ⟨#[]⟩] 106)).frozen? ⟨wo.heap.size, 1, none⟩ = false := by simp [go_sem]
      have EVV : Ext (wo.alloc (.cells #[.string ⟨#[]⟩, .string ⟨#[]⟩] 106)) ((wo.alloc (.cells #[.string ⟨#[]⟩, .string ⟨#[]⟩] 106)).alloc (.cells #[.string ⟨#[48]⟩, .string ⟨#[49]⟩] 44)) := (Ext.refl _).alloc _
      have EVB : Ext wo ((wo.alloc (.cells #[.string ⟨#[]⟩, .string ⟨#[]⟩] 106)).alloc (.cells #[.string ⟨#[48]⟩, .string ⟨#[49]⟩] 44)) := ((Ext.refl _).alloc _).alloc _
      have HEN0 : Hid (EndsT ((wo.alloc (.cells #[.string ⟨#[]⟩, .string ⟨#[]⟩] 106)).alloc (.cells #[.string ⟨#[48]⟩, .string ⟨#[49]⟩] 44)) wo.heap.size [] []) := EndsT.ext ⟨b0, b1, b2, b3⟩ EVV
      have HS0 : Hid (((wo.alloc (.cells #[.string ⟨#[]⟩, .string ⟨#[]⟩] 106)).alloc (.cells #[.string ⟨#[48]⟩, .string ⟨#[49]⟩] 44)).cell? ⟨wo.heap.size + 1, 0, none⟩ = some (.string ⟨#[48]⟩) ∧ ((wo.alloc (.cells #[.string ⟨#[]⟩, .string ⟨#[]⟩] 106)).alloc (.cells #[.string ⟨#[48]⟩, .string ⟨#[49]⟩] 44)).cell? ⟨wo.heap.size + 1, 1, none⟩ = some (.string ⟨#[49]⟩)) := ⟨by rw [← hzb, World.cell?_alloc_new]; rfl, by rw [← hzb, World.cell?_alloc_new]; rfl⟩
      clear b0 b1 b2 b3 EVV hzb
      obtain ⟨be, hbe⟩ : ∃ be, wo.heap.size = be := ⟨_, rfl⟩
      rw [hbe] at HEN0 HS0 ⊢
      have HBE := Lib.hid hbe
      clear hbe
      generalize ((wo.alloc (.cells #[.string ⟨#[]⟩, .string ⟨#[]⟩] 106)).alloc (.cells #[.string ⟨#[48]⟩, .string ⟨#[49]⟩] 44)) = V at EVB HEN0 HS0 ⊢
      go_loopw [30] (fun x wr => ∃ j : Nat, j ≤ 2 ∧ x = .int .i64 j ∧ Hid (EndsT wr be (if 0 < j then T0 else []) (if 1 < j then T1 else [])) ∧ Hid (wr.cell? ⟨be + 1, 0, none⟩ = some (.string ⟨#[48]⟩) ∧ wr.cell? ⟨be + 1, 1, none⟩ = some (.string ⟨#[49]⟩)) ∧ Ext wo wr) (fun x _ => 2 - (intOf x).toNat)
      case atStart => exact ⟨0, by omega, rfl, HEN0, HS0, EVB⟩
      case round =>
        clear HEN0 HS0 EVB
        obtain ⟨j, hj, rfl, hen, hs, hei⟩ := hrel
        have hj3 : j = 0 ∨ j = 1 ∨ j = 2 := by omega
        rcases hj3 with rfl | rfl | rfl
        · have hT0 := HTT.out.1
          have hen : Hid (EndsT wr be [] []) := hen
          clear HTT
          · have HCX := Lib.hid (HCL.out wr (E1.trans (he.trans hei)) r3 (by omega))
            obtain ⟨s0, s1⟩ := hs.out
            have zs := cell_lt s0
            dsimp only at zs
            go_wp2_with fail
            refine HCX.out.mono ?_
            rintro e w2 ⟨vq, rfl, hOq, hBq, hE⟩
            obtain ⟨qa, qc, rfl, _, hqc, hqm, hq0⟩ := hOq.reads
            obtain ⟨gq, rfl, hgb, hrow⟩ := hq0 (by rw [← HN.out]; exact r3)
            rw [← HN.out] at hrow hqc ⊢
            have hgq : wr.heap.size ≤ gq := hBq gq hgb
            obtain ⟨c1, c2⟩ := hrow k hlt
            have F1 : Ext wr (w2.setCell ⟨gq, k, none⟩ (.string ⟨#[48]⟩)) := hE.set hgq _
            have zq := cell_lt c1
            dsimp only at zq
            have hC : CellsT (w2.setCell ⟨gq, k, none⟩ (.string ⟨#[48]⟩)) (some ⟨gq, 0, none⟩) (l.set k [48]) := by
              obtain ⟨k1, k2⟩ := set_getD (l := l) (k := k) (x := [48]) (by rw [← HN.out]; exact hlt)
              refine cellsT_row (f := fun i => (l.set k [48]).getD i []) (hrow.set hlt [48] k1 (fun i _ hi => k2 i hi)) (by rw [List.length_set]; exact HN.out.symm) (fun _ _ => rfl)
            have d0 := F1.cell (hei.cell (he.cell y0))
            have d1 := F1.cell (hei.cell (he.cell y1))
            have HLX := Lib.hid (HLK2.out k hlt [48] prob_zero (by simp) _ (E1.trans ((he.trans hei).trans F1)) gq qc hC)
            rw [hT0] at HLX
            have HEN := Lib.hid (hen.out.ext F1)
            have HS2 := Lib.hid (And.intro (F1.cell s0) (F1.cell s1))
            clear hOq hBq hrow hC s0 s1 hE hgb hq0
            rw [List.length_set, ← HN.out] at HLX
            go_wp2_with fail
            generalize (w2.setCell ⟨gq, k, none⟩ (.string ⟨#[48]⟩)) = w3 at F1 d0 d1 HLX HEN HS2 ⊢
            clear c1 c2
            refine HLX.out.mono ?_
            rintro e w4 ⟨rfl, hE⟩
            have EN4 := HEN.out.ext hE
            obtain ⟨e0, e1, g0, g1⟩ := EN4
            have ze := cell_lt e0
            dsimp only at ze
            have F2 := F1.trans hE
            have HS4 := Lib.hid (And.intro (hE.cell HS2.out.1) (hE.cell HS2.out.2))
            have HNE : Hid (EndsT (w4.setCell ⟨be, 0, none⟩ (txt T0)) be T0 []) := ⟨by exact World.cell?_setCell_same _ _ _ e0, by rw [World.cell?_setCell_other _ _ _ _ (by intro e'; simp only [Addr.mk.injEq] at e'; omega)]; exact e1, by rw [World.frozen?_setCell]; exact g0, by rw [World.frozen?_setCell]; exact g1⟩
            have HNS : Hid ((w4.setCell ⟨be, 0, none⟩ (txt T0)).cell? ⟨be + 1, 0, none⟩ = some (.string ⟨#[48]⟩) ∧ (w4.setCell ⟨be, 0, none⟩ (txt T0)).cell? ⟨be + 1, 1, none⟩ = some (.string ⟨#[49]⟩)) := ⟨by rw [World.cell?_setCell_other _ _ _ _ (by intro e'; simp only [Addr.mk.injEq] at e'; omega)]; exact HS4.out.1, by rw [World.cell?_setCell_other _ _ _ _ (by intro e'; simp only [Addr.mk.injEq] at e'; omega)]; exact HS4.out.2⟩
            have F3 : Ext wo (w4.setCell ⟨be, 0, none⟩ (txt T0)) := (hei.trans F2).set (by rw [HBE.out]; exact Nat.le_refl _) _
            clear d0 d1 HEN HS2 hE F1 zq
            go_wp2
            exact ⟨⟨1, by omega, rfl, HNE, HNS, F3⟩, by simp [intOf]⟩
        · have hT1 := HTT.out.2
          have hen : Hid (EndsT wr be T0 []) := hen
          clear HTT
          · have HCX := Lib.hid (HCL.out wr (E1.trans (he.trans hei)) r3 (by omega))
            obtain ⟨s0, s1⟩ := hs.out
            have zs := cell_lt s0
            dsimp only at zs
            go_wp2_with fail
            refine HCX.out.mono ?_
            rintro e w2 ⟨vq, rfl, hOq, hBq, hE⟩
            obtain ⟨qa, qc, rfl, _, hqc, hqm, hq0⟩ := hOq.reads
            obtain ⟨gq, rfl, hgb, hrow⟩ := hq0 (by rw [← HN.out]; exact r3)
            rw [← HN.out] at hrow hqc ⊢
            have hgq : wr.heap.size ≤ gq := hBq gq hgb
            obtain ⟨c1, c2⟩ := hrow k hlt
            have F1 : Ext wr (w2.setCell ⟨gq, k, none⟩ (.string ⟨#[49]⟩)) := hE.set hgq _
            have zq := cell_lt c1
            dsimp only at zq
            have hC : CellsT (w2.setCell ⟨gq, k, none⟩ (.string ⟨#[49]⟩)) (some ⟨gq, 0, none⟩) (l.set k [49]) := by
              obtain ⟨k1, k2⟩ := set_getD (l := l) (k := k) (x := [49]) (by rw [← HN.out]; exact hlt)
              refine cellsT_row (f := fun i => (l.set k [49]).getD i []) (hrow.set hlt [49] k1 (fun i _ hi => k2 i hi)) (by rw [List.length_set]; exact HN.out.symm) (fun _ _ => rfl)
            have d0 := F1.cell (hei.cell (he.cell y0))
            have d1 := F1.cell (hei.cell (he.cell y1))
            have HLX := Lib.hid (HLK2.out k hlt [49] prob_one (by simp) _ (E1.trans ((he.trans hei).trans F1)) gq qc hC)
            rw [hT1] at HLX
            have HEN := Lib.hid (hen.out.ext F1)
            have HS2 := Lib.hid (And.intro (F1.cell s0) (F1.cell s1))
            clear hOq hBq hrow hC s0 s1 hE hgb hq0
            rw [List.length_set, ← HN.out] at HLX
            go_wp2_with fail
            generalize (w2.setCell ⟨gq, k, none⟩ (.string ⟨#[49]⟩)) = w3 at F1 d0 d1 HLX HEN HS2 ⊢
            clear c1 c2
            refine HLX.out.mono ?_
            rintro e w4 ⟨rfl, hE⟩
            have EN4 := HEN.out.ext hE
            obtain ⟨e0, e1, g0, g1⟩ := EN4
            have ze := cell_lt e0
            dsimp only at ze
            have F2 := F1.trans hE
            have HS4 := Lib.hid (And.intro (hE.cell HS2.out.1) (hE.cell HS2.out.2))
            have HNE : Hid (EndsT (w4.setCell ⟨be, 1, none⟩ (txt T1)) be T0 T1) := ⟨by rw [World.cell?_setCell_other _ _ _ _ (by intro e'; simp only [Addr.mk.injEq] at e'; omega)]; exact e0, by exact World.cell?_setCell_same _ _ _ e1, by rw [World.frozen?_setCell]; exact g0, by rw [World.frozen?_setCell]; exact g1⟩
            have HNS : Hid ((w4.setCell ⟨be, 1, none⟩ (txt T1)).cell? ⟨be + 1, 0, none⟩ = some (.string ⟨#[48]⟩) ∧ (w4.setCell ⟨be, 1, none⟩ (txt T1)).cell? ⟨be + 1, 1, none⟩ = some (.string ⟨#[49]⟩)) := ⟨by rw [World.cell?_setCell_other _ _ _ _ (by intro e'; simp only [Addr.mk.injEq] at e'; omega)]; exact HS4.out.1, by rw [World.cell?_setCell_other _ _ _ _ (by intro e'; simp only [Addr.mk.injEq] at e'; omega)]; exact HS4.out.2⟩
            have F3 : Ext wo (w4.setCell ⟨be, 1, none⟩ (txt T1)) := (hei.trans F2).set (by rw [HBE.out]; exact Nat.le_refl _) _
            clear d0 d1 HEN HS2 hE F1 zq
            go_wp2
            exact ⟨⟨2, by omega, rfl, HNE, HNS, F3⟩, by simp [intOf]⟩
        · have hen : Hid (EndsT wr be T0 T1) := hen
          obtain ⟨e0, e1, _, _⟩ := hen.out
          have ze := cell_lt e0
          dsimp only at ze
          have EI := E1.trans (he.trans hei)
          go_wp2_with fail
          refine (HSC.out _ EI).mono ?_
          rintro e w5 ⟨rfl, hE⟩
          have EA : Ext w5 (w5.alloc (.cells #[txt d] 44)) := (Ext.refl _).alloc _
          have hcd : (w5.alloc (.cells #[txt d] 44)).cell? ⟨w5.heap.size, 0, none⟩ = some (txt d) := by rw [World.cell?_alloc_new]; rfl
          have FA := (hei.trans hE).trans EA
          obtain ⟨v9, w9, hr9, hO9, hA9⟩ := (hO.out.ext FA).app (m := w1.heap.size) 1 hcd (by rw [HIL.out]; omega) ((he.trans FA).size) hB.out
          obtain ⟨va, vc, hv, _⟩ := hO.out.reads
          subst hv
          rw [← HNX.out] at hO9
          have HR9 := Lib.hid hr9
          have HO9 := Lib.hid hO9
          have HG9 := Lib.hid hA9.ge
          have F9 : Ext w1 w9 := (he.trans FA).trans' hA9.below (Nat.le_refl _)
          clear hr9 hO9 hA9 hcd EA FA e0 e1 ze hO hB
          go_wp2_with (at_builtin; refine wpList_appC _ rfl _ _ 42 rfl (.slice va (impL t l k).length vc) (.slice (some ⟨w5.heap.size, 0, none⟩) 1 1) rfl rfl v9 w9 HR9.out ?_)
          exact ⟨⟨k + 1, hlt, by go_num, HO9, HG9, F9⟩, by simp [intOf]; omega⟩
    · have hke : k = n := by omega
      have hlt' : ¬ (k : Int) < (n : Int) := by omega
      have hO2 := hO.out
      rw [hke, ← HRS.out] at hO2
      obtain ⟨ra, rc, rfl, h1, h2, h3, _⟩ := hO2.reads
      have H1 := Lib.hid h1
      clear hO hO2 h1
      go_wp2
      go_ret2
      exact ⟨ra, rc, rfl, H1.out, h2, h3, E1.trans he⟩
end Go.Proofs.YtlhpfhnbeagnaaaGreatDoor
namespace Go.Proofs.YtlhpfhnbeagnaaaGreatDoor
open Go.RowKit
theorem lexB_at {l m : List Int} {k : Nat} (h1 : k < l.length) (h2 : k < m.length) : lexB (l.drop k) (m.drop k) = if l.getD k 0 = m.getD k 0 then lexB (l.drop (k + 1)) (m.drop (k + 1)) else decide (l.getD k 0 < m.getD k 0) := by
  rw [drop_at l 0 h1, drop_at m 0 h2]; rfl
set_option maxHeartbeats 4000000 in
theorem before_any (l m : List Int) (a b : Option Addr) (ca cb : Nat) (w : World) (hl : l.length ≤ maxLen) (hc : CellsI w a l) (hm : m.length ≤ maxLen) (hd : CellsI w b m) :
    Calls Tryz.prog 73 #[.slice a l.length ca, .slice b m.length cb] w fun e w' => e = .returned (.bool (befL l m)) ∧ Ext w w' := by
  have HC := Lib.hid hc
  have HD := Lib.hid hd
  obtain ⟨r, hr⟩ : ∃ r, befL l m = r := ⟨_, rfl⟩
  rw [hr]
  have H1 : Hid (l.length ≠ m.length → decide (l.length < m.length) = r) := fun h => by rw [← hr]; unfold befL; rw [if_neg h]
  have H2 : Hid (l.length = m.length → lexB (l.drop 0) (m.drop 0) = r) := fun h => by rw [← hr]; unfold befL; rw [if_pos h]; rfl
  obtain ⟨n, hn⟩ : ∃ n, n = l.length := ⟨_, rfl⟩
  obtain ⟨n2, hn2⟩ : ∃ n, n = m.length := ⟨_, rfl⟩
  rw [← hn, ← hn2] at H1 H2 ⊢
  have HN := Lib.hid hn
  have HN2 := Lib.hid hn2
  have hb : n ≤ 9223372036854775807 := by unfold maxLen at hl; omega
  have hb2 : n2 ≤ 9223372036854775807 := by unfold maxLen at hm; omega
  clear hc hd hr hn hn2 hl hm
  go_enter Tryz.func73, Tryz.ntmps73
  by_cases h : n = n2
  case neg =>
    have hne : ((n : Int) != (n2 : Int)) = true := by rw [bne_iff_ne]; omega
    have HR := Lib.hid (H1.out h)
    clear H1 H2
    go_wp2
    go_ret
    exact ⟨ret_bool (by first | exact HR.out | (rw [← HR.out]; simp)), Ext.refl _⟩
  have HL := Lib.hid (H2.out h)
  subst h
  clear H1 H2
  go_wp2
  go_loopw [5] (fun x wr => ∃ k : Nat, k ≤ n ∧ x = .int .i64 k ∧ Hid (lexB (l.drop k) (m.drop k) = r) ∧ Ext w wr) (fun x _ => n - (intOf x).toNat)
  case atStart => exact ⟨0, Nat.zero_le _, rfl, HL, Ext.refl _⟩
  case round =>
    clear HL
    obtain ⟨k, hk, rfl, hz, he⟩ := hrel
    by_cases hlt : k < n
    · have hlt' : (k : Int) < (n : Int) := by omega
      obtain ⟨ba, oa, rfl, c1⟩ := HC.out.ext he k (by rw [← HN.out]; exact hlt)
      obtain ⟨bb, ob, rfl, c2⟩ := HD.out.ext he k (by rw [← HN2.out]; exact hlt)
      have hst := hz.out
      rw [lexB_at (by rw [← HN.out]; exact hlt) (by rw [← HN2.out]; exact hlt)] at hst
      have z1 := cell_lt c1
      have z2 := cell_lt c2
      dsimp only at z1 z2
      clear hz
      generalize l.getD k 0 = x at c1 hst
      generalize m.getD k 0 = y at c2 hst
      by_cases hxy : x = y
      · rw [if_pos hxy] at hst
        have HS := Lib.hid hst
        subst hxy
        have hq : (x != x) = false := by simp
        clear hst
        go_wp2
        go_quiet (fail)
        go_wp2
        exact ⟨⟨k + 1, by omega, by go_num, HS, extA⟩, by simp [intOf]; omega⟩
      · rw [if_neg hxy] at hst
        have HS := Lib.hid hst
        have hq : (x != y) = true := by rw [bne_iff_ne]; exact hxy
        clear hst hxy
        go_wp2
        go_quiet (fail)
        have F : Ext wr (wr.drewN nq) := (Ext.refl _).drewN nq
        have d1 := F.cell c1
        have d2 := F.cell c2
        have z1 := cell_lt d1
        have z2 := cell_lt d2
        dsimp only at z1 z2
        generalize wr.drewN nq = w2 at F d1 d2 z1 z2 ⊢
        clear c1 c2
        go_wp2
        go_quiet (fail)
        go_wp2
        go_ret
        exact ⟨ret_bool HS.out, extA⟩
    · have hke : k = n := by omega
      have hlt' : ¬ (k : Int) < (n : Int) := by omega
      have HS : Hid (false = r) := by
        show _ = _
        rw [← hz.out, hke, HN.out, List.drop_length]
        unfold lexB
        rfl
      clear hz
      go_wp2
      go_ret
      exact ⟨ret_bool HS.out, he⟩
theorem cells2_at {w : World} {a : Option Addr} {l : List (List Int)} (h : CellsII w a l) {k : Nat} (hk : k < l.length) : ∃ b off va vc, a = some ⟨b, off, none⟩ ∧ w.cell? ⟨b, off + k, none⟩ = some (.slice va (l.getD k []).length vc) ∧ CellsI w va (l.getD k []) ∧ (l.getD k []).length ≤ maxLen := by
  obtain ⟨b, off, v, h1, h2, va, vc, rfl, h4, h5, h6⟩ := h k hk
  exact ⟨b, off, va, vc, h1, h2, h4, by omega⟩
set_option maxHeartbeats 8000000 in
set_option maxRecDepth 100000 in
theorem Same_any (l m : List (List Int)) (a b : Option Addr) (ca cb : Nat) (w : World) (hl : l.length ≤ maxLen) (hc : CellsII w a l) (hm : m.length ≤ maxLen) (hd : CellsII w b m) :
    Calls Tryz.prog 50 #[.slice a l.length ca, .slice b m.length cb] w fun e w' => e = .returned (.bool (decide (l = m))) ∧ Ext w w' := by
  have HC := Lib.hid hc
  have HD := Lib.hid hd
  obtain ⟨r, hr⟩ : ∃ r, decide (l = m) = r := ⟨_, rfl⟩
  rw [hr]
  have H1 : Hid (l.length ≠ m.length → r = false) := fun h => by rw [← hr, decide_eq_false_iff_not]; exact fun e => h (by rw [e])
  have H2 : Hid (∀ k, k < l.length → l.getD k [] ≠ m.getD k [] → r = false) := fun k _ h => by rw [← hr, decide_eq_false_iff_not]; exact fun e => h (by rw [e])
  have H3 : Hid (l.length = m.length → (∀ k, k < l.length → l.getD k [] = m.getD k []) → r = true) := fun h h2 => by
    rw [← hr, decide_eq_true_eq]
    refine List.ext_getElem h fun i i1 i2 => ?_
    have := h2 i i1
    rwa [List.getD_eq_getElem?_getD, List.getElem?_eq_getElem i1, List.getD_eq_getElem?_getD, List.getElem?_eq_getElem i2] at this
  obtain ⟨n, hn⟩ : ∃ n, n = l.length := ⟨_, rfl⟩
  obtain ⟨n2, hn2⟩ : ∃ n, n = m.length := ⟨_, rfl⟩
  rw [← hn, ← hn2] at H1 H3 ⊢
  rw [← hn] at H2
  have HN := Lib.hid hn
  have HN2 := Lib.hid hn2
  have hb : n ≤ 9223372036854775807 := by unfold maxLen at hl; omega
  have hb2 : n2 ≤ 9223372036854775807 := by unfold maxLen at hm; omega
  clear hc hd hr hn hn2 hl hm
  go_enter Tryz.func50, Tryz.ntmps50
  by_cases h : n = n2
  case neg =>
    have hne : ((n : Int) != (n2 : Int)) = true := by rw [bne_iff_ne]; omega
    have HR := Lib.hid (H1.out h)
    clear H1 H2 H3
    go_wp2
    go_ret
    exact ⟨ret_bool HR.out.symm, Ext.refl _⟩
  have HL := Lib.hid (H3.out h)
  subst h
  clear H1 H3
  go_wp2
  go_loopw [5] (fun x wr => ∃ k : Nat, k ≤ n ∧ x = .int .i64 k ∧ Hid (∀ j, j < k → l.getD j [] = m.getD j []) ∧ Ext w wr) (fun x _ => n - (intOf x).toNat)
  case atStart => exact ⟨0, Nat.zero_le _, rfl, fun j hj => by omega, Ext.refl _⟩
  case round =>
    obtain ⟨k, hk, rfl, hz, he⟩ := hrel
    by_cases hlt : k < n
    · have hlt' : (k : Int) < (n : Int) := by omega
      obtain ⟨ba, oa, va, vc, rfl, c1, x1, x2⟩ := cells2_at (HC.out.ext he) (by rw [← HN.out]; exact hlt)
      obtain ⟨bb, ob, ua, uc, rfl, c2, x3, x4⟩ := cells2_at (HD.out.ext he) (by rw [← HN2.out]; exact hlt)
      have z1 := cell_lt c1
      have z2 := cell_lt c2
      dsimp only at z1 z2
      have HF := Lib.hid (H2.out k hlt)
      have HZ : Hid (l.getD k [] = m.getD k [] → ∀ j, j < k + 1 → l.getD j [] = m.getD j []) := fun h j hj => by
        rcases Nat.lt_or_eq_of_le (Nat.le_of_lt_succ hj) with h2 | rfl
        · exact hz.out j h2
        · exact h
      clear hz
      generalize l.getD k [] = x at c1 x1 x2 HF HZ
      generalize m.getD k [] = y at c2 x3 x4 HF HZ
      have HB1 := Lib.hid (fun W (hW : Ext wr W) => before_any x y va ua vc uc W x2 (x1.ext hW) x4 (x3.ext hW))
      have HB2 := Lib.hid (fun W (hW : Ext wr W) => before_any y x ua va uc vc W x4 (x3.ext hW) x2 (x1.ext hW))
      generalize x.length = xl at c1 HB1 HB2
      generalize y.length = yl at c2 HB1 HB2
      have HT : Hid (befL x y = false → befL y x = false → x = y) := befL_tri
      have HU : Hid (befL x y = true ∨ befL y x = true → x ≠ y) := fun h e => by
        subst e
        rw [befL_irr] at h
        rcases h with h | h <;> cases h
      clear x1 x2 x3 x4
      cases q1 : befL x y
      · cases q2 : befL y x
        · have HG := Lib.hid (HZ.out (HT.out q1 q2))
          rw [q1] at HB1
          rw [q2] at HB2
          clear HT HU HF HZ q1 q2
          go_wp2
          refine wp_region_heldE 99 (Ext wr) (by kernel_rfl) ?_
          have hS : Ext wr wr.drew := extA
          ((refine ePu 0 ?_); (refine ePu 1 ?_); (refine ePu 2 ?_))
          (refine wpAnyE_take (oi := ?_) (v := ?_) (i := 3) ?_ (by kernel_rfl) ?_ ?_ (by assumption) ?_; rotate_left 2; (focus ((simp only [List.getElem?_toArray, List.getElem?_cons_succ, List.getElem?_cons_zero]; exact rfl))); (focus (exact fun _ _ _ h => h)); (focus (refine Or.inl ⟨by rfl, ?_⟩; intro w hSw; have hc1 := hSw.cell c1; have zc1 := cell_lt hc1; dsimp only at zc1; (first | (go_simp; done) | (go_simp; with_reducible rfl)))); (try simp only [Act.put, List.setIfInBounds_toArray, List.set_cons_zero, List.set_cons_succ]))
          ((refine ePu 4 ?_); (refine ePu 5 ?_); (refine ePu 6 ?_))
          (refine wpAnyE_take (oi := ?_) (v := ?_) (i := 7) ?_ (by kernel_rfl) ?_ ?_ (by assumption) ?_; rotate_left 2; (focus ((simp only [List.getElem?_toArray, List.getElem?_cons_succ, List.getElem?_cons_zero]; exact rfl))); (focus (exact fun _ _ _ h => h)); (focus (refine Or.inl ⟨by rfl, ?_⟩; intro w hSw; have hc2 := hSw.cell c2; have zc2 := cell_lt hc2; dsimp only at zc2; (first | (go_simp; done) | (go_simp; with_reducible rfl)))); (try simp only [Act.put, List.setIfInBounds_toArray, List.set_cons_zero, List.set_cons_succ]))
          (refine wpAnyE_one (i := 8) (o := ?_) ?_ (by kernel_rfl) (fun K hK => ?_); rotate_left; (focus ((simp only [List.getElem?_toArray, List.getElem?_cons_succ, List.getElem?_cons_zero]; exact rfl))); go_simp; refine (HB1.out _ hS).mono ?_; rintro e v9 ⟨rfl, hE⟩; go_wp2_with fail; refine hK.out _ _ (hS.trans hE) (fun hHeld => ?_); clear hK K hHeld; (try simp only [Act.put, List.setIfInBounds_toArray, List.set_cons_zero, List.set_cons_succ]); replace hS := hS.trans hE; clear hE)
          ((refine ePu 9 ?_); (refine ePu 10 ?_); (refine ePu 11 ?_); (refine ePu 12 ?_))
          (refine wpAnyE_take (oi := ?_) (v := ?_) (i := 13) ?_ (by kernel_rfl) ?_ ?_ (by assumption) ?_; rotate_left 2; (focus ((simp only [List.getElem?_toArray, List.getElem?_cons_succ, List.getElem?_cons_zero]; exact rfl))); (focus (exact fun _ _ _ h => h)); (focus (refine Or.inl ⟨by rfl, ?_⟩; intro w hSw; have hc2 := hSw.cell c2; have zc2 := cell_lt hc2; dsimp only at zc2; (first | (go_simp; done) | (go_simp; with_reducible rfl)))); (try simp only [Act.put, List.setIfInBounds_toArray, List.set_cons_zero, List.set_cons_succ]))
          ((refine ePu 14 ?_); (refine ePu 15 ?_); (refine ePu 16 ?_))
          (refine wpAnyE_take (oi := ?_) (v := ?_) (i := 17) ?_ (by kernel_rfl) ?_ ?_ (by assumption) ?_; rotate_left 2; (focus ((simp only [List.getElem?_toArray, List.getElem?_cons_succ, List.getElem?_cons_zero]; exact rfl))); (focus (exact fun _ _ _ h => h)); (focus (refine Or.inl ⟨by rfl, ?_⟩; intro w hSw; have hc1 := hSw.cell c1; have zc1 := cell_lt hc1; dsimp only at zc1; (first | (go_simp; done) | (go_simp; with_reducible rfl)))); (try simp only [Act.put, List.setIfInBounds_toArray, List.set_cons_zero, List.set_cons_succ]))
          (refine wpAnyE_one (i := 18) (o := ?_) ?_ (by kernel_rfl) (fun K hK => ?_); rotate_left; (focus ((simp only [List.getElem?_toArray, List.getElem?_cons_succ, List.getElem?_cons_zero]; exact rfl))); go_simp; refine (HB2.out _ hS).mono ?_; rintro e v9 ⟨rfl, hE⟩; go_wp2_with fail; refine hK.out _ _ (hS.trans hE) (fun hHeld => ?_); clear hK K hHeld; (try simp only [Act.put, List.setIfInBounds_toArray, List.set_cons_zero, List.set_cons_succ]); replace hS := hS.trans hE; clear hE)
          (refine ePu 19 ?_)
          refine wpAnyE_done (by kernel_rfl) ?_ _
          go_wp2
          exact ⟨⟨k + 1, by omega, by go_num, HG.out, he.trans hS⟩, by simp [intOf]; omega⟩
        · have HG := Lib.hid (HF.out (HU.out (.inr q2)))
          rw [q1] at HB1
          rw [q2] at HB2
          clear HT HU HF HZ q1 q2
          go_wp2
          refine wp_region_heldE 99 (Ext wr) (by kernel_rfl) ?_
          have hS : Ext wr wr.drew := extA
          ((refine ePu 0 ?_); (refine ePu 1 ?_); (refine ePu 2 ?_))
          (refine wpAnyE_take (oi := ?_) (v := ?_) (i := 3) ?_ (by kernel_rfl) ?_ ?_ (by assumption) ?_; rotate_left 2; (focus ((simp only [List.getElem?_toArray, List.getElem?_cons_succ, List.getElem?_cons_zero]; exact rfl))); (focus (exact fun _ _ _ h => h)); (focus (refine Or.inl ⟨by rfl, ?_⟩; intro w hSw; have hc1 := hSw.cell c1; have zc1 := cell_lt hc1; dsimp only at zc1; (first | (go_simp; done) | (go_simp; with_reducible rfl)))); (try simp only [Act.put, List.setIfInBounds_toArray, List.set_cons_zero, List.set_cons_succ]))
          ((refine ePu 4 ?_); (refine ePu 5 ?_); (refine ePu 6 ?_))
          (refine wpAnyE_take (oi := ?_) (v := ?_) (i := 7) ?_ (by kernel_rfl) ?_ ?_ (by assumption) ?_; rotate_left 2; (focus ((simp only [List.getElem?_toArray, List.getElem?_cons_succ, List.getElem?_cons_zero]; exact rfl))); (focus (exact fun _ _ _ h => h)); (focus (refine Or.inl ⟨by rfl, ?_⟩; intro w hSw; have hc2 := hSw.cell c2; have zc2 := cell_lt hc2; dsimp only at zc2; (first | (go_simp; done) | (go_simp; with_reducible rfl)))); (try simp only [Act.put, List.setIfInBounds_toArray, List.set_cons_zero, List.set_cons_succ]))
          (refine wpAnyE_one (i := 8) (o := ?_) ?_ (by kernel_rfl) (fun K hK => ?_); rotate_left; (focus ((simp only [List.getElem?_toArray, List.getElem?_cons_succ, List.getElem?_cons_zero]; exact rfl))); go_simp; refine (HB1.out _ hS).mono ?_; rintro e v9 ⟨rfl, hE⟩; go_wp2_with fail; refine hK.out _ _ (hS.trans hE) (fun hHeld => ?_); clear hK K hHeld; (try simp only [Act.put, List.setIfInBounds_toArray, List.set_cons_zero, List.set_cons_succ]); replace hS := hS.trans hE; clear hE)
          ((refine ePu 9 ?_); (refine ePu 10 ?_); (refine ePu 11 ?_); (refine ePu 12 ?_))
          (refine wpAnyE_take (oi := ?_) (v := ?_) (i := 13) ?_ (by kernel_rfl) ?_ ?_ (by assumption) ?_; rotate_left 2; (focus ((simp only [List.getElem?_toArray, List.getElem?_cons_succ, List.getElem?_cons_zero]; exact rfl))); (focus (exact fun _ _ _ h => h)); (focus (refine Or.inl ⟨by rfl, ?_⟩; intro w hSw; have hc2 := hSw.cell c2; have zc2 := cell_lt hc2; dsimp only at zc2; (first | (go_simp; done) | (go_simp; with_reducible rfl)))); (try simp only [Act.put, List.setIfInBounds_toArray, List.set_cons_zero, List.set_cons_succ]))
          ((refine ePu 14 ?_); (refine ePu 15 ?_); (refine ePu 16 ?_))
          (refine wpAnyE_take (oi := ?_) (v := ?_) (i := 17) ?_ (by kernel_rfl) ?_ ?_ (by assumption) ?_; rotate_left 2; (focus ((simp only [List.getElem?_toArray, List.getElem?_cons_succ, List.getElem?_cons_zero]; exact rfl))); (focus (exact fun _ _ _ h => h)); (focus (refine Or.inl ⟨by rfl, ?_⟩; intro w hSw; have hc1 := hSw.cell c1; have zc1 := cell_lt hc1; dsimp only at zc1; (first | (go_simp; done) | (go_simp; with_reducible rfl)))); (try simp only [Act.put, List.setIfInBounds_toArray, List.set_cons_zero, List.set_cons_succ]))
          (refine wpAnyE_one (i := 18) (o := ?_) ?_ (by kernel_rfl) (fun K hK => ?_); rotate_left; (focus ((simp only [List.getElem?_toArray, List.getElem?_cons_succ, List.getElem?_cons_zero]; exact rfl))); go_simp; refine (HB2.out _ hS).mono ?_; rintro e v9 ⟨rfl, hE⟩; go_wp2_with fail; refine hK.out _ _ (hS.trans hE) (fun hHeld => ?_); clear hK K hHeld; (try simp only [Act.put, List.setIfInBounds_toArray, List.set_cons_zero, List.set_cons_succ]); replace hS := hS.trans hE; clear hE)
          (refine ePu 19 ?_)
          refine wpAnyE_done (by kernel_rfl) ?_ _
          go_wp2
          go_ret
          exact ⟨ret_bool HG.out.symm, he.trans hS⟩
      · have HG := Lib.hid (HF.out (HU.out (.inl q1)))
        rw [q1] at HB1
        clear HT HU HF HZ q1 HB2
        go_wp2
        refine wp_region_heldE 99 (Ext wr) (by kernel_rfl) ?_
        have hS : Ext wr wr.drew := extA
        ((refine ePu 0 ?_); (refine ePu 1 ?_); (refine ePu 2 ?_))
        (refine wpAnyE_take (oi := ?_) (v := ?_) (i := 3) ?_ (by kernel_rfl) ?_ ?_ (by assumption) ?_; rotate_left 2; (focus ((simp only [List.getElem?_toArray, List.getElem?_cons_succ, List.getElem?_cons_zero]; exact rfl))); (focus (exact fun _ _ _ h => h)); (focus (refine Or.inl ⟨by rfl, ?_⟩; intro w hSw; have hc1 := hSw.cell c1; have zc1 := cell_lt hc1; dsimp only at zc1; (first | (go_simp; done) | (go_simp; with_reducible rfl)))); (try simp only [Act.put, List.setIfInBounds_toArray, List.set_cons_zero, List.set_cons_succ]))
        ((refine ePu 4 ?_); (refine ePu 5 ?_); (refine ePu 6 ?_))
        (refine wpAnyE_take (oi := ?_) (v := ?_) (i := 7) ?_ (by kernel_rfl) ?_ ?_ (by assumption) ?_; rotate_left 2; (focus ((simp only [List.getElem?_toArray, List.getElem?_cons_succ, List.getElem?_cons_zero]; exact rfl))); (focus (exact fun _ _ _ h => h)); (focus (refine Or.inl ⟨by rfl, ?_⟩; intro w hSw; have hc2 := hSw.cell c2; have zc2 := cell_lt hc2; dsimp only at zc2; (first | (go_simp; done) | (go_simp; with_reducible rfl)))); (try simp only [Act.put, List.setIfInBounds_toArray, List.set_cons_zero, List.set_cons_succ]))
        (refine wpAnyE_one (i := 8) (o := ?_) ?_ (by kernel_rfl) (fun K hK => ?_); rotate_left; (focus ((simp only [List.getElem?_toArray, List.getElem?_cons_succ, List.getElem?_cons_zero]; exact rfl))); go_simp; refine (HB1.out _ hS).mono ?_; rintro e v9 ⟨rfl, hE⟩; go_wp2_with fail; refine hK.out _ _ (hS.trans hE) (fun hHeld => ?_); clear hK K hHeld; (try simp only [Act.put, List.setIfInBounds_toArray, List.set_cons_zero, List.set_cons_succ]); replace hS := hS.trans hE; clear hE)
        (refine ePu 9 ?_)
        ((refine wpAnyE_take (v := undef) (i := 10) (oi := ?_) ?_ (by kernel_rfl) ?_ ?_ (by assumption) ?_; rotate_left; (focus ((simp only [List.getElem?_toArray, List.getElem?_cons_succ, List.getElem?_cons_zero]; exact rfl))); (focus (exact fun _ _ _ h => h)); (focus (exact Or.inr ⟨by rfl, rfl⟩)); (try simp only [Act.put, List.setIfInBounds_toArray, List.set_cons_zero, List.set_cons_succ])); (refine wpAnyE_take (v := undef) (i := 11) (oi := ?_) ?_ (by kernel_rfl) ?_ ?_ (by assumption) ?_; rotate_left; (focus ((simp only [List.getElem?_toArray, List.getElem?_cons_succ, List.getElem?_cons_zero]; exact rfl))); (focus (exact fun _ _ _ h => h)); (focus (exact Or.inr ⟨by rfl, rfl⟩)); (try simp only [Act.put, List.setIfInBounds_toArray, List.set_cons_zero, List.set_cons_succ])); (refine wpAnyE_take (v := undef) (i := 12) (oi := ?_) ?_ (by kernel_rfl) ?_ ?_ (by assumption) ?_; rotate_left; (focus ((simp only [List.getElem?_toArray, List.getElem?_cons_succ, List.getElem?_cons_zero]; exact rfl))); (focus (exact fun _ _ _ h => h)); (focus (exact Or.inr ⟨by rfl, rfl⟩)); (try simp only [Act.put, List.setIfInBounds_toArray, List.set_cons_zero, List.set_cons_succ])); (refine wpAnyE_take (v := undef) (i := 13) (oi := ?_) ?_ (by kernel_rfl) ?_ ?_ (by assumption) ?_; rotate_left; (focus ((simp only [List.getElem?_toArray, List.getElem?_cons_succ, List.getElem?_cons_zero]; exact rfl))); (focus (exact fun _ _ _ h => h)); (focus (exact Or.inr ⟨by rfl, rfl⟩)); (try simp only [Act.put, List.setIfInBounds_toArray, List.set_cons_zero, List.set_cons_succ])); (refine wpAnyE_take (v := undef) (i := 14) (oi := ?_) ?_ (by kernel_rfl) ?_ ?_ (by assumption) ?_; rotate_left; (focus ((simp only [List.getElem?_toArray, List.getElem?_cons_succ, List.getElem?_cons_zero]; exact rfl))); (focus (exact fun _ _ _ h => h)); (focus (exact Or.inr ⟨by rfl, rfl⟩)); (try simp only [Act.put, List.setIfInBounds_toArray, List.set_cons_zero, List.set_cons_succ])); (refine wpAnyE_take (v := undef) (i := 15) (oi := ?_) ?_ (by kernel_rfl) ?_ ?_ (by assumption) ?_; rotate_left; (focus ((simp only [List.getElem?_toArray, List.getElem?_cons_succ, List.getElem?_cons_zero]; exact rfl))); (focus (exact fun _ _ _ h => h)); (focus (exact Or.inr ⟨by rfl, rfl⟩)); (try simp only [Act.put, List.setIfInBounds_toArray, List.set_cons_zero, List.set_cons_succ])); (refine wpAnyE_take (v := undef) (i := 16) (oi := ?_) ?_ (by kernel_rfl) ?_ ?_ (by assumption) ?_; rotate_left; (focus ((simp only [List.getElem?_toArray, List.getElem?_cons_succ, List.getElem?_cons_zero]; exact rfl))); (focus (exact fun _ _ _ h => h)); (focus (exact Or.inr ⟨by rfl, rfl⟩)); (try simp only [Act.put, List.setIfInBounds_toArray, List.set_cons_zero, List.set_cons_succ])); (refine wpAnyE_take (v := undef) (i := 17) (oi := ?_) ?_ (by kernel_rfl) ?_ ?_ (by assumption) ?_; rotate_left; (focus ((simp only [List.getElem?_toArray, List.getElem?_cons_succ, List.getElem?_cons_zero]; exact rfl))); (focus (exact fun _ _ _ h => h)); (focus (exact Or.inr ⟨by rfl, rfl⟩)); (try simp only [Act.put, List.setIfInBounds_toArray, List.set_cons_zero, List.set_cons_succ])); (refine wpAnyE_take (v := undef) (i := 18) (oi := ?_) ?_ (by kernel_rfl) ?_ ?_ (by assumption) ?_; rotate_left; (focus ((simp only [List.getElem?_toArray, List.getElem?_cons_succ, List.getElem?_cons_zero]; exact rfl))); (focus (exact fun _ _ _ h => h)); (focus (exact Or.inr ⟨by rfl, rfl⟩)); (try simp only [Act.put, List.setIfInBounds_toArray, List.set_cons_zero, List.set_cons_succ])))
        (refine ePu 19 ?_)
        refine wpAnyE_done (by kernel_rfl) ?_ _
        go_wp2
        go_ret
        exact ⟨ret_bool HG.out.symm, he.trans hS⟩
    · have hke : k = n := by omega
      have hlt' : ¬ (k : Int) < (n : Int) := by omega
      have HS := Lib.hid (HL.out (fun j hj => hz.out j (by omega)))
      clear hz
      go_wp2
      go_ret
      exact ⟨ret_bool HS.out.symm, he⟩
end Go.Proofs.YtlhpfhnbeagnaaaGreatDoor
namespace Go.Proofs.YtlhpfhnbeagnaaaGreatDoor
open Go.RowKit
open Go.Lib (decDigits itoa)
def press : Tr := ⟨3, [⟨0, 0, [0, 1]⟩, ⟨1, 0, [2, 3]⟩]⟩
theorem press_ok : treeE press = 0 := by decide
theorem press_all : allL press = [[2], [0, 1]] := by decide +kernel
theorem press_least : leastN press = 1 := by decide +kernel
def pressP : List Txt := [[49, 47, 49, 48], [49, 47, 49, 48], [49, 47, 49, 48, 48]]
theorem pressP_ok : chanceE press pressP = 0 := by decide +kernel
theorem pressP_lik : likT press pressP = [49, 57, 57, 47, 49, 48, 48, 48, 48] := by decide +kernel
theorem pressP_imp : impT press pressP 2 = [57, 57, 47, 49, 48, 48] := by decide +kernel
theorem cellsI_two {w : World} {b : Nat} {x y : Int} (h0 : w.cell? ⟨b, 0, none⟩ = some (.int .i64 x)) (h1 : w.cell? ⟨b, 1, none⟩ = some (.int .i64 y)) : CellsI w (some ⟨b, 0, none⟩) [x, y] := fun i hi => by
  rcases i with _ | _ | i
  · exact ⟨b, 0, rfl, h0⟩
  · exact ⟨b, 0, rfl, h1⟩
  · simp only [List.length_cons, List.length_nil] at hi
    omega
theorem cellsI_one {w : World} {b : Nat} {x : Int} (h0 : w.cell? ⟨b, 0, none⟩ = some (.int .i64 x)) : CellsI w (some ⟨b, 0, none⟩) [x] := fun i hi => by
  rcases i with _ | i
  · exact ⟨b, 0, rfl, h0⟩
  · simp only [List.length_cons, List.length_nil] at hi
    omega
theorem cellsG_two {w : World} {b : Nat} {k1 n1 k2 n2 : Int} {l1 l2 : List Int} {v1 v2 : Value} (h0 : w.cell? ⟨b, 0, none⟩ = some (.int .i64 k1)) (h1 : w.cell? ⟨b, 1, none⟩ = some (.int .i64 n1)) (h2 : w.cell? ⟨b, 2, none⟩ = some v1) (h3 : w.cell? ⟨b, 3, none⟩ = some (.int .i64 k2)) (h4 : w.cell? ⟨b, 4, none⟩ = some (.int .i64 n2)) (h5 : w.cell? ⟨b, 5, none⟩ = some v2) (s1 : SliceI w v1 l1) (s2 : SliceI w v2 l2) :
    CellsG w (some ⟨b, 0, none⟩) [⟨k1, n1, l1⟩, ⟨k2, n2, l2⟩] := fun i hi => by
  rcases i with _ | _ | i
  · exact ⟨b, 0, v1, rfl, h0, h1, h2, s1⟩
  · exact ⟨b, 0, v2, rfl, h3, h4, h5, s2⟩
  · simp only [List.length_cons, List.length_nil] at hi
    omega
set_option maxHeartbeats 2000000 in
set_option maxRecDepth 100000 in
theorem Press_any (w : World) : Calls Tryz.prog 53 #[] w fun e w' => ∃ a, e = .returned (treeV press a 2) ∧ TreeG w' press a 2 ∧ Ext w w' := by
  go_enter Tryz.func53, Tryz.ntmps53
  go_wp2
  refine bodyPost_ret (v := .agg #[.int .i64 3, .slice (some ⟨w.heap.size + 1 + 1 + 1, 0, none⟩) 2 2]) (by rw [results_cell1 rfl]; go_simp) rfl ?_
  refine ⟨some ⟨w.heap.size + 1 + 1 + 1, 0, none⟩, rfl, ⟨?_, Nat.le_refl _, by unfold maxLen; omega⟩, extA⟩
  exact cellsG_two (v1 := .slice (some ⟨w.heap.size + 1, 0, none⟩) 2 2) (v2 := .slice (some ⟨w.heap.size + 1 + 1, 0, none⟩) 2 2) (by go_simp) (by go_simp) (by go_simp) (by go_simp) (by go_simp) (by go_simp)
    ⟨some ⟨w.heap.size + 1, 0, none⟩, 2, rfl, cellsI_two (by go_simp) (by go_simp), Nat.le_refl _, by unfold maxLen; omega⟩ ⟨some ⟨w.heap.size + 1 + 1, 0, none⟩, 2, rfl, cellsI_two (by go_simp) (by go_simp), Nat.le_refl _, by unfold maxLen; omega⟩
theorem press_cuts : cutsL press = [[2], [0, 1]] := by unfold cutsL; rw [if_pos press_ok, press_all]
theorem press_prob : probT press pressP = [49, 57, 57, 47, 49, 48, 48, 48, 48] := by unfold probT; rw [if_pos pressP_ok, pressP_lik]
theorem press_imps : ∃ x y, impsL press pressP = [x, y, [57, 57, 47, 49, 48, 48]] := by
  unfold impsL
  rw [if_pos pressP_ok]
  exact ⟨impT press pressP 0, impT press pressP 1, by rw [show pressP.length = 3 from rfl]; unfold impL; show [impT press pressP 0, impT press pressP 1, impT press pressP 2] = _; rw [pressP_imp]⟩
theorem press_lz : leastZ press = 1 := by unfold leastZ; rw [if_pos press_ok, press_least]
theorem press_fb : failsB press [0, 1] = true ∧ givenE press [0, 1] = 0 := by decide +kernel
theorem press_vf : verifyE press [0, 2] = 15 := by decide +kernel
theorem press_short : ShortP press pressP := ⟨fun _ => by decide, by decide⟩
theorem cellsT_three {w : World} {b : Nat} {x y z : Txt} (h0 : w.cell? ⟨b, 0, none⟩ = some (txt x)) (h1 : w.cell? ⟨b, 1, none⟩ = some (txt y)) (h2 : w.cell? ⟨b, 2, none⟩ = some (txt z)) : CellsT w (some ⟨b, 0, none⟩) [x, y, z] := fun i hi => by
  rcases i with _ | _ | _ | i
  · exact ⟨b, 0, rfl, h0⟩
  · exact ⟨b, 0, rfl, h1⟩
  · exact ⟨b, 0, rfl, h2⟩
  · simp only [List.length_cons, List.length_nil] at hi
    omega
set_option maxHeartbeats 16000000 in
set_option maxRecDepth 100000 in
theorem awakeC_any (w : World) (hG : Glob w) (hT : TabC w) : Calls Tryz.prog 11 #[] w fun e w' => e = .returned (.bool true) ∧ Ext w w' := by
  have X1 := Lib.hid (fun W a (g : Ext w W) (h : TreeG W press a 2) => Cuts_any h (tabC_ext hT g))
  have X2 := Lib.hid (fun W a b (g : Ext w W) (h : TreeG W press a 2) (hc : CellsT W b pressP) => Probability_any (lc := 3) (hG.ext g) h hc (by decide) press_short)
  have X3 := Lib.hid (fun W a b (g : Ext w W) (h : TreeG W press a 2) (hc : CellsT W b pressP) => Importance_any (lc := 3) (hG.ext g) h hc (by decide) press_short)
  have X4 := Lib.hid (fun W a (h : TreeG W press a 2) => Least_any h (fun _ => by decide))
  have X5 := Lib.hid (fun W a b (h : TreeG W press a 2) (hc : CellsI W b [0, 1]) => Fails_any (lc := 2) h hc (by decide))
  have X6 := Lib.hid (fun W a b (g : Ext w W) (h : TreeG W press a 2) (hc : CellsI W b [0, 2]) => Verify_any (lc := 2) h hc (by decide) (tabC_ext hT g))
  have X7 := Lib.hid (fun W a b (hc : CellsII W a [[2], [0, 1]]) (hd : CellsII W b [[2], [0, 1]]) ca => Same_any [[2], [0, 1]] [[2], [0, 1]] a b ca 2 W (by decide) hc (by decide) hd)
  rw [press_cuts, press_ok] at X1
  rw [press_prob, pressP_ok] at X2
  rw [pressP_ok] at X3
  obtain ⟨ix, iy, hix⟩ := press_imps
  rw [hix] at X3
  rw [press_lz, press_ok] at X4
  rw [press_fb.1, press_fb.2] at X5
  rw [press_vf] at X6
  rw [decide_eq_true rfl] at X7
  clear hix hG hT
  have e1 : pressP.length = 3 := rfl
  rw [e1] at X2 X3
  clear e1
  unfold ListsE at X1
  unfold TextsE at X3
  have l2 : ([[2], [0, 1]] : List (List Int)).length = 2 := rfl
  have l3 : ([ix, iy, [57, 57, 47, 49, 48, 48]] : List Txt).length = 3 := rfl
  have l4 : ([0, 1] : List Int).length = 2 := rfl
  have l5 : ([0, 2] : List Int).length = 2 := rfl
  rw [l2] at X1 X7
  rw [l3] at X3
  rw [l4] at X5
  rw [l5] at X6
  clear l2 l3 l4 l5
  have v0 : IntKind.i64.wrap 0 = 0 := rfl
  go_enter Tryz.func11, Tryz.ntmps11
  go_wp2_with fail
  refine (Press_any _).mono ?_
  rintro e w1 ⟨a1, rfl, hP, E1⟩
  have HP := Lib.hid hP
  clear hP
  go_wp2_with fail
  refine (X1.out _ a1 E1 HP.out).mono ?_
  rintro e w2 ⟨la, lc, rfl, hL, hl1, hl2, hE⟩
  have E2 := E1.trans hE
  have HL := Lib.hid hL
  clear hL hE E1 HP X1
  go_wp2_with fail
  have HC : Hid (CellsT (w2.alloc (.cells #[.string ⟨#[49, 47, 49, 48]⟩, .string ⟨#[49, 47, 49, 48]⟩, .string ⟨#[49, 47, 49, 48, 48]⟩] 44)) (some ⟨w2.heap.size, 0, none⟩) pressP) := cellsT_three (by rw [World.cell?_alloc_new]; rfl) (by rw [World.cell?_alloc_new]; rfl) (by rw [World.cell?_alloc_new]; rfl)
  have EP : Ext w2 (w2.alloc (.cells #[.string ⟨#[49, 47, 49, 48]⟩, .string ⟨#[49, 47, 49, 48]⟩, .string ⟨#[49, 47, 49, 48, 48]⟩] 44)) := (Ext.refl _).alloc _
  obtain ⟨bp, hbp⟩ : ∃ bp, bp = w2.heap.size := ⟨_, rfl⟩
  rw [← hbp] at HC ⊢
  clear hbp
  have E3 := E2.trans EP
  replace HL := Lib.hid (HL.out.ext EP)
  generalize (w2.alloc (.cells #[.string ⟨#[49, 47, 49, 48]⟩, .string ⟨#[49, 47, 49, 48]⟩, .string ⟨#[49, 47, 49, 48, 48]⟩] 44)) = w3 at HC EP E3 HL ⊢
  clear EP E2
  refine (Press_any _).mono ?_
  rintro e w4 ⟨a4, rfl, hP, hE⟩
  have HP := Lib.hid hP
  have E4 := E3.trans hE
  replace HC := Lib.hid (HC.out.ext hE)
  replace HL := Lib.hid (HL.out.ext hE)
  clear hP hE E3
  go_wp2_with fail
  refine (X2.out _ a4 _ E4 HP.out HC.out).mono ?_
  rintro e w5 ⟨rfl, hE⟩
  have E5 := E4.trans hE
  replace HC := Lib.hid (HC.out.ext hE)
  replace HL := Lib.hid (HL.out.ext hE)
  clear hE E4 HP X2
  go_wp2_with fail
  refine (Press_any _).mono ?_
  rintro e w6 ⟨a6, rfl, hP, hE⟩
  have HP := Lib.hid hP
  have E6 := E5.trans hE
  replace HC := Lib.hid (HC.out.ext hE)
  replace HL := Lib.hid (HL.out.ext hE)
  clear hP hE E5
  go_wp2_with fail
  refine (X3.out _ a6 _ E6 HP.out HC.out).mono ?_
  rintro e w7 ⟨ya, yc, rfl, hY, _, _, hE⟩
  have E7 := E6.trans hE
  obtain ⟨yb, yo, rfl, cy⟩ := hY 2 (show 2 < 3 by omega)
  have cy : w7.cell? ⟨yb, yo + 2, none⟩ = some (txt [57, 57, 47, 49, 48, 48]) := cy
  replace HL := Lib.hid (HL.out.ext hE)
  clear hE E6 HP X3 hY HC
  go_wp2_with fail
  refine (Press_any _).mono ?_
  rintro e w8 ⟨a8, rfl, hP, hE⟩
  have HP := Lib.hid hP
  have E8 := E7.trans hE
  replace cy := hE.cell cy
  replace HL := Lib.hid (HL.out.ext hE)
  clear hP hE E7
  go_wp2_with fail
  refine (X4.out _ a8 HP.out).mono ?_
  rintro e w9 ⟨rfl, hE⟩
  have E9 := E8.trans hE
  replace cy := hE.cell cy
  replace HL := Lib.hid (HL.out.ext hE)
  clear hE E8 HP X4
  go_wp2_with fail
  refine (Press_any _).mono ?_
  rintro e w10 ⟨a10, rfl, hP, hE⟩
  have E10 := E9.trans hE
  replace cy := hE.cell cy
  replace HL := Lib.hid (HL.out.ext hE)
  clear hE E9
  have EQ : Ext w10 (w10.alloc (.cells #[.int .i64 0, .int .i64 1] 3)) := (Ext.refl _).alloc _
  have HI : Hid (CellsI (w10.alloc (.cells #[.int .i64 0, .int .i64 1] 3)) (some ⟨w10.heap.size, 0, none⟩) [0, 1]) := cellsI_two (by rw [World.cell?_alloc_new]; rfl) (by rw [World.cell?_alloc_new]; rfl)
  have HP := Lib.hid (hP.ext EQ)
  have E11 := E10.trans EQ
  replace cy := EQ.cell cy
  replace HL := Lib.hid (HL.out.ext EQ)
  clear hP EQ E10
  go_wp2_with fail
  obtain ⟨bq, hbq⟩ : ∃ bq, bq = w10.heap.size := ⟨_, rfl⟩
  rw [← hbq] at HI ⊢
  clear hbq
  generalize (w10.alloc (.cells #[.int .i64 0, .int .i64 1] 3)) = w11 at HI HP E11 cy HL ⊢
  refine (X5.out _ a10 _ HP.out HI.out).mono ?_
  rintro e w12 ⟨rfl, hE⟩
  have E12 := E11.trans hE
  replace cy := hE.cell cy
  replace HL := Lib.hid (HL.out.ext hE)
  clear hE E11 HP HI X5
  go_wp2_with fail
  have ES : Ext w12 (((w12.alloc (.cells #[.int .i64 2] 3)).alloc (.cells #[.int .i64 0, .int .i64 1] 3)).alloc (.cells #[.slice (some ⟨w12.heap.size, 0, none⟩) 1 1, .slice (some ⟨w12.heap.size + 1, 0, none⟩) 2 2] 25)) := (((Ext.refl _).alloc _).alloc _).alloc _
  have HS : Hid (CellsII (((w12.alloc (.cells #[.int .i64 2] 3)).alloc (.cells #[.int .i64 0, .int .i64 1] 3)).alloc (.cells #[.slice (some ⟨w12.heap.size, 0, none⟩) 1 1, .slice (some ⟨w12.heap.size + 1, 0, none⟩) 2 2] 25)) (some ⟨w12.heap.size + 1 + 1, 0, none⟩) [[2], [0, 1]]) := fun i hi => by
    rcases i with _ | _ | i
    · exact ⟨w12.heap.size + 1 + 1, 0, .slice (some ⟨w12.heap.size, 0, none⟩) 1 1, rfl, by go_simp, ⟨some ⟨w12.heap.size, 0, none⟩, 1, rfl, cellsI_one (by go_simp), Nat.le_refl _, by unfold maxLen; omega⟩⟩
    · exact ⟨w12.heap.size + 1 + 1, 0, .slice (some ⟨w12.heap.size + 1, 0, none⟩) 2 2, rfl, by go_simp, ⟨some ⟨w12.heap.size + 1, 0, none⟩, 2, rfl, cellsI_two (by go_simp) (by go_simp), Nat.le_refl _, by unfold maxLen; omega⟩⟩
    · simp only [List.length_cons, List.length_nil] at hi
      omega
  have E13 := E12.trans ES
  replace cy := ES.cell cy
  replace HL := Lib.hid (HL.out.ext ES)
  obtain ⟨bs, hbs⟩ : ∃ bs, bs = w12.heap.size + 1 + 1 := ⟨_, rfl⟩
  rw [← hbs] at HS ⊢
  clear ES E12 hbs
  generalize (((w12.alloc (.cells #[.int .i64 2] 3)).alloc (.cells #[.int .i64 0, .int .i64 1] 3)).alloc (.cells #[.slice (some ⟨w12.heap.size, 0, none⟩) 1 1, .slice (some ⟨w12.heap.size + 1, 0, none⟩) 2 2] 25)) = w13 at HS HL E13 cy ⊢
  refine (X7.out _ la _ HL.out HS.out lc).mono ?_
  rintro e w14 ⟨rfl, hE⟩
  have E14 := E13.trans hE
  replace cy := hE.cell cy
  have zy := cell_lt cy
  dsimp only at zy
  clear hE E13 HS HL X7
  go_wp2_with fail
  clear cy zy
  refine (Press_any _).mono ?_
  rintro e w15 ⟨a15, rfl, hP, hE⟩
  have E15 := E14.trans hE
  have EQ : Ext w15 (w15.alloc (.cells #[.int .i64 0, .int .i64 2] 3)) := (Ext.refl _).alloc _
  have HI : Hid (CellsI (w15.alloc (.cells #[.int .i64 0, .int .i64 2] 3)) (some ⟨w15.heap.size, 0, none⟩) [0, 2]) := cellsI_two (by rw [World.cell?_alloc_new]; rfl) (by rw [World.cell?_alloc_new]; rfl)
  have HP := Lib.hid (hP.ext EQ)
  have E16 := E15.trans EQ
  clear hP EQ E15 hE E14
  go_wp2_with fail
  generalize w15.heap.size = bt at HI ⊢
  generalize (w15.alloc (.cells #[.int .i64 0, .int .i64 2] 3)) = w16 at HI HP E16 ⊢
  refine (X6.out _ a15 _ E16 HP.out HI.out).mono ?_
  rintro e w17 ⟨rfl, hE⟩
  go_wp2
  go_ret
  exact ⟨rfl, E16.trans hE⟩
end Go.Proofs.YtlhpfhnbeagnaaaGreatDoor
namespace Go.Proofs.YtlhpfhnbeagnaaaGreatDoor
open Go.RowKit
theorem infoGtR : (Tryz.prog.info? 100).map (fun i => (i.zero, i.size, i.bytes)) = some (some (.agg #[.int .i64 0, .int .i64 0, .slice none 0 0]), 3, 40) := by kernel_rfl
theorem results_cellT {fn : Func} {p : Tmp} {ty : TypeId} (h : fn.results = #[.cell p ty]) (tmps : Array Value) (P : Program) (w : World) :
    (results fn tmps).run P w = ((asAddr (tmps.getD p undef)).run P w).andThen fun a w₁ => (loadVar ty a).run P w₁ := by
  simp only [results, h]
  simp [Sem.run_bind, Result.andThen]
def flatGt (f : Nat → Value) (gs : List Gt) : Nat → List Value
  | 0 => []
  | k + 1 => flatGt f gs k ++ [.int .i64 (gs.getD k gt0).kind, .int .i64 (gs.getD k gt0).need, f k]
theorem flatGt_len (f : Nat → Value) (gs : List Gt) : ∀ k, (flatGt f gs k).length = k * 3
  | 0 => rfl
  | k + 1 => by unfold flatGt; rw [List.length_append, flatGt_len f gs k]; simp only [List.length_cons, List.length_nil]; omega
theorem flatGt_get (f : Nat → Value) (gs : List Gt) : ∀ k i, i < k → (flatGt f gs k)[i * 3]? = some (.int .i64 (gs.getD i gt0).kind) ∧ (flatGt f gs k)[i * 3 + 1]? = some (.int .i64 (gs.getD i gt0).need) ∧ (flatGt f gs k)[i * 3 + 2]? = some (f i) := by
  intro k
  induction k with
  | zero => intro i hi; exact absurd hi (Nat.not_lt_zero i)
  | succ k ih =>
    intro i hi
    have hl := flatGt_len f gs k
    unfold flatGt
    rcases Nat.lt_or_eq_of_le (Nat.le_of_lt_succ hi) with h | rfl
    · obtain ⟨h1, h2, h3⟩ := ih i h
      rw [List.getElem?_append_left (by omega), List.getElem?_append_left (by omega), List.getElem?_append_left (by omega)]
      exact ⟨h1, h2, h3⟩
    · rw [List.getElem?_append_right (by omega), List.getElem?_append_right (by omega), List.getElem?_append_right (by omega), hl, Nat.sub_self, show i * 3 + 1 - i * 3 = 1 by omega, show i * 3 + 2 - i * 3 = 2 by omega]
      exact ⟨rfl, rfl, rfl⟩
def OwnsGt (T : TypeId) (w : World) (v : Value) (f : Nat → Value) (gs : List Gt) (k : Nat) : Prop := w.ownsRow 0 T 3 v k (flatGt f gs k)
theorem rowFull {A : World} {e : TypeId} {s : Nat} {v : Value} {n : Nat} {xs : List Value} (h : A.ownsRow 0 e s v n xs) : ∃ a cap, v = .slice a n cap ∧ n ≤ cap ∧ cap ≤ maxLen := by
  rcases h.2 with ⟨hv, hn⟩ | ⟨g, cap, cur, hv, hg, hh, hnc, hm, hcs, ht⟩
  · subst hn
    exact ⟨none, 0, hv, Nat.le_refl _, Nat.zero_le _⟩
  · exact ⟨_, cap, hv, hnc, hm⟩
theorem OwnsGt.tree {T : TypeId} {w : World} {v : Value} {f : Nat → Value} {t : Tr} (h : OwnsGt T w v f t.gates t.gates.length) (hf : ∀ i, i < t.gates.length → SliceI w (f i) (t.gates.getD i gt0).args) :
    ∃ pa pc, v = .slice pa t.gates.length pc ∧ TreeG w t pa pc := by
  obtain ⟨a, cap, hv, h1, h2⟩ := rowFull h
  obtain ⟨a', cap', hv', _, h3⟩ := rowReads h
  rw [hv] at hv'
  injection hv' with e1 e2 e3
  subst e1
  refine ⟨a, cap, hv, fun i hi => ?_, h1, h2⟩
  obtain ⟨g1, g2, g3⟩ := flatGt_get f t.gates t.gates.length i hi
  obtain ⟨b, hb, _, c1, _⟩ := h3 _ _ g1
  obtain ⟨b', hb', _, c2, _⟩ := h3 _ _ g2
  obtain ⟨b'', hb'', _, c3, _⟩ := h3 _ _ g3
  rw [hb] at hb' hb''
  cases hb'; cases hb''
  exact ⟨b, 0, f i, hb, by rw [Nat.zero_add]; exact c1, by rw [Nat.zero_add]; exact c2, by rw [Nat.zero_add]; exact c3, hf i hi⟩
theorem news3 {w : World} {b : Nat} {x y z : Value} (h0 : w.cell? ⟨b, 0, none⟩ = some x) (h1 : w.cell? ⟨b, 1, none⟩ = some y) (h2 : w.cell? ⟨b, 2, none⟩ = some z) : ∀ j u, ([x, y, z] : List Value)[j]? = some u → w.cell? ((⟨b, 0, none⟩ : Addr).add j) = some u := by
  intro j u h
  rw [Addr.add_lit, Nat.zero_add]
  match j, h with
  | 0, h => simp at h; subst h; exact h0
  | 1, h => simp at h; subst h; exact h1
  | 2, h => simp at h; subst h; exact h2
def TreeP (t : Tr) (w : World) (e : Ending) (w' : World) : Prop := ∃ a cap, e = .returned (treeV t a cap) ∧ TreeG w' t a cap ∧ Ext w w'
theorem gates_fn {w : World} {a : Option Addr} {gs : List Gt} (h : CellsG w a gs) : ∃ f : Nat → Value, ∀ i, i < gs.length → ∃ b off, a = some ⟨b, off, none⟩ ∧ w.cell? ⟨b, off + i * 3, none⟩ = some (.int .i64 (gs.getD i gt0).kind) ∧ w.cell? ⟨b, off + i * 3 + 1, none⟩ = some (.int .i64 (gs.getD i gt0).need) ∧ w.cell? ⟨b, off + i * 3 + 2, none⟩ = some (f i) ∧ SliceI w (f i) (gs.getD i gt0).args := by
  have key : ∀ i, i < gs.length → ∃ v : Value, ∃ b off, a = some ⟨b, off, none⟩ ∧ w.cell? ⟨b, off + i * 3, none⟩ = some (.int .i64 (gs.getD i gt0).kind) ∧ w.cell? ⟨b, off + i * 3 + 1, none⟩ = some (.int .i64 (gs.getD i gt0).need) ∧ w.cell? ⟨b, off + i * 3 + 2, none⟩ = some v ∧ SliceI w v (gs.getD i gt0).args := fun i hi => by
    obtain ⟨b, off, v, h⟩ := h i hi
    exact ⟨v, b, off, h⟩
  exact Go.Deep.choose_lt (α := Value) key
set_option maxHeartbeats 8000000 in
set_option maxRecDepth 100000 in
theorem Of_any {t : Tr} {pa : Option Addr} {pc : Nat} {w : World} (ht : TreeG w t pa pc) (hl : t.gates.length ≤ 100) :
    Calls Tryz.prog 14 #[treeV t pa pc] w fun e w' => TreeP t w e w' := by
  obtain ⟨f, hf⟩ := gates_fn ht.cells
  have HF := Lib.hid hf
  unfold treeV
  obtain ⟨N, hN⟩ : ∃ N, N = t.gates.length := ⟨_, rfl⟩
  obtain ⟨ev, hev⟩ : ∃ ev, ev = t.ev := ⟨_, rfl⟩
  rw [← hN] at hl
  rw [← hN, ← hev]
  have HN := Lib.hid hN
  have HEV := Lib.hid hev
  clear hf ht hN hev
  go_enter Tryz.func14, Tryz.ntmps14
  go_wp2
  have E0 : Ext w (((w.alloc (.cells #[.int .i64 ev, .slice pa N pc] 24)).alloc (.cells #[.int .i64 0, .slice none 0 0] 35)).alloc (.cells #[.int .i64 ev, .slice none 0 0] 35)) := extA
  have y1 : (((w.alloc (.cells #[.int .i64 ev, .slice pa N pc] 24)).alloc (.cells #[.int .i64 0, .slice none 0 0] 35)).alloc (.cells #[.int .i64 ev, .slice none 0 0] 35)).cell? ⟨w.heap.size, 1, none⟩ = some (.slice pa N pc) := by go_simp
  have r0 : (((w.alloc (.cells #[.int .i64 ev, .slice pa N pc] 24)).alloc (.cells #[.int .i64 0, .slice none 0 0] 35)).alloc (.cells #[.int .i64 ev, .slice none 0 0] 35)).cell? ⟨w.heap.size + 1, 0, none⟩ = some (.int .i64 0) := by go_simp
  have r1 : (((w.alloc (.cells #[.int .i64 ev, .slice pa N pc] 24)).alloc (.cells #[.int .i64 0, .slice none 0 0] 35)).alloc (.cells #[.int .i64 ev, .slice none 0 0] 35)).cell? ⟨w.heap.size + 1, 1, none⟩ = some (.slice none 0 0) := by go_simp
  have q0 : (((w.alloc (.cells #[.int .i64 ev, .slice pa N pc] 24)).alloc (.cells #[.int .i64 0, .slice none 0 0] 35)).alloc (.cells #[.int .i64 ev, .slice none 0 0] 35)).cell? ⟨w.heap.size + 1 + 1, 0, none⟩ = some (.int .i64 ev) := by go_simp
  have q1 : (((w.alloc (.cells #[.int .i64 ev, .slice pa N pc] 24)).alloc (.cells #[.int .i64 0, .slice none 0 0] 35)).alloc (.cells #[.int .i64 ev, .slice none 0 0] 35)).cell? ⟨w.heap.size + 1 + 1, 1, none⟩ = some (.slice none 0 0) := by go_simp
  have fr0 : (((w.alloc (.cells #[.int .i64 ev, .slice pa N pc] 24)).alloc (.cells #[.int .i64 0, .slice none 0 0] 35)).alloc (.cells #[.int .i64 ev, .slice none 0 0] 35)).frozen? ⟨w.heap.size + 1, 0, none⟩ = false := by go_simp
  have fr1 : (((w.alloc (.cells #[.int .i64 ev, .slice pa N pc] 24)).alloc (.cells #[.int .i64 0, .slice none 0 0] 35)).alloc (.cells #[.int .i64 ev, .slice none 0 0] 35)).frozen? ⟨w.heap.size + 1, 1, none⟩ = false := by go_simp
  have fq1 : (((w.alloc (.cells #[.int .i64 ev, .slice pa N pc] 24)).alloc (.cells #[.int .i64 0, .slice none 0 0] 35)).alloc (.cells #[.int .i64 ev, .slice none 0 0] 35)).frozen? ⟨w.heap.size + 1 + 1, 1, none⟩ = false := by go_simp
  have hsz : w.heap.size + 1 + 1 < (((w.alloc (.cells #[.int .i64 ev, .slice pa N pc] 24)).alloc (.cells #[.int .i64 0, .slice none 0 0] 35)).alloc (.cells #[.int .i64 ev, .slice none 0 0] 35)).heap.size := cell_lt q0
  obtain ⟨rb, hrb⟩ : ∃ rb, rb = w.heap.size + 1 := ⟨_, rfl⟩
  obtain ⟨ob, hob⟩ : ∃ ob, ob = w.heap.size + 1 + 1 := ⟨_, rfl⟩
  rw [← hob] at q0 q1 fq1 hsz ⊢
  rw [← hrb] at r0 r1 fr0 fr1 ⊢
  have hro : w.heap.size < rb ∧ rb < ob := ⟨by omega, by omega⟩
  clear hrb hob
  generalize (((w.alloc (.cells #[.int .i64 ev, .slice pa N pc] 24)).alloc (.cells #[.int .i64 0, .slice none 0 0] 35)).alloc (.cells #[.int .i64 ev, .slice none 0 0] 35)) = W at E0 y1 r0 r1 q0 q1 fr0 fr1 fq1 hsz ⊢
  obtain ⟨m0, hm0⟩ : ∃ m0, m0 = W.heap.size := ⟨_, rfl⟩
  rw [← hm0] at hsz
  go_loopw [12] (fun i wr => ∃ k : Nat, k ≤ N ∧ i = .int .i64 k ∧ Hid (∃ v, wr.cell? ⟨ob, 0, none⟩ = some (.int .i64 ev) ∧ wr.cell? ⟨ob, 1, none⟩ = some v ∧ wr.frozen? ⟨ob, 1, none⟩ = false ∧ OwnsGt 100 wr v f t.gates k ∧ (∀ b, v.ownBlock = some b → m0 ≤ b)) ∧ Hid (wr.cell? ⟨rb, 0, none⟩ = some (.int .i64 0) ∧ wr.cell? ⟨rb, 1, none⟩ = some (.slice none 0 0) ∧ wr.frozen? ⟨rb, 0, none⟩ = false ∧ wr.frozen? ⟨rb, 1, none⟩ = false ∧ wr.cell? ⟨w.heap.size, 1, none⟩ = some (.slice pa N pc)) ∧ m0 ≤ wr.heap.size ∧ Ext w wr) (fun i _ => N - (intOf i).toNat)
  case atStart => exact ⟨0, Nat.zero_le _, rfl, ⟨_, q0, q1, fq1, World.ownsRow_nil W 0 _ _, fun b hb => (by cases hb)⟩, ⟨r0, r1, fr0, fr1, y1⟩, by omega, E0⟩
  case round =>
    clear y1 r0 r1 q0 q1 fr0 fr1 fq1 E0 hm0
    obtain ⟨k, hk, rfl, HV, HRB, hm, he⟩ := hrel
    obtain ⟨v, q0, q1, fq1, hown, hob⟩ := HV.out
    obtain ⟨r0, r1, fr0, fr1, y1⟩ := HRB.out
    have zq := cell_lt q0
    have zr := cell_lt r0
    have zy := cell_lt y1
    dsimp only at zq zr zy
    by_cases hlt : k < N
    · have hlt' : (k : Int) < (N : Int) := by omega
      obtain ⟨b, off, rfl, c1, c2, c3, cs⟩ := HF.out k (by rw [← HN.out]; exact hlt)
      have HFL : Hid (flatGt f t.gates (k + 1) = flatGt f t.gates k ++ [.int .i64 (t.gates.getD k gt0).kind, .int .i64 (t.gates.getD k gt0).need, f k]) := rfl
      have c1 := he.cell c1
      have c2 := he.cell c2
      have c3 := he.cell c3
      obtain ⟨ai, ci, hfk, cs, _, _⟩ := cs
      rw [hfk] at c3 HFL
      generalize (t.gates.getD k gt0).args.length = L at c3 HFL
      generalize (t.gates.getD k gt0).kind = p at c1 HFL
      generalize (t.gates.getD k gt0).need = m at c2 HFL
      have zb := cell_lt c1
      dsimp only at zb
      have hmi : (k : Int) + 1 ≤ 100 := by omega
      have E3 : Ext wr ((wr.alloc (.cells #[.int .i64 p, .int .i64 m, .slice ai L ci] 99)).alloc (.cells #[.int .i64 p, .int .i64 m, .slice ai L ci] 100)) := extA
      have n0 : ((wr.alloc (.cells #[.int .i64 p, .int .i64 m, .slice ai L ci] 99)).alloc (.cells #[.int .i64 p, .int .i64 m, .slice ai L ci] 100)).cell? ⟨wr.heap.size + 1, 0, none⟩ = some (.int .i64 p) := by go_simp
      have n1 : ((wr.alloc (.cells #[.int .i64 p, .int .i64 m, .slice ai L ci] 99)).alloc (.cells #[.int .i64 p, .int .i64 m, .slice ai L ci] 100)).cell? ⟨wr.heap.size + 1, 1, none⟩ = some (.int .i64 m) := by go_simp
      have n2 : ((wr.alloc (.cells #[.int .i64 p, .int .i64 m, .slice ai L ci] 99)).alloc (.cells #[.int .i64 p, .int .i64 m, .slice ai L ci] 100)).cell? ⟨wr.heap.size + 1, 2, none⟩ = some (.slice ai L ci) := by go_simp
      obtain ⟨i0, hi, hi0, hi1, hi2⟩ := info_parts infoGtR
      have HOW := Lib.hid hown
      have HOB := Lib.hid hob
      have HNW := Lib.hid (news3 n0 n1 n2)
      have HE3 := Lib.hid E3
      clear n0 n1 n2 cs hfk hown hob E3
      go_wp2_with (at_builtin; refine wpList_append1 _ rfl _ _ 33 rfl 100 i0 (.agg #[.int .i64 0, .int .i64 0, .slice none 0 0]) 3 40 Tryz.underlying33 hi hi0 hi1 hi2 rfl (by decide) v k (flatGt f t.gates k) rfl (rowExt HOW.out HE3.out) ⟨wr.heap.size + 1, 0, none⟩ 1 1 (by decide) [.int .i64 p, .int .i64 m, .slice ai L ci] rfl rfl HNW.out (by intro u hu; simp at hu; rcases hu with rfl | rfl | rfl <;> rfl) (by unfold maxLen; omega) (by omega) ?_)
      intro v' w9 hown9 hend9
      obtain ⟨va, vc, hvv, _, _⟩ := rowFull hown9
      subst hvv
      obtain ⟨v', hv'⟩ : ∃ v', v' = Value.slice va (k + 1) vc := ⟨_, rfl⟩
      rw [← hv'] at hown9 hend9
      have hv3 : m0 ≤ ((wr.alloc (.cells #[.int .i64 p, .int .i64 m, .slice ai L ci] 99)).alloc (.cells #[.int .i64 p, .int .i64 m, .slice ai L ci] 100)).heap.size := Nat.le_trans hm HE3.out.size
      have B : Below m0 wr w9 := Below.trans (HE3.out.mono hm) (hend9.below (n := m0) hv3 HOB.out)
      have OB9 : Hid (∀ b, v'.ownBlock = some b → m0 ≤ b) := hend9.ge (n := m0) hv3 HOB.out
      have O9 : Hid (OwnsGt 100 w9 v' f t.gates (k + 1)) := by
        show World.ownsRow _ _ _ _ _ _ _
        rw [HFL.out]
        exact hown9
      have q0 := cellB B (p := ⟨ob, 0, none⟩) hsz q0
      have q1 := cellB B (p := ⟨ob, 1, none⟩) hsz q1
      have r0 := cellB B (p := ⟨rb, 0, none⟩) (by dsimp only; omega) r0
      have r1 := cellB B (p := ⟨rb, 1, none⟩) (by dsimp only; omega) r1
      have y1 := cellB B (p := ⟨w.heap.size, 1, none⟩) (by dsimp only; omega) y1
      have fq1 := (Below.frozen (p := ⟨ob, 1, none⟩) B hsz).trans fq1
      have fr0 := (Below.frozen (p := ⟨rb, 0, none⟩) B (by dsimp only; omega)).trans fr0
      have fr1 := (Below.frozen (p := ⟨rb, 1, none⟩) B (by dsimp only; omega)).trans fr1
      have hm9 : m0 ≤ w9.heap.size := by have := B.size; omega
      have E9 : Ext w w9 := Below.trans he (B.mono (by omega))
      have zq := cell_lt q0
      dsimp only at zq
      have O10 : Hid (OwnsGt 100 (w9.setCell ⟨ob, 1, none⟩ v') v' f t.gates (k + 1)) := rowSame O9.out (fun b hb => Below.heap_setCell _ _ _ _ (by have := OB9.out b hb; dsimp only; omega))
      have KF : Hid ((w9.setCell ⟨ob, 1, none⟩ v').cell? ⟨ob, 0, none⟩ = some (.int .i64 ev) ∧ (w9.setCell ⟨ob, 1, none⟩ v').cell? ⟨ob, 1, none⟩ = some v' ∧ (w9.setCell ⟨ob, 1, none⟩ v').frozen? ⟨ob, 1, none⟩ = false) := ⟨by rw [World.cell?_setCell_other _ _ _ _ (by simp), q0], by rw [World.cell?_setCell_same _ _ _ q1], by rw [World.frozen?_setCell]; exact fq1⟩
      have K2 : Hid ((w9.setCell ⟨ob, 1, none⟩ v').cell? ⟨rb, 0, none⟩ = some (.int .i64 0) ∧ (w9.setCell ⟨ob, 1, none⟩ v').cell? ⟨rb, 1, none⟩ = some (.slice none 0 0) ∧ (w9.setCell ⟨ob, 1, none⟩ v').frozen? ⟨rb, 0, none⟩ = false ∧ (w9.setCell ⟨ob, 1, none⟩ v').frozen? ⟨rb, 1, none⟩ = false ∧ (w9.setCell ⟨ob, 1, none⟩ v').cell? ⟨w.heap.size, 1, none⟩ = some (.slice (some ⟨b, off, none⟩) N pc)) := by
        have e1 : rb ≠ ob := by omega
        have e2 : w.heap.size ≠ ob := by omega
        refine ⟨by rw [World.cell?_setCell_other _ _ _ _ (fun h => by cases h)]; exact r0, by rw [World.cell?_setCell_other _ _ _ _ (fun h => by cases h; exact e1 rfl)]; exact r1, by rw [World.frozen?_setCell]; exact fr0, by rw [World.frozen?_setCell]; exact fr1, by rw [World.cell?_setCell_other _ _ _ _ (fun h => by cases h; exact e2 rfl)]; exact y1⟩
      have E10 : Ext w (w9.setCell ⟨ob, 1, none⟩ v') := Below.setCell (p := ⟨ob, 1, none⟩) E9 (by show w.heap.size ≤ ob; omega) _
      clear hown9 hend9 O9 HOW B hi hi0 hi1 hi2 i0 c1 c2 c3
      subst hv'
      go_wp2
      refine ⟨⟨k + 1, by omega, by go_num, ⟨_, KF.out.1, KF.out.2.1, KF.out.2.2, O10.out, OB9.out⟩, K2.out, by have := E10.size; simp; omega, E10⟩, by simp [intOf]; omega⟩
    · have hke : k = N := by omega
      subst hke
      have hlt' : ¬ (k : Int) < (k : Int) := by omega
      obtain ⟨ra, rc, hv, _, _⟩ := rowFull hown
      subst hv
      have HOW := Lib.hid hown
      have HOB := Lib.hid hob
      clear hown hob HV HRB
      go_wp2
      (try simp only [Exit.inBlock, Exit.then])
      have E11 : Ext w ((wr.setCell ⟨rb, 0, none⟩ (.int .i64 ev)).setCell ⟨rb, 1, none⟩ (.slice ra k rc)) := Below.setCell (p := ⟨rb, 1, none⟩) (Below.setCell (p := ⟨rb, 0, none⟩) he (by show w.heap.size ≤ rb; omega) _) (by show w.heap.size ≤ rb; omega) _
      have O11 : OwnsGt 100 ((wr.setCell ⟨rb, 0, none⟩ (.int .i64 ev)).setCell ⟨rb, 1, none⟩ (.slice ra k rc)) (.slice ra k rc) f t.gates k := rowSame (rowSame HOW.out (fun b hb => Below.heap_setCell _ _ _ _ (by have := HOB.out b hb; dsimp only; omega))) (fun b hb => Below.heap_setCell _ _ _ _ (by have := HOB.out b hb; dsimp only; omega))
      refine bodyPost_ret (v := .agg #[.int .i64 ev, .slice ra k rc]) (by rw [results_cellT rfl]; go_simp) rfl ?_
      rw [HN.out] at O11
      obtain ⟨pa', pc', hv, hT⟩ := OwnsGt.tree O11 (fun i hi => by
        obtain ⟨_, _, _, _, _, _, h⟩ := HF.out i hi
        rw [HN.out] at E11
        exact h.ext E11)
      injection hv with e1 e2 e3
      subst e1; subst e3
      refine ⟨ra, rc, ?_, ?_, E11⟩
      · unfold treeV
        rw [← HN.out, ← HEV.out]
      · rw [← HN.out] at hT
        exact hT
end Go.Proofs.YtlhpfhnbeagnaaaGreatDoor
