/- Steps of the proof: CSTr, CLw2. No conditions. -/
import Derived.Test.YtlhpfhnbeagnaaaGreatDoorZCB1
import Derived.Test.YtlhpfhnbeagnaaaGreatDoorZCB2
import Derived.Test.YtlhpfhnbeagnaaaGreatDoorZCB3
import Derived.Test.YtlhpfhnbeagnaaaGreatDoorZCB4
import Derived.Test.YtlhpfhnbeagnaaaGreatDoorZCB5
import Derived.Test.YtlhpfhnbeagnaaaGreatDoorZCB6
import Derived.Test.YtlhpfhnbeagnaaaGreatDoorZCB7
import Derived.Test.YtlhpfhnbeagnaaaGreatDoorZCB8
import Derived.Test.YtlhpfhnbeagnaaaGreatDoorZCB9
import Derived.Test.YtlhpfhnbeagnaaaGreatDoorZCDua1
namespace Go.Proofs.YtlhpfhnbeagnaaaGreatDoor
open Go.RowKit
theorem tr_ext {t u : Tr} (h1 : t.ev = u.ev) (h2 : t.gates.length = u.gates.length) (h3 : ∀ k, k < t.gates.length → t.gates.getD k gt0 = u.gates.getD k gt0) : t = u := by
  obtain ⟨a, l⟩ := t
  obtain ⟨b, m⟩ := u
  dsimp only at h1 h2 h3
  subst h1
  congr 1
  refine List.ext_getElem h2 fun i i1 i2 => ?_
  have := h3 i i1
  rwa [List.getD_eq_getElem?_getD, List.getElem?_eq_getElem i1, List.getD_eq_getElem?_getD, List.getElem?_eq_getElem i2] at this
theorem gt_at {w : World} {a : Option Addr} {l : List Gt} (h : CellsG w a l) {k : Nat} (hk : k < l.length) : ∃ b off va vc, a = some ⟨b, off, none⟩ ∧ w.cell? ⟨b, off + k * 3, none⟩ = some (.int .i64 (l.getD k gt0).kind) ∧ w.cell? ⟨b, off + k * 3 + 1, none⟩ = some (.int .i64 (l.getD k gt0).need) ∧ w.cell? ⟨b, off + k * 3 + 2, none⟩ = some (.slice va (l.getD k gt0).args.length vc) ∧ CellsI w va (l.getD k gt0).args ∧ (l.getD k gt0).args.length ≤ maxLen := by
  obtain ⟨b, off, v, h1, h2, h3, h4, va, vc, rfl, h5, h6, h7⟩ := h k hk
  exact ⟨b, off, va, vc, h1, h2, h3, h4, h5, by omega⟩
theorem NewG.other {W : World} {xb : Nat} {k n : Int} {m : Value} (h : NewG W xb k n m) {p : Addr} (hp : p.block ≠ xb) (u : Value) : NewG (W.setCell p u) xb k n m :=
  have e : ∀ i, p ≠ (⟨xb, i, none⟩ : Addr) := fun i h => hp (by rw [h])
  ⟨by rw [World.cell?_setCell_other _ _ _ _ (e 0)]; exact h.c0, by rw [World.cell?_setCell_other _ _ _ _ (e 1)]; exact h.c1, by rw [World.cell?_setCell_other _ _ _ _ (e 2)]; exact h.c2, by rw [World.frozen?_setCell]; exact h.f0, by rw [World.frozen?_setCell]; exact h.f1, by rw [World.frozen?_setCell]; exact h.f2⟩
def SamX (w : World) (tb sb : Nat) (a b : Option Addr) (n ca n2 cb k : Nat) (pa pb : Addr) (p m p2 m2 : Int) (x y : Value) (a0 a' : Act) (W : World) : Prop :=
  ∃ xb yb, a' = (((((((((((a0.put (some 29) (.pointer (some ⟨tb, 1, none⟩))).put (some 30) (.slice a n ca)).put (some 31) (.int .i64 (k : Int))).put (some 32) (.pointer (some pa))).put (some 33) (.agg #[.int .i64 p, .int .i64 m, x])).put (some 34) (.pointer (some ⟨sb, 1, none⟩))).put (some 35) (.slice b n2 cb)).put (some 36) (.int .i64 (k : Int))).put (some 37) (.pointer (some pb))).put (some 38) (.agg #[.int .i64 p2, .int .i64 m2, y])).put (some 6) (.pointer (some ⟨xb, 0, none⟩))).put (some 7) (.pointer (some ⟨yb, 0, none⟩)) ∧
    NewG W xb p m x ∧ NewG W yb p2 m2 y ∧ Ext w W
set_option maxHeartbeats 16000000 in
set_option maxRecDepth 100000 in
theorem SameTrees_any {t u : Tr} {a b : Option Addr} {ca cb : Nat} {w : World} (r : Bool) (hr : r = true ↔ t = u) (ht : TreeG w t a ca) (hu : TreeG w u b cb) :
    Calls Tryz.prog 35 #[treeV t a ca, treeV u b cb] w fun e w' => e = .returned (.bool r) ∧ Ext w w' := by
  have HC := Lib.hid ht.cells
  have HD := Lib.hid hu.cells
  have H1 : Hid (t.ev ≠ u.ev ∨ t.gates.length ≠ u.gates.length → r = false) := fun h => by
    cases r
    · rfl
    · have := hr.1 rfl
      subst this
      rcases h with h | h <;> exact absurd rfl h
  have H2 : Hid (∀ k, t.gates.getD k gt0 ≠ u.gates.getD k gt0 → r = false) := fun k h => by
    cases r
    · rfl
    · have := hr.1 rfl
      subst this
      exact absurd rfl h
  have H3 : Hid (t.ev = u.ev → t.gates.length = u.gates.length → (∀ k, k < t.gates.length → t.gates.getD k gt0 = u.gates.getD k gt0) → r = true) := fun h1 h2 h3 => hr.2 (tr_ext h1 h2 h3)
  have hb1 := ht.len
  have hb2 := ht.cap
  have hb3 := hu.len
  have hb4 := hu.cap
  unfold maxLen at hb2 hb4
  obtain ⟨n, hn⟩ : ∃ n, n = t.gates.length := ⟨_, rfl⟩
  obtain ⟨n2, hn2⟩ : ∃ n, n = u.gates.length := ⟨_, rfl⟩
  unfold treeV
  rw [← hn, ← hn2] at H1 H3 ⊢
  rw [← hn] at hb1
  rw [← hn2] at hb3
  have HN := Lib.hid hn
  have HN2 := Lib.hid hn2
  clear hr ht hu hn hn2
  generalize t.ev = x at H1 H3 ⊢
  generalize u.ev = y at H1 H3 ⊢
  have y0 : ((w.alloc (.cells #[.int .i64 x, .slice a n ca] 35)).alloc (.cells #[.int .i64 y, .slice b n2 cb] 35)).cell? ⟨w.heap.size, 0, none⟩ = some (.int .i64 x) := by go_simp
  have y1 : ((w.alloc (.cells #[.int .i64 x, .slice a n ca] 35)).alloc (.cells #[.int .i64 y, .slice b n2 cb] 35)).cell? ⟨w.heap.size, 1, none⟩ = some (.slice a n ca) := by go_simp
  have z0 : ((w.alloc (.cells #[.int .i64 x, .slice a n ca] 35)).alloc (.cells #[.int .i64 y, .slice b n2 cb] 35)).cell? ⟨w.heap.size + 1, 0, none⟩ = some (.int .i64 y) := by go_simp
  have z1 : ((w.alloc (.cells #[.int .i64 x, .slice a n ca] 35)).alloc (.cells #[.int .i64 y, .slice b n2 cb] 35)).cell? ⟨w.heap.size + 1, 1, none⟩ = some (.slice b n2 cb) := by go_simp
  have E0 : Ext w ((w.alloc (.cells #[.int .i64 x, .slice a n ca] 35)).alloc (.cells #[.int .i64 y, .slice b n2 cb] 35)) := extA
  go_enter Tryz.func35, Tryz.ntmps35
  by_cases hxy : x = y
  case neg =>
    have k5 : (x != y) = true := by rw [bne_iff_ne]; exact hxy
    have HR := Lib.hid (H1.out (.inl hxy))
    clear H1 H2 H3 hxy
    go_wp2
    go_ret
    exact ⟨ret_bool HR.out.symm, E0⟩
  have k5 : (x != y) = false := by rw [hxy]; exact bne_self_eq_false _
  by_cases hnn : n = n2
  case neg =>
    have k6 : ((n : Int) != (n2 : Int)) = true := by rw [bne_iff_ne]; omega
    have HR := Lib.hid (H1.out (.inr hnn))
    clear H1 H2 H3 hxy
    go_wp2
    go_ret
    exact ⟨ret_bool HR.out.symm, E0⟩
  have k6 : ((n : Int) != (n2 : Int)) = false := by rw [hnn]; exact bne_self_eq_false _
  have HL := Lib.hid (H3.out hxy hnn)
  subst hnn
  clear H1 H3 hxy
  go_wp2
  generalize ((w.alloc (.cells #[.int .i64 x, .slice a n ca] 35)).alloc (.cells #[.int .i64 y, .slice b n cb] 35)) = W at E0 y0 y1 z0 z1 ⊢
  go_loopw [5] (fun x wr => ∃ k : Nat, k ≤ n ∧ x = .int .i64 k ∧ Hid (∀ j, j < k → t.gates.getD j gt0 = u.gates.getD j gt0) ∧ Ext W wr) (fun x _ => n - (intOf x).toNat)
  case atStart => exact ⟨0, Nat.zero_le _, rfl, fun j hj => by omega, Ext.refl _⟩
  case round =>
    obtain ⟨k, hk, rfl, hz, he⟩ := hrel
    replace y0 := he.cell y0
    replace y1 := he.cell y1
    replace z0 := he.cell z0
    replace z1 := he.cell z1
    have zy := cell_lt y0
    have zz := cell_lt z0
    dsimp only at zy zz
    by_cases hlt : k < n
    · have hlt' : (k : Int) < (n : Int) := by omega
      obtain ⟨ba, oa, va, vc, rfl, c1, c2, c3, x1, x2⟩ := gt_at (HC.out.ext (E0.trans he)) (by rw [← HN.out]; exact hlt)
      obtain ⟨bb, ob, ua, uc, rfl, e1, e2, e3, x3, x4⟩ := gt_at (HD.out.ext (E0.trans he)) (by rw [← HN2.out]; exact hlt)
      have zb := cell_lt c1
      have zd := cell_lt e1
      dsimp only at zb zd
      have HBF := Lib.hid hz
      generalize hga : t.gates.getD k gt0 = ga at c1 c2 c3 x1 x2
      generalize hgb : u.gates.getD k gt0 = gb at e1 e2 e3 x3 x4
      obtain ⟨p, m, l⟩ := ga
      obtain ⟨p2, m2, l2⟩ := gb
      dsimp only at c1 c2 c3 x1 x2 e1 e2 e3 x3 x4
      have HGA := Lib.hid hga
      have HGB := Lib.hid hgb
      have HB1 := Lib.hid (fun W (hW : Ext wr W) => before_any l l2 va ua vc uc W x2 (x1.ext hW) x4 (x3.ext hW))
      have HB2 := Lib.hid (fun W (hW : Ext wr W) => before_any l2 l ua va uc vc W x4 (x3.ext hW) x2 (x1.ext hW))
      have HTR : Hid (befL l l2 = false → befL l2 l = false → l = l2) := befL_tri
      have HTU : Hid (befL l l2 = true ∨ befL l2 l = true → l ≠ l2) := fun h e => by
        subst e
        rw [befL_irr] at h
        rcases h with h | h <;> cases h
      generalize befL l l2 = b1 at HB1 HTR HTU
      generalize befL l2 l = b2 at HB2 HTR HTU
      clear x1 x2 x3 x4 hga hgb hz
      generalize l.length = L at c3 HB1 HB2
      generalize l2.length = L2 at e3 HB1 HB2
      go_wp2
      refine wp_keyC (SamX wr w.heap.size (w.heap.size + 1) (some ⟨ba, oa, none⟩) (some ⟨bb, ob, none⟩) n ca n cb k ⟨ba, oa + k * 3, none⟩ ⟨bb, ob + k * 3, none⟩ p m p2 m2 (.slice va L vc) (.slice ua L2 uc)) ?tail ?reg
      case reg =>
        intro hQ
        clear HBF HGA HGB HB1 HB2 HTR HTU HC HD HL H2
        have hS : Ext wr wr.drew := extA
        refine wp_region_heldE 13 (Ext wr) (by kernel_rfl) ?_
        generalize wr.drew = v1 at hS ⊢
        ((refine ePu 0 ?_); (refine ePu 2 ?_); (refine ePu 5 ?_); (refine ePu 7 ?_))
        (refine wpAnyE_take (oi := ?_) (v := ?_) (i := 1) ?_ (by kernel_rfl) ?_ ?_ (by assumption) ?_; rotate_left 2; (focus ((simp only [List.getElem?_toArray, List.getElem?_cons_succ, List.getElem?_cons_zero]; exact rfl))); (focus (exact fun _ _ _ h => h)); (focus (refine Or.inl ⟨by rfl, ?_⟩; intro w hSw; have hy1 := hSw.cell y1; have zy1 := cell_lt hy1; dsimp only at zy1; (first | (go_simp; done) | (go_simp; with_reducible rfl)))); (try simp only [Act.put, List.setIfInBounds_toArray, List.set_cons_zero, List.set_cons_succ]))
        (refine wpAnyE_take (oi := ?_) (v := ?_) (i := 6) ?_ (by kernel_rfl) ?_ ?_ (by assumption) ?_; rotate_left 2; (focus ((simp only [List.getElem?_toArray, List.getElem?_cons_succ, List.getElem?_cons_zero]; exact rfl))); (focus (exact fun _ _ _ h => h)); (focus (refine Or.inl ⟨by rfl, ?_⟩; intro w hSw; have hz1 := hSw.cell z1; have zz1 := cell_lt hz1; dsimp only at zz1; (first | (go_simp; done) | (go_simp; with_reducible rfl)))); (try simp only [Act.put, List.setIfInBounds_toArray, List.set_cons_zero, List.set_cons_succ]))
        ((refine ePu 3 ?_); (refine ePu 8 ?_))
        (refine wpAnyE_take (oi := ?_) (v := ?_) (i := 4) ?_ (by kernel_rfl) ?_ ?_ (by assumption) ?_; rotate_left 2; (focus ((simp only [List.getElem?_toArray, List.getElem?_cons_succ, List.getElem?_cons_zero]; exact rfl))); (focus (exact fun _ _ _ h => h)); (focus (refine Or.inl ⟨by rfl, ?_⟩; intro w hSw; have hc1 := hSw.cell c1; have zc1 := cell_lt hc1; dsimp only at zc1; have hc2 := hSw.cell c2; have zc2 := cell_lt hc2; dsimp only at zc2; have hc3 := hSw.cell c3; have zc3 := cell_lt hc3; dsimp only at zc3; (first | (go_simp; done) | (go_simp; with_reducible rfl)))); (try simp only [Act.put, List.setIfInBounds_toArray, List.set_cons_zero, List.set_cons_succ]))
        (refine wpAnyE_take (oi := ?_) (v := ?_) (i := 9) ?_ (by kernel_rfl) ?_ ?_ (by assumption) ?_; rotate_left 2; (focus ((simp only [List.getElem?_toArray, List.getElem?_cons_succ, List.getElem?_cons_zero]; exact rfl))); (focus (exact fun _ _ _ h => h)); (focus (refine Or.inl ⟨by rfl, ?_⟩; intro w hSw; have he1 := hSw.cell e1; have ze1 := cell_lt he1; dsimp only at ze1; have he2 := hSw.cell e2; have ze2 := cell_lt he2; dsimp only at ze2; have he3 := hSw.cell e3; have ze3 := cell_lt he3; dsimp only at ze3; (first | (go_simp; done) | (go_simp; with_reducible rfl)))); (try simp only [Act.put, List.setIfInBounds_toArray, List.set_cons_zero, List.set_cons_succ]))
        clear c1 c2 c3 e1 e2 e3 y0 y1 z0 z1
        refine wpAnyE_two (i := 10) (j := 11) (o := ?_) (p := ?_) (by (simp only [List.getElem?_toArray, List.getElem?_cons_succ, List.getElem?_cons_zero]; exact rfl)) (by (simp only [List.getElem?_toArray, List.getElem?_cons_succ, List.getElem?_cons_zero]; exact rfl)) (by kernel_rfl) (fun K hK => ?_) (fun K hK => ?_)
        · skip
          have hE : Ext v1 (v1.alloc (.cells #[.int .i64 0, .int .i64 0, .slice none 0 0] 100)) := extA
          have X := NewG.made v1 100
          obtain ⟨xb, hxb⟩ : ∃ q, q = v1.heap.size := ⟨_, rfl⟩
          have hxw : wr.heap.size ≤ xb := by rw [hxb]; exact hS.size
          go_simp
          refine hK.out _ _ (hS.trans hE) (fun hHeld => ?_)
          clear hK K hHeld
          (try simp only [Act.put, List.setIfInBounds_toArray, List.set_cons_zero, List.set_cons_succ])
          rw [← hxb] at X ⊢
          replace hS := hS.trans hE
          have zq := cell_lt X.c0
          clear hE hxb
          generalize (v1.alloc (.cells #[.int .i64 0, .int .i64 0, .slice none 0 0] 100)) = v2 at X hS zq ⊢
          refine wpAnyE_one (i := 11) (o := ?_) ?_ (by kernel_rfl) (fun K hK => ?_)
          rotate_left
          · (simp only [List.getElem?_toArray, List.getElem?_cons_succ, List.getElem?_cons_zero]; exact rfl)
          have hE : Ext v2 (v2.alloc (.cells #[.int .i64 0, .int .i64 0, .slice none 0 0] 100)) := extA
          have Y := NewG.made v2 100
          obtain ⟨yb, hxb⟩ : ∃ q, q = v2.heap.size := ⟨_, rfl⟩
          have hyw : wr.heap.size ≤ yb := by rw [hxb]; exact hS.size
          go_simp
          refine hK.out _ _ (hS.trans hE) (fun hHeld => ?_)
          clear hK K hHeld
          (try simp only [Act.put, List.setIfInBounds_toArray, List.set_cons_zero, List.set_cons_succ])
          rw [← hxb] at Y ⊢
          replace hS := hS.trans hE
          have hxy2 : xb ≠ yb := by dsimp only at zq; omega
          replace X := X.ext hE
          clear hE hxb zq
          generalize (v2.alloc (.cells #[.int .i64 0, .int .i64 0, .slice none 0 0] 100)) = v4 at X Y hS ⊢
          have X2 := ((X.set0 p).set1 m).set2 (.slice va L vc)
          have Y2 := ((Y.other (p := ⟨xb, 0, none⟩) hxy2 (.int .i64 p)).other (p := ⟨xb, 1, none⟩) hxy2 (.int .i64 m)).other (p := ⟨xb, 2, none⟩) hxy2 (.slice va L vc)
          have hS2 : Ext wr (((v4.setCell ⟨xb, 0, none⟩ (.int .i64 p)).setCell ⟨xb, 1, none⟩ (.int .i64 m)).setCell ⟨xb, 2, none⟩ (.slice va L vc)) := Below.setCell (p := ⟨xb, 2, none⟩) (Below.setCell (p := ⟨xb, 1, none⟩) (Below.setCell (p := ⟨xb, 0, none⟩) hS hxw _) hxw _) hxw _
          obtain ⟨x0, x1, x2, f0, f1, f2⟩ := X
          have zx := cell_lt x0
          dsimp only at zx
          refine wpAnyE_one (i := 12) (o := ?_) ?_ (by kernel_rfl) (fun K hK => ?_)
          rotate_left
          · (simp only [List.getElem?_toArray, List.getElem?_cons_succ, List.getElem?_cons_zero]; exact rfl)
          go_simp
          refine hK.out _ _ hS2 (fun hHeld => ?_)
          clear hK K hHeld x0 x1 x2 f0 f1 f2 zx hS Y
          (try simp only [Act.put, List.setIfInBounds_toArray, List.set_cons_zero, List.set_cons_succ])
          generalize (((v4.setCell ⟨xb, 0, none⟩ (.int .i64 p)).setCell ⟨xb, 1, none⟩ (.int .i64 m)).setCell ⟨xb, 2, none⟩ (.slice va L vc)) = v5 at hS2 X2 Y2 ⊢
          have Y3 := ((Y2.set0 p2).set1 m2).set2 (.slice ua L2 uc)
          have X3 := ((X2.other (p := ⟨yb, 0, none⟩) (Ne.symm hxy2) (.int .i64 p2)).other (p := ⟨yb, 1, none⟩) (Ne.symm hxy2) (.int .i64 m2)).other (p := ⟨yb, 2, none⟩) (Ne.symm hxy2) (.slice ua L2 uc)
          have hS3 : Ext wr (((v5.setCell ⟨yb, 0, none⟩ (.int .i64 p2)).setCell ⟨yb, 1, none⟩ (.int .i64 m2)).setCell ⟨yb, 2, none⟩ (.slice ua L2 uc)) := Below.setCell (p := ⟨yb, 2, none⟩) (Below.setCell (p := ⟨yb, 1, none⟩) (Below.setCell (p := ⟨yb, 0, none⟩) hS2 hyw _) hyw _) hyw _
          obtain ⟨x0, x1, x2, f0, f1, f2⟩ := Y2
          have zx := cell_lt x0
          dsimp only at zx
          (refine wpAnyE_free (i := 13) (o := ?_) ?_ (by kernel_rfl) (by kernel_rfl) (fun K hK => ?_); rotate_left; (focus ((simp only [List.getElem?_toArray, List.getElem?_cons_succ, List.getElem?_cons_zero]; exact rfl))); go_simp; refine hK.out _ _ ?_; clear hK K; (try simp only [Act.put, List.setIfInBounds_toArray, List.set_cons_zero, List.set_cons_succ]))
          refine wpAnyE_done (by kernel_rfl) ?_ _
          refine hQ _ _ ⟨xb, yb, ?_, X3, Y3, hS3⟩
          simp only [Act.put, List.setIfInBounds_toArray, List.set_cons_zero, List.set_cons_succ]
        · skip
          have hE : Ext v1 (v1.alloc (.cells #[.int .i64 0, .int .i64 0, .slice none 0 0] 100)) := extA
          have Y := NewG.made v1 100
          obtain ⟨yb, hxb⟩ : ∃ q, q = v1.heap.size := ⟨_, rfl⟩
          have hyw : wr.heap.size ≤ yb := by rw [hxb]; exact hS.size
          go_simp
          refine hK.out _ _ (hS.trans hE) (fun hHeld => ?_)
          clear hK K hHeld
          (try simp only [Act.put, List.setIfInBounds_toArray, List.set_cons_zero, List.set_cons_succ])
          rw [← hxb] at Y ⊢
          replace hS := hS.trans hE
          have zq := cell_lt Y.c0
          clear hE hxb
          generalize (v1.alloc (.cells #[.int .i64 0, .int .i64 0, .slice none 0 0] 100)) = v2 at Y hS zq ⊢
          refine wpAnyE_one (i := 10) (o := ?_) ?_ (by kernel_rfl) (fun K hK => ?_)
          rotate_left
          · (simp only [List.getElem?_toArray, List.getElem?_cons_succ, List.getElem?_cons_zero]; exact rfl)
          have hE : Ext v2 (v2.alloc (.cells #[.int .i64 0, .int .i64 0, .slice none 0 0] 100)) := extA
          have X := NewG.made v2 100
          obtain ⟨xb, hxb⟩ : ∃ q, q = v2.heap.size := ⟨_, rfl⟩
          have hxw : wr.heap.size ≤ xb := by rw [hxb]; exact hS.size
          go_simp
          refine hK.out _ _ (hS.trans hE) (fun hHeld => ?_)
          clear hK K hHeld
          (try simp only [Act.put, List.setIfInBounds_toArray, List.set_cons_zero, List.set_cons_succ])
          rw [← hxb] at X ⊢
          replace hS := hS.trans hE
          have hxy2 : xb ≠ yb := by dsimp only at zq; omega
          replace Y := Y.ext hE
          clear hE hxb zq
          generalize (v2.alloc (.cells #[.int .i64 0, .int .i64 0, .slice none 0 0] 100)) = v4 at X Y hS ⊢
          have X2 := ((X.set0 p).set1 m).set2 (.slice va L vc)
          have Y2 := ((Y.other (p := ⟨xb, 0, none⟩) hxy2 (.int .i64 p)).other (p := ⟨xb, 1, none⟩) hxy2 (.int .i64 m)).other (p := ⟨xb, 2, none⟩) hxy2 (.slice va L vc)
          have hS2 : Ext wr (((v4.setCell ⟨xb, 0, none⟩ (.int .i64 p)).setCell ⟨xb, 1, none⟩ (.int .i64 m)).setCell ⟨xb, 2, none⟩ (.slice va L vc)) := Below.setCell (p := ⟨xb, 2, none⟩) (Below.setCell (p := ⟨xb, 1, none⟩) (Below.setCell (p := ⟨xb, 0, none⟩) hS hxw _) hxw _) hxw _
          obtain ⟨x0, x1, x2, f0, f1, f2⟩ := X
          have zx := cell_lt x0
          dsimp only at zx
          refine wpAnyE_one (i := 12) (o := ?_) ?_ (by kernel_rfl) (fun K hK => ?_)
          rotate_left
          · (simp only [List.getElem?_toArray, List.getElem?_cons_succ, List.getElem?_cons_zero]; exact rfl)
          go_simp
          refine hK.out _ _ hS2 (fun hHeld => ?_)
          clear hK K hHeld x0 x1 x2 f0 f1 f2 zx hS Y
          (try simp only [Act.put, List.setIfInBounds_toArray, List.set_cons_zero, List.set_cons_succ])
          generalize (((v4.setCell ⟨xb, 0, none⟩ (.int .i64 p)).setCell ⟨xb, 1, none⟩ (.int .i64 m)).setCell ⟨xb, 2, none⟩ (.slice va L vc)) = v5 at hS2 X2 Y2 ⊢
          have Y3 := ((Y2.set0 p2).set1 m2).set2 (.slice ua L2 uc)
          have X3 := ((X2.other (p := ⟨yb, 0, none⟩) (Ne.symm hxy2) (.int .i64 p2)).other (p := ⟨yb, 1, none⟩) (Ne.symm hxy2) (.int .i64 m2)).other (p := ⟨yb, 2, none⟩) (Ne.symm hxy2) (.slice ua L2 uc)
          have hS3 : Ext wr (((v5.setCell ⟨yb, 0, none⟩ (.int .i64 p2)).setCell ⟨yb, 1, none⟩ (.int .i64 m2)).setCell ⟨yb, 2, none⟩ (.slice ua L2 uc)) := Below.setCell (p := ⟨yb, 2, none⟩) (Below.setCell (p := ⟨yb, 1, none⟩) (Below.setCell (p := ⟨yb, 0, none⟩) hS2 hyw _) hyw _) hyw _
          obtain ⟨x0, x1, x2, f0, f1, f2⟩ := Y2
          have zx := cell_lt x0
          dsimp only at zx
          (refine wpAnyE_free (i := 13) (o := ?_) ?_ (by kernel_rfl) (by kernel_rfl) (fun K hK => ?_); rotate_left; (focus ((simp only [List.getElem?_toArray, List.getElem?_cons_succ, List.getElem?_cons_zero]; exact rfl))); go_simp; refine hK.out _ _ ?_; clear hK K; (try simp only [Act.put, List.setIfInBounds_toArray, List.set_cons_zero, List.set_cons_succ]))
          refine wpAnyE_done (by kernel_rfl) ?_ _
          refine hQ _ _ ⟨xb, yb, ?_, X3, Y3, hS3⟩
          simp only [Act.put, List.setIfInBounds_toArray, List.set_cons_zero, List.set_cons_succ]
      case tail =>
        rintro a' W' ⟨xb, yb, rfl, X, Y, hE⟩
        obtain ⟨a0, a1, a2, _, _, _⟩ := X
        obtain ⟨d0, d1, d2, _, _, _⟩ := Y
        have za := cell_lt a0
        have zc := cell_lt d0
        dsimp only at za zc
        have E9 := (E0.trans he).trans hE
        clear z0 z1 y0 y1 c1 c2 c3 e1 e2 e3 zb zd zy zz HC HD
        by_cases hp : p = p2
        case neg =>
          have k7 : (p != p2) = true := by rw [bne_iff_ne]; exact hp
          have HR := Lib.hid (H2.out k (by rw [HGA.out, HGB.out]; intro h; injection h with h1 _ _; exact hp h1))
          clear H2 hp HL HBF HGA HGB HB1 HB2 HTR HTU
          go_wp2
          go_ret
          exact ⟨ret_bool HR.out.symm, E9⟩
        have k7 : (p != p2) = false := by rw [hp]; exact bne_self_eq_false _
        by_cases hm : m = m2
        case neg =>
          have k8 : (m != m2) = true := by rw [bne_iff_ne]; exact hm
          have HR := Lib.hid (H2.out k (by rw [HGA.out, HGB.out]; intro h; injection h with _ h1 _; exact hm h1))
          clear H2 hp hm HL HBF HGA HGB HB1 HB2 HTR HTU
          go_wp2
          go_ret
          exact ⟨ret_bool HR.out.symm, E9⟩
        have k8 : (m != m2) = false := by rw [hm]; exact bne_self_eq_false _
        have HF : Hid (l ≠ l2 → r = false) := fun h => H2.out k (by rw [HGA.out, HGB.out]; intro e; injection e with _ _ h1; exact h h1)
        have HN9 : Hid (l = l2 → ∀ j, j < k + 1 → t.gates.getD j gt0 = u.gates.getD j gt0) := fun h j hj => by
          rcases Nat.lt_or_eq_of_le (Nat.le_of_lt_succ hj) with h2 | rfl
          · exact HBF.out j h2
          · rw [HGA.out, HGB.out, hp, hm, h]
        clear hp hm H2 HBF HGA HGB
        cases b1
        · have HX := Lib.hid (HTR.out rfl)
          cases b2
          · have HG := Lib.hid (HN9.out (HX.out rfl))
            clear HX HN9 HF HTR HTU HL
            go_wp2_with fail
            refine (HB1.out _ hE).mono ?_
            rintro e w5 ⟨rfl, hE5⟩
            have a0 := hE5.cell a0
            have a1 := hE5.cell a1
            have a2 := hE5.cell a2
            have d0 := hE5.cell d0
            have d1 := hE5.cell d1
            have d2 := hE5.cell d2
            have za := cell_lt a0
            have zc := cell_lt d0
            dsimp only at za zc
            go_wp2_with fail
            refine (HB2.out _ (hE.trans hE5)).mono ?_
            rintro e w6 ⟨rfl, hE6⟩
            go_wp2
            exact ⟨⟨k + 1, by omega, by go_num, HG.out, (he.trans hE).trans (hE5.trans hE6)⟩, by simp [intOf]; omega⟩
          · have HR := Lib.hid (HF.out (HTU.out (.inr rfl)))
            clear HX HN9 HF HTR HTU HL
            go_wp2_with fail
            refine (HB1.out _ hE).mono ?_
            rintro e w5 ⟨rfl, hE5⟩
            have a0 := hE5.cell a0
            have a1 := hE5.cell a1
            have a2 := hE5.cell a2
            have d0 := hE5.cell d0
            have d1 := hE5.cell d1
            have d2 := hE5.cell d2
            have za := cell_lt a0
            have zc := cell_lt d0
            dsimp only at za zc
            go_wp2_with fail
            refine (HB2.out _ (hE.trans hE5)).mono ?_
            rintro e w6 ⟨rfl, hE6⟩
            go_wp2
            go_ret
            exact ⟨ret_bool HR.out.symm, E9.trans (hE5.trans hE6)⟩
        · have HR := Lib.hid (HF.out (HTU.out (.inl rfl)))
          clear HN9 HF HTR HTU HL HB2
          go_wp2_with fail
          refine (HB1.out _ hE).mono ?_
          rintro e w5 ⟨rfl, hE5⟩
          go_wp2
          go_ret
          exact ⟨ret_bool HR.out.symm, E9.trans hE5⟩
    · have hke : k = n := by omega
      have hlt' : ¬ (k : Int) < (n : Int) := by omega
      have HS := Lib.hid (HL.out (fun j hj => hz.out j (by omega)))
      clear hz
      go_wp2
      go_ret
      exact ⟨ret_bool HS.out.symm, E0.trans he⟩
end Go.Proofs.YtlhpfhnbeagnaaaGreatDoor
namespace Go.Proofs.YtlhpfhnbeagnaaaGreatDoor
open Go.RowKit
theorem dualZ_len {t : Tr} (h : t.gates.length ≤ 100) : (dualZ t).gates.length ≤ 100 := by
  unfold dualZ
  split
  · rw [dual_len]; exact h
  · exact Nat.zero_le _
set_option maxHeartbeats 4000000 in
set_option maxRecDepth 100000 in
theorem dualsLaw_any {t : Tr} {a : Option Addr} {cap : Nat} {w : World} (hG : Glob w) (hT : TabC w) (ht : TreeG w t a cap) :
    Calls Tryz.prog 6 #[treeV t a cap] w fun e w' => e = .returned (.bool true) ∧ Ext w w' := by
  have HA := Lib.hid (aw_any hG hT)
  have HW := Lib.hid (fun W (hW : Ext w W) => few_any (m := 16) (ht.ext hW))
  have HO := Lib.hid (fun W (h : t.gates.length ≤ 100) (hW : Ext w W) => Of_any (ht.ext hW) h)
  have HD := Lib.hid (fun W (hW : Ext w W) => Dual_any (ht.ext hW))
  have RD := Lib.hid (fun W b c (h : TreeG W t b c) => rDual_any h)
  have HL := Lib.hid (fewT_len (t := t) (m := 16))
  have HDL := Lib.hid (dualZ_len (t := t))
  generalize dualZ t = d at HD RD HDL
  have HP := Lib.hid (fun W b c (h : TreeG W d b c) (hl : d.gates.length ≤ 100) => Of_any h hl)
  have HS := Lib.hid (fun W a1 c1 a2 c2 (h1 : TreeG W d a1 c1) (h2 : TreeG W d a2 c2) => SameTrees_any (w := W) true ⟨fun _ => rfl, fun _ => rfl⟩ h1 h2)
  unfold TreeE at HD RD
  unfold TreeP at HO HP
  generalize fewT t 16 = fw at HW HL
  generalize treeE t = er at HD RD
  unfold treeV at HW HO HD RD HP HS ⊢
  generalize t.gates.length = gn at HW HO HD RD HL HDL ⊢
  generalize t.ev = ev at HW HO HD RD ⊢
  clear hG hT ht
  have y0 : (w.alloc (.cells #[.int .i64 ev, .slice a gn cap] 24)).cell? ⟨w.heap.size, 0, none⟩ = some (.int .i64 ev) := by rw [World.cell?_alloc_new]; rfl
  have y1 : (w.alloc (.cells #[.int .i64 ev, .slice a gn cap] 24)).cell? ⟨w.heap.size, 1, none⟩ = some (.slice a gn cap) := by rw [World.cell?_alloc_new]; rfl
  have E0 : Ext w (w.alloc (.cells #[.int .i64 ev, .slice a gn cap] 24)) := extA
  go_enter Tryz.func6, Tryz.ntmps6
  go_wp2_with fail
  generalize (w.alloc (.cells #[.int .i64 ev, .slice a gn cap] 24)) = W at y0 y1 E0 ⊢
  refine (HW.out _ E0).mono ?_
  rintro e w1 ⟨rfl, hE⟩
  have E1 := E0.trans hE
  replace y0 := hE.cell y0
  replace y1 := hE.cell y1
  clear hE HW
  cases fw
  · go_wp2_with (go_at_call 11; refine (HA.out _ E1).mono ?_; rintro e wz ⟨rfl, hE⟩)
    go_ret
    exact ⟨rfl, E1.trans hE⟩
  have hgn := HL.out rfl
  have HO2 := Lib.hid (fun W hW => HO.out W hgn hW)
  have hdl := HDL.out hgn
  have HP2 := Lib.hid (fun W b c h => HP.out W b c h hdl)
  clear HO HL HDL HP hgn
  go_wp2_with fail
  refine (HD.out _ E1).mono ?_
  rintro e w2 ⟨b2, c2, rfl, hT2, hE⟩
  have E2 := E1.trans hE
  replace y0 := hE.cell y0
  replace y1 := hE.cell y1
  have HT2 := Lib.hid hT2
  clear hE hT2 HD E1 E0
  generalize d.gates.length = dn at HP2 HS RD hdl ⊢
  generalize d.ev = dv at HP2 HS RD ⊢
  have u0 : (w2.alloc (.cells #[.int .i64 dv, .slice b2 dn c2] 24)).cell? ⟨w2.heap.size, 0, none⟩ = some (.int .i64 dv) := by rw [World.cell?_alloc_new]; rfl
  have u1 : (w2.alloc (.cells #[.int .i64 dv, .slice b2 dn c2] 24)).cell? ⟨w2.heap.size, 1, none⟩ = some (.slice b2 dn c2) := by rw [World.cell?_alloc_new]; rfl
  have EU : Ext w2 (w2.alloc (.cells #[.int .i64 dv, .slice b2 dn c2] 24)) := extA
  have zy := cell_lt y0
  dsimp only at zy
  go_wp2_with fail
  obtain ⟨ub, hub⟩ : ∃ ub, ub = w2.heap.size := ⟨_, rfl⟩
  rw [← hub] at u0 u1 ⊢
  replace HT2 := Lib.hid (HT2.out.ext EU)
  replace y0 := EU.cell y0
  replace y1 := EU.cell y1
  have E3 := E2.trans EU
  clear EU E2 hub zy
  generalize (w2.alloc (.cells #[.int .i64 dv, .slice b2 dn c2] 24)) = w3 at u0 u1 HT2 y0 y1 E3 ⊢
  refine (HO2.out _ E3).mono ?_
  rintro e w4 ⟨b4, c4, rfl, hT4, hE⟩
  have E4 := E3.trans hE
  have HT4 := Lib.hid hT4
  replace HT2 := Lib.hid (HT2.out.ext hE)
  replace u0 := hE.cell u0
  replace u1 := hE.cell u1
  clear hE hT4 E3 y0 y1
  go_wp2_with fail
  refine (RD.out _ b4 c4 HT4.out).mono ?_
  rintro e w5 ⟨b5, c5, rfl, hT5, hE⟩
  have E5 := E4.trans hE
  replace HT2 := Lib.hid (HT2.out.ext hE)
  replace u0 := hE.cell u0
  replace u1 := hE.cell u1
  have HT5 := Lib.hid hT5
  clear hE hT5 E4 HT4 RD HO2
  have zu := cell_lt u0
  dsimp only at zu
  have EV : Ext w5 (w5.alloc (.cells #[.int .i64 dv, .slice b5 dn c5] 35)) := extA
  have v0 : (w5.alloc (.cells #[.int .i64 dv, .slice b5 dn c5] 35)).cell? ⟨w5.heap.size, 0, none⟩ = some (.int .i64 dv) := by rw [World.cell?_alloc_new]; rfl
  have v1 : (w5.alloc (.cells #[.int .i64 dv, .slice b5 dn c5] 35)).cell? ⟨w5.heap.size, 1, none⟩ = some (.slice b5 dn c5) := by rw [World.cell?_alloc_new]; rfl
  have hdi : (dn : Int) ≤ 100 := by omega
  go_wp2
  obtain ⟨vb, hvb⟩ : ∃ vb, vb = w5.heap.size := ⟨_, rfl⟩
  rw [← hvb] at v0 v1 ⊢
  replace HT2 := Lib.hid (HT2.out.ext EV)
  replace HT5 := Lib.hid (HT5.out.ext EV)
  replace u0 := EV.cell u0
  replace u1 := EV.cell u1
  have E6 := E5.trans EV
  clear EV E5 hvb zu
  generalize (w5.alloc (.cells #[.int .i64 dv, .slice b5 dn c5] 35)) = w6 at u0 u1 v0 v1 HT2 HT5 E6 ⊢
  refine wp_region_heldE 99 (Ext w6) (by kernel_rfl) ?_
  have hS : Ext w6 w6.drew := extA
  (refine ePu 0 ?_)
  (refine wpAnyE_take (oi := ?_) (v := ?_) (i := 1) ?_ (by kernel_rfl) ?_ ?_ (by assumption) ?_; rotate_left 2; (focus ((simp only [List.getElem?_toArray, List.getElem?_cons_succ, List.getElem?_cons_zero]; exact rfl))); (focus (exact fun _ _ _ h => h)); (focus (refine Or.inl ⟨by rfl, ?_⟩; intro w hSw; have hu1 := hSw.cell u1; have zu1 := cell_lt hu1; dsimp only at zu1; (first | (go_simp; done) | (go_simp; with_reducible rfl)))); (try simp only [Act.put, List.setIfInBounds_toArray, List.set_cons_zero, List.set_cons_succ]))
  ((refine ePu 2 ?_); (refine ePu 3 ?_); (refine ePu 4 ?_))
  (refine wpAnyE_take (oi := ?_) (v := ?_) (i := 5) ?_ (by kernel_rfl) ?_ ?_ (by assumption) ?_; rotate_left 2; (focus ((simp only [List.getElem?_toArray, List.getElem?_cons_succ, List.getElem?_cons_zero]; exact rfl))); (focus (exact fun _ _ _ h => h)); (focus (refine Or.inl ⟨by rfl, ?_⟩; intro w hSw; have hu0 := hSw.cell u0; have zu0 := cell_lt hu0; dsimp only at zu0; have hu1 := hSw.cell u1; have zu1 := cell_lt hu1; dsimp only at zu1; (first | (go_simp; done) | (go_simp; with_reducible rfl)))); (try simp only [Act.put, List.setIfInBounds_toArray, List.set_cons_zero, List.set_cons_succ]))
  (refine wpAnyE_take (oi := ?_) (v := ?_) (i := 7) ?_ (by kernel_rfl) ?_ ?_ (by assumption) ?_; rotate_left 2; (focus ((simp only [List.getElem?_toArray, List.getElem?_cons_succ, List.getElem?_cons_zero]; exact rfl))); (focus (exact fun _ _ _ h => h)); (focus (refine Or.inl ⟨by rfl, ?_⟩; intro w hSw; have hv0 := hSw.cell v0; have zv0 := cell_lt hv0; dsimp only at zv0; have hv1 := hSw.cell v1; have zv1 := cell_lt hv1; dsimp only at zv1; (first | (go_simp; done) | (go_simp; with_reducible rfl)))); (try simp only [Act.put, List.setIfInBounds_toArray, List.set_cons_zero, List.set_cons_succ]))
  (refine wpAnyE_one (i := 6) (o := ?_) ?_ (by kernel_rfl) (fun K hK => ?_); rotate_left; (focus ((simp only [List.getElem?_toArray, List.getElem?_cons_succ, List.getElem?_cons_zero]; exact rfl))); go_simp; refine (HP2.out _ b2 c2 (HT2.out.ext hS)).mono ?_; rintro e v9 ⟨b7, c7, rfl, hT7, hE⟩; go_wp2_with fail; refine hK.out _ _ (hS.trans hE) (fun hHeld => ?_); clear hK K hHeld; (try simp only [Act.put, List.setIfInBounds_toArray, List.set_cons_zero, List.set_cons_succ]); replace hS := hS.trans hE)
  have HT7 := Lib.hid hT7
  clear hT7 hE
  (refine wpAnyE_one (i := 8) (o := ?_) ?_ (by kernel_rfl) (fun K hK => ?_); rotate_left; (focus ((simp only [List.getElem?_toArray, List.getElem?_cons_succ, List.getElem?_cons_zero]; exact rfl))); go_simp; refine (HS.out _ b7 c7 b5 c5 HT7.out (HT5.out.ext hS)).mono ?_; rintro e v9 ⟨rfl, hE⟩; go_wp2_with fail; refine hK.out _ _ (hS.trans hE) (fun hHeld => ?_); clear hK K hHeld; (try simp only [Act.put, List.setIfInBounds_toArray, List.set_cons_zero, List.set_cons_succ]); replace hS := hS.trans hE; clear hE)
  ((refine ePu 9 ?_); (refine ePu 10 ?_); (refine ePu 11 ?_); (refine ePu 12 ?_); (refine ePu 13 ?_); (refine ePu 14 ?_); (refine ePu 15 ?_))
  (refine wpAnyE_one (i := 16) (o := ?_) ?_ (by kernel_rfl) (fun K hK => ?_); rotate_left; (focus ((simp only [List.getElem?_toArray, List.getElem?_cons_succ, List.getElem?_cons_zero]; exact rfl))); go_simp; refine (HA.out _ (E6.trans hS)).mono ?_; rintro e v9 ⟨rfl, hE⟩; go_wp2_with fail; refine hK.out _ _ (hS.trans hE) (fun hHeld => ?_); clear hK K hHeld; (try simp only [Act.put, List.setIfInBounds_toArray, List.set_cons_zero, List.set_cons_succ]); replace hS := hS.trans hE; clear hE)
  ((refine ePu 17 ?_); (refine ePu 18 ?_))
  refine wpAnyE_done (by kernel_rfl) ?_ _
  go_wp2
  go_ret
  exact ⟨rfl, E6.trans hS⟩
end Go.Proofs.YtlhpfhnbeagnaaaGreatDoor
