/- Steps of the proof: DuctR, Bends, WallE, Same, SameI, Awake, LBundles, Open, OpenH. No conditions. -/
import Derived.ProofKit
import Derived.OpenShut
import Derived.Lib.SmallJoins
import Derived.Deep.Slices
import Derived.Test.YtfigooilhnahfaaZBundles1
import Derived.Test.YtfigooilhnahfaaZBundles2
import Derived.Test.YtfigooilhnahfaaZBundles3
import Derived.Test.YtfigooilhnahfaaZBundles4
import Derived.Test.YtfigooilhnahfaaZBundles5
import Derived.Test.YtfigooilhnahfaaZBundles6
/- The reference's Ducts. -/
namespace Go.Proofs.Ytfigooilhnahfaa
open Go.RowKit

def appP (S : List Hose) (a : Hose) : List Hose := if a ∈ S then S else S ++ [a]
theorem appP_mem (S : List Hose) (a x : Hose) : x ∈ appP S a ↔ x ∈ S ∨ x = a := by
  unfold appP
  split
  · rename_i h
    constructor
    · exact .inl
    · rintro (h1 | rfl)
      · exact h1
      · exact h
  · simp
theorem appP_nodup {S : List Hose} (h : S.Nodup) (a : Hose) : (appP S a).Nodup := by
  unfold appP
  split
  · exact h
  · rename_i hn
    rw [List.nodup_append]
    refine ⟨h, by simp, ?_⟩
    intro x hx y hy e
    simp at hy
    subst hy; subst e
    exact hn hx
theorem appP_len (S : List Hose) (a : Hose) : (appP S a).length ≤ S.length + 1 := by
  unfold appP
  split
  · omega
  · simp
def allJ (S : List Hose) (l : List Pt) : Nat → List Hose
  | 0 => S
  | j + 1 => appP (allJ S l j) (pairOf (pt l j) (pt l (j + 1)))
def allK (g : Gr) (hs : List Hose) : Nat → List Hose
  | 0 => []
  | k + 1 => allJ (allK g hs k) (wayOf g (ph hs k)) ((wayOf g (ph hs k)).length - 1)
theorem allJ_len (S : List Hose) (l : List Pt) : ∀ j, (allJ S l j).length ≤ S.length + j := by
  intro j
  induction j with
  | zero => exact Nat.le_refl _
  | succ j ih =>
    have := appP_len (allJ S l j) (pairOf (pt l j) (pt l (j + 1)))
    show (appP _ _).length ≤ _
    omega
theorem allJ_same {S T : List Hose} (l : List Pt) (h : ∀ x, x ∈ S ↔ x ∈ T) (hs : S.Nodup) : ∀ j, (∀ x, x ∈ allJ S l j ↔ x ∈ pairK T l j) ∧ (allJ S l j).Nodup := by
  intro j
  induction j with
  | zero => exact ⟨h, hs⟩
  | succ j ih =>
    refine ⟨fun x => ?_, appP_nodup ih.2 _⟩
    show x ∈ appP _ _ ↔ x ∈ insP _ _
    rw [appP_mem, insP_mem, ih.1]
theorem allK_same (g : Gr) (hs : List Hose) : ∀ k, (∀ x, x ∈ allK g hs k ↔ x ∈ ductK g hs k) ∧ (allK g hs k).Nodup := by
  intro k
  induction k with
  | zero => exact ⟨fun x => Iff.rfl, List.nodup_nil⟩
  | succ k ih => exact allJ_same _ ih.1 ih.2 _
theorem allK_len (g : Gr) (hs : List Hose) (k : Nat) : (allK g hs k).length = (ductK g hs k).length :=
  List.Perm.length_eq ((List.perm_ext_iff_of_nodup (allK_same g hs k).2 (ductK_nodup g hs k)).2 (allK_same g hs k).1)

/-- a new block of four cells is there behind a call -/
structure New4 (w : World) (pb : Nat) (a b c d : Value) : Prop where
  c0 : w.cell? ⟨pb, 0, none⟩ = some a
  c1 : w.cell? ⟨pb, 1, none⟩ = some b
  c2 : w.cell? ⟨pb, 2, none⟩ = some c
  c3 : w.cell? ⟨pb, 3, none⟩ = some d
  f0 : w.frozen? ⟨pb, 0, none⟩ = false
  f1 : w.frozen? ⟨pb, 1, none⟩ = false
  f2 : w.frozen? ⟨pb, 2, none⟩ = false
  f3 : w.frozen? ⟨pb, 3, none⟩ = false
theorem New4.ext {A B : World} {pb : Nat} {a b c d : Value} (h : New4 A pb a b c d) (x : Ext A B) : New4 B pb a b c d :=
  ⟨x.cell h.c0, x.cell h.c1, x.cell h.c2, x.cell h.c3, (x.frozen (p := ⟨pb, 0, none⟩) (cell_lt h.c0)).trans h.f0, (x.frozen (p := ⟨pb, 1, none⟩) (cell_lt h.c1)).trans h.f1, (x.frozen (p := ⟨pb, 2, none⟩) (cell_lt h.c2)).trans h.f2, (x.frozen (p := ⟨pb, 3, none⟩) (cell_lt h.c3)).trans h.f3⟩
theorem New4.made (w : World) (a b c d : Value) (t : TypeId) : New4 (w.alloc (.cells #[a, b, c, d] t)) w.heap.size a b c d :=
  ⟨by rw [World.cell?_alloc_new]; rfl, by rw [World.cell?_alloc_new]; rfl, by rw [World.cell?_alloc_new]; rfl, by rw [World.cell?_alloc_new]; rfl, World.frozen?_alloc_new _ _ _ _, World.frozen?_alloc_new _ _ _ _, World.frozen?_alloc_new _ _ _ _, World.frozen?_alloc_new _ _ _ _⟩
theorem New4.drew {w : World} {pb : Nat} {a b c d : Value} (h : New4 w pb a b c d) : New4 w.drew pb a b c d := h.ext (Ext.refl _).drew
theorem Owns4.nil (w : World) : Owns4 w (.slice none 0 0) [] := World.ownsRow_nil w 0 _ _
theorem Owns4.lt {A : World} {v : Value} {N : List Hose} (ho : Owns4 A v N) {b : Nat} (hb : v.ownBlock = some b) : b < A.heap.size := (World.ownsRow.lt ho b hb).2
theorem Owns4.at {A : World} {v : Value} {N : List Hose} (ho : Owns4 A v N) {b : Nat} (hb : v.ownBlock = some b) : ∃ cur fr, A.heap[b]? = some (.cells cur 74 fr) := ownsRow_at ho hb
theorem Owns4.chg {B : Nat → Prop} {w w' : World} {v : Value} {l : List Hose} (h : Owns4 w v l) (he : Chg B w w') (hm : ∀ b, v.ownBlock = some b → ¬ B b) : Owns4 w' v l :=
  h.kept (X := fun k => ¬ B k) (n := 0) (he.kept (fun _ hk _ => hk)) hm
theorem owns4_succ {w : World} {v : Value} {N : List Hose} {x : Hose} (h : w.ownsRow 0 74 4 v (N.length + 1) (flat4 N ++ [.int .i64 x.1.1, .int .i64 x.1.2, .int .i64 x.2.1, .int .i64 x.2.2])) : Owns4 w v (N ++ [x]) := by
  unfold Owns4
  rw [flat4_append, List.length_append, List.length_singleton]
  exact h
theorem four_news {w : World} {nb : Nat} {a b c d : Value} (h0 : w.cell? ⟨nb, 0, none⟩ = some a) (h1 : w.cell? ⟨nb, 1, none⟩ = some b) (h2 : w.cell? ⟨nb, 2, none⟩ = some c) (h3 : w.cell? ⟨nb, 3, none⟩ = some d) : ∀ j u, ([a, b, c, d] : List Value)[j]? = some u → w.cell? ((⟨nb, 0, none⟩ : Addr).add j) = some u := by
  intro j u hj
  rw [Addr.add_lit, Nat.zero_add]
  match j, hj with
  | 0, hj => simp at hj; subst hj; exact h0
  | 1, hj => simp at hj; subst hj; exact h1
  | 2, hj => simp at hj; subst hj; exact h2
  | 3, hj => simp at hj; subst hj; exact h3
  | j + 4, hj => simp at hj
/-- what holds between the rounds -/
structure DqL (g : Gr) (hs : List Hose) (W0 : World) (k : Nat) (v u : Value) (w : World) : Prop where
  own : RowsO w v (ways g hs k)
  all : Owns4 w u (allK g hs k)
  be : Ext W0 w
  vb : ∀ b, v.ownBlock = some b → W0.heap.size ≤ b
  ub : ∀ b, u.ownBlock = some b → W0.heap.size ≤ b
/-- rows stay where a slice of hoses is written -/
theorem rows_beside {A B : World} {v u : Value} {LL : List (List Pt)} {N : List Hose} (hv : RowsO A v LL) (hu : Owns4 A u N) (h : Chg (fun b => u.ownBlock = some b) A B) : RowsO B v LL := by
  refine hv.kept (X := fun b => ¬ u.ownBlock = some b) (m := 0) (h.kept (fun _ hk _ => hk)) (fun b hb e => ?_) (fun b cur fr hh e => ?_)
  · obtain ⟨c1, f1, e1⟩ := hv.at hb
    obtain ⟨c2, f2, e2⟩ := hu.at e
    rw [e1] at e2
    injection e2 with e2
    injection e2 with _ e3 _
    exact absurd e3 (by decide)
  · obtain ⟨c2, f2, e2⟩ := hu.at e
    rw [hh] at e2
    injection e2 with e2
    injection e2 with _ e3 _
    exact absurd e3 (by decide)
theorem pair_beside {A B : World} {v u : Value} {LL : List (List Pt)} {N : List Hose} (hv : RowsO A v LL) (hu : Owns4 A u N) (h : Chg (fun b => v.ownBlock = some b) A B) : Owns4 B u N := by
  refine hu.chg h (fun b hb e => ?_)
  obtain ⟨c1, f1, e1⟩ := hv.at e
  obtain ⟨c2, f2, e2⟩ := hu.at hb
  rw [e1] at e2
  injection e2 with e2
  injection e2 with _ e3 _
  exact absurd e3 (by decide)
theorem places_beside {A B : World} {v u : Value} {L : List Pt} {N : List Hose} (hv : Owns A v L) (hu : Owns4 A u N) (h : Chg (fun b => u.ownBlock = some b) A B) : Owns B v L :=
  hv.kept (X := fun b => ¬ u.ownBlock = some b) (n := 0) (h.kept (fun _ hk _ => hk)) (fun b hb e => by
    obtain ⟨c1, f1, e1⟩ := ownsRow_at hv hb
    obtain ⟨c2, f2, e2⟩ := hu.at e
    rw [e1] at e2
    injection e2 with e2
    injection e2 with _ e3 _
    exact absurd e3 (by decide))
theorem places_rows {A B : World} {v u : Value} {L : List Pt} {LL : List (List Pt)} (hv : Owns A v L) (hu : RowsO A u LL) (h : Chg (fun b => u.ownBlock = some b) A B) : Owns B v L :=
  hv.kept (X := fun b => ¬ u.ownBlock = some b) (n := 0) (h.kept (fun _ hk _ => hk)) (fun b hb e => by
    obtain ⟨c1, f1, e1⟩ := ownsRow_at hv hb
    obtain ⟨c2, f2, e2⟩ := hu.at e
    rw [e1] at e2
    injection e2 with e2
    injection e2 with _ e3 _
    exact absurd e3 (by decide))
theorem Owns4.cells {w : World} {a : Option Addr} {n c : Nat} {N : List Hose} (h : Owns4 w (.slice a n c) N) : Cells4 w a N := by
  obtain ⟨a', c', hv, hc⟩ := h.reads
  injection hv with hv _ _
  subst hv
  exact hc
theorem Owns.cells {w : World} {a : Option Addr} {n c : Nat} {N : List Pt} (h : Owns w (.slice a n c) N) : Cells2 w a N := by
  obtain ⟨a', c', hv, hc, _⟩ := h.reads
  injection hv with hv _ _
  subst hv
  exact hc
theorem waves_lt (g : Gr) : ∀ (f : Nat) (seen now : List Pt) (n : Nat), ∀ x ∈ waves g f seen now n, x.2 < n + f := by
  intro f
  induction f with
  | zero => intro seen now n x hx; cases hx
  | succ f ih =>
    intro seen now n x hx
    unfold waves at hx
    split at hx
    · cases hx
    · rcases List.mem_append.1 hx with hx | hx
      · obtain ⟨q, _, rfl⟩ := List.mem_map.1 hx
        simp
      · have := ih _ _ _ x hx
        omega
theorem dst_le (g : Gr) (p q : Pt) : dst g p q ≤ 4096 := by
  have key : ∀ (l : List (Pt × Nat)) (d : Int), d ≤ 4096 → (∀ x ∈ l, x.2 ≤ 4096) → l.foldl (fun d x => if x.1 = q then (x.2 : Int) else d) d ≤ 4096 := by
    intro l
    induction l with
    | nil => intro d h _; exact h
    | cons a l ih =>
      intro d h hl
      rw [List.foldl_cons]
      refine ih _ ?_ (fun x hx => hl x (List.mem_cons_of_mem _ hx))
      have := hl a (List.mem_cons_self ..)
      split <;> omega
  refine key _ _ (by omega) (fun x hx => ?_)
  have := waves_lt g 4097 [p] [p] 0 x hx
  omega
theorem hose_is {g : Gr} {x : Hose} (hk : chk g = 0) : hoseErr g x = lenE g x.1 x.2 := by
  unfold hoseErr lenE givenErr
  rw [if_neg (show ¬ chk g ≠ 0 by simp [hk])]

set_option maxHeartbeats 8000000 in
set_option maxRecDepth 100000 in
theorem DuctsR_any (g : Gr) (hs : List Hose) (ga : Option Addr) (gc : Nat) (ha : Option Addr) (hcap : Nat) (w : World) (hg : g.bl.length ≤ maxLen) (hc : Cells2 w ga g.bl) (hl : hs.length ≤ maxLen) (hch : Cells4 w ha hs) :
    Calls Try.prog 18 #[.agg #[.int .i64 g.rows, .int .i64 g.cols, .slice ga g.bl.length gc], .slice ha hs.length hcap] w fun e w' => DuctsPost g hs w e w' := by
  have HC : Hid (Cells2 w ga g.bl) := hc
  have HH : Hid (Cells4 w ha hs) := hch
  have HG := Lib.hid hg
  have hl' : hs.length ≤ 9223372036854775807 := hl
  clear hc hg hch hl
  have E0 : Ext w (((w).alloc (.cells #[.int .i64 g.rows, .int .i64 g.cols, .slice ga g.bl.length gc] 24))) := (Ext.refl _).alloc _
  have a1 : (((w).alloc (.cells #[.int .i64 g.rows, .int .i64 g.cols, .slice ga g.bl.length gc] 24))).cell? ⟨w.heap.size, 0, none⟩ = some (.int .i64 g.rows) := by go_simp
  have a2 : (((w).alloc (.cells #[.int .i64 g.rows, .int .i64 g.cols, .slice ga g.bl.length gc] 24))).cell? ⟨w.heap.size, 1, none⟩ = some (.int .i64 g.cols) := by go_simp
  have a3 : (((w).alloc (.cells #[.int .i64 g.rows, .int .i64 g.cols, .slice ga g.bl.length gc] 24))).cell? ⟨w.heap.size, 2, none⟩ = some (.slice ga g.bl.length gc) := by go_simp
  go_enter Try.func18, Try.ntmps18
  go_wp2_with fail
  refine (CheckR_any g ga gc _ HG.out (HC.out.ext E0)).mono ?_
  rintro e W0 ⟨rfl, hE⟩
  have a1 := hE.cell a1
  have a2 := hE.cell a2
  have a3 := hE.cell a3
  have EW : Ext w W0 := E0.trans hE
  clear hE E0
  by_cases h0 : chk g = 0
  · have H0 := Lib.hid h0
    have HR := Lib.hid (right_of_chk h0)
    rw [h0]
    clear h0
    by_cases hlen : 256 < hs.length
    · have hE : Hid (ductE g hs = 5) := by show _ = _; unfold ductE; rw [if_neg (by simp [H0.out]), if_pos hlen]
      have hlen' : (256 : Int) < (hs.length : Int) := by omega
      go_wp2
      go_ret3
      exact DuctsPost.bad hE.out (by decide) EW
    · have hE : Hid (ductE g hs = hosesErr g hs hs.length 0) := by show _ = _; unfold ductE; rw [if_neg (by simp [H0.out]), if_neg hlen]
      have hlen' : ¬ (256 : Int) < (hs.length : Int) := by omega
      have hK : hs.length ≤ 256 := by omega
      clear hlen
      go_wp2_with fail
      have HCW := Lib.hid (HC.out.ext EW)
      have HHW := Lib.hid (HH.out.ext EW)
      go_loopw [8, 9, 10] (fun v u i wr => ∃ (k m : Nat) (av bv : Option Addr) (cv dv : Nat), k ≤ hs.length ∧ i = .int .i64 k ∧ v = .slice av k cv ∧ u = .slice bv m dv ∧ Hid (m = (allK g hs k).length) ∧ Hid (hosesErr g hs hs.length 0 = hosesErr g hs (hs.length - k) k) ∧ Hid (DqL g hs W0 k (.slice av k cv) (.slice bv m dv) wr)) (fun _ _ i _ => hs.length - (Go.RowKit.intOf i).toNat)
      case atStart => exact ⟨0, 0, none, none, 0, 0, Nat.zero_le _, rfl, rfl, rfl, rfl, rfl, DqL.mk (RowsO.nil _) (Owns4.nil _) (Ext.refl _) (fun b hb => by cases hb) (fun b hb => by cases hb)⟩
      case round =>
        obtain ⟨k, m, av, bv, cv, dv, hk, rfl, rfl, rfl, hm, hn, hd⟩ := hrel
        by_cases hlt : k < hs.length
        · have hlt' : (k : Int) < (hs.length : Int) := by omega
          have k0 : (0 : Int) ≤ (k : Int) := Int.natCast_nonneg k
          have g1 := hd.out.be.cell a1
          have g2 := hd.out.be.cell a2
          have g3 := hd.out.be.cell a3
          have HCr := Lib.hid (HCW.out.ext hd.out.be)
          obtain ⟨hb, hoff, rfl, e1, e2, e3, e4⟩ := (HHW.out.ext hd.out.be) k hlt
          generalize hx : ph hs k = x at e1 e2 e3 e4
          have HX := Lib.hid hx
          clear hx
          have zh := cell_lt e1
          have zg := cell_lt g1
          dsimp only at zh zg
          go_wp2_with fail
          go_region_held3 (fun w' => Sees wr w') ((repeat (first | exact Sees.refl _ | assumption | apply Sees.drew | apply Sees.alloc | (refine Sees.ext ?_ (by assumption))))) (first | (go_at_call 30; refine (RouteR_any g x.1 x.2 ga gc _ HG.out (HCr.out.ext (by exact (show Sees wr _ by assumption).2.2))).mono ?_; rintro e w' ⟨lv, rfl, hO, hE2⟩))
          have hS := (show Sees wr _ by assumption).2.2
          have HO2 := Lib.hid hO
          have HS2 := Lib.hid hS
          clear hO hS hE2 e1 e2 e3 e4 zh zg g1 g2 g3 HCr
          have HD2 := Lib.hid (DqL.mk (hd.out.own.ext HS2.out) (hd.out.all.ext HS2.out) (hd.out.be.trans HS2.out) hd.out.vb hd.out.ub)
          clear hd HS2
          generalize w' = W2 at HO2 HD2 ⊢
          by_cases hle : lenE g x.1 x.2 = 0
          · have h9 : hoseErr g x = 0 := by rw [hose_is H0.out]; exact hle
            obtain ⟨_, hop, hoq, hdd, hln⟩ := len_is hle
            have hrv : routeV g x.1 x.2 = wayOf g x := by
              unfold routeV routeL
              rw [if_neg (by simp [given_of H0.out (l := [x.1, x.2]) (by simp [hop, hoq])]), if_neg (by omega)]
              rfl
            have HOK : Hid (hosesErr g hs hs.length 0 = hosesErr g hs (hs.length - (k + 1)) (k + 1)) := by
              show _ = _
              rw [hn.out, show hs.length - k = (hs.length - (k + 1)) + 1 by omega, hosesErr_step (by rw [HX.out, h9])]
            have hw := wayOf_len hle
            have hw2 := len_bd (g := g) (p := x.1) (q := x.2)
            rw [hle]
            rw [hrv] at HO2
            obtain ⟨L, hLeq⟩ : ∃ L, L = wayOf g x := ⟨_, rfl⟩
            rw [← hLeq] at HO2 hw
            have HLEQ := Lib.hid hLeq
            have hL1 : 1 ≤ L.length := by omega
            have hL2 : L.length ≤ 4097 := by omega
            obtain ⟨la, lc, rfl, _, _⟩ := HO2.out.reads
            have hm1 : m ≤ k * 4097 := by
              rw [hm.out]
              have key : ∀ k, k ≤ hs.length → (∀ i, i < k → (wayOf g (ph hs i)).length ≤ 4097) → (allK g hs k).length ≤ k * 4097 := by
                intro k
                induction k with
                | zero => intro _ _; simp [allK]
                | succ k ih =>
                  intro h1 h2
                  have a := ih (by omega) (fun i hi => h2 i (by omega))
                  have b := allJ_len (allK g hs k) (wayOf g (ph hs k)) ((wayOf g (ph hs k)).length - 1)
                  have c := h2 k (by omega)
                  show (allJ _ _ _).length ≤ _
                  omega
              refine key k hk (fun i hi => ?_)
              unfold wayOf
              rw [way_len]
              have := dst_le g (ph hs i).2 (ph hs i).1
              omega
            clear hle h9 hop hoq hdd hln hrv hw hw2 hLeq
            have X1 : Ext W2 (W2.alloc (.cells #[.slice la L.length lc] 22)) := (Ext.refl _).alloc _
            obtain ⟨vs, h1, h2, h3⟩ := HD2.out.own.ext X1
            rw [ways_len] at h1
            have H1 := Lib.hid h1
            have H2 := Lib.hid h2
            have H3 := Lib.hid h3
            have HX1 := Lib.hid X1
            clear h1 h2 h3 X1
            obtain ⟨i0, hi, hi0, hi1, hi2⟩ := info_parts infoRow
            go_wp2_with (at_builtin; refine wpList_append1 _ rfl _ _ 39 rfl 22 i0 (.slice none 0 0) 1 24 Try.underlying39 hi hi0 hi1 hi2 rfl (by decide) (.slice av k cv) _ _ rfl H1.out ⟨W2.heap.size, 0, none⟩ 1 1 (by decide) [.slice la L.length lc] rfl rfl (cell_one_int _ _ _) ?c1 ?c2 ?c3 ?c4)
            case c1 => first | (intro u hu; simp at hu; subst hu; rfl) | rfl | simp
            case c2 => unfold maxLen; omega
            case c3 => omega
            case c4 =>
              intro v' w5 hown5 hend5
              have hlk : (ways g hs k).length = k := ways_len g hs k
              have RO := rows_app (by rw [hlk]; exact H1.out) H2.out H3.out (HO2.out.ext HX1.out) hend5 (by rw [hlk]; exact hown5)
              have hw1 : ways g hs k ++ [L] = ways g hs (k + 1) := by rw [HLEQ.out]; show _ = ways g hs k ++ [way g (ph hs k).1 (ph hs k).2]; rw [HX.out]; rfl
              rw [hw1] at RO
              obtain ⟨av', cv', hsh⟩ := RO.shape
              rw [ways_len] at hsh
              subst hsh
              have HRO := Lib.hid RO
              have CA : Chg (fun b => (Value.slice av k cv).ownBlock = some b) (W2.alloc (.cells #[.slice la L.length lc] 22)) w5 := Chg.app hend5 (B := fun b => (Value.slice av k cv).ownBlock = some b) (fun b hb => hb)
              have hz2 : W0.heap.size ≤ W2.heap.size := HD2.out.be.size
              have hzx : (W2.alloc (.cells #[.slice la L.length lc] 22)).heap.size = W2.heap.size + 1 := by simp
              have HU5 : Hid (Owns4 w5 (.slice bv m dv) (allK g hs k)) := pair_beside (HD2.out.own.ext HX1.out) (HD2.out.all.ext HX1.out) CA
              have HL5 : Hid (Owns w5 (.slice la L.length lc) L) := places_rows (HO2.out.ext HX1.out) (HD2.out.own.ext HX1.out) CA
              have HB5 : Hid (Ext W0 w5) := Below.trans (HD2.out.be.trans HX1.out) (hend5.below (n := W0.heap.size) (by omega) (fun b hb => HD2.out.vb b hb))
              have HV5 : Hid (∀ b, (Value.slice av' (k + 1) cv').ownBlock = some b → W0.heap.size ≤ b) := fun b hb => by
                rcases hend5 with ⟨h1, _, _⟩ | ⟨h1, _⟩
                · rw [h1] at hb; exact HD2.out.vb b hb
                · rw [h1] at hb
                  injection hb with hb
                  omega
              have HUB := Lib.hid HD2.out.ub
              have HZ5 : Hid (W0.heap.size ≤ w5.heap.size) := HB5.out.size
              clear hown5 hend5 hlk hw1 RO CA hz2 hzx H1 H2 H3 HX1 HO2 HD2 hi hi0 hi1 hi2 i0
              have HM1 := Lib.hid hm1
              go_wp2
              go_loopw [9, 13] (fun u i wr => ∃ (j n : Nat) (bv' : Option Addr) (dv' : Nat), j < L.length ∧ i = .int .i64 ((j : Int) + 1) ∧ u = .slice bv' n dv' ∧ Hid (n = (allJ (allK g hs k) L j).length) ∧ Hid (Owns4 wr (.slice bv' n dv') (allJ (allK g hs k) L j)) ∧ Hid (Chg (fun b => (Value.slice bv m dv).ownBlock = some b) w5 wr) ∧ Hid (Ext W0 wr) ∧ Hid (∀ b, (Value.slice bv' n dv').ownBlock = some b → (Value.slice bv m dv).ownBlock = some b ∨ w5.heap.size ≤ b)) (fun _ i _ => L.length + 1 - (Go.RowKit.intOf i).toNat)
              case atStart => exact ⟨0, m, bv, dv, by omega, rfl, rfl, hm.out, HU5.out, Chg.refl _ _, HB5.out, fun b hb => .inl hb⟩
              case round =>
                obtain ⟨j, n, bv', dv', hj, rfl, rfl, hnn, HS, HCH, HBB, HNB⟩ := hrel
                have zr5 : w5.heap.size ≤ wr.heap.size := HCH.out.1
                by_cases hjl : j + 1 < L.length
                · have hjl' : (j : Int) + 1 < (L.length : Int) := by omega
                  have HLr := places_beside HL5.out HU5.out HCH.out
                  have HLc := Owns.cells HLr
                  obtain ⟨lb, loff, rfl, d1, d2⟩ := HLc j (by omega)
                  obtain ⟨lb', loff', hla, d3, d4⟩ := HLc (j + 1) hjl
                  cases hla
                  have hst : allJ (allK g hs k) L (j + 1) = appP (allJ (allK g hs k) L j) (pairOf (pt L j) (pt L (j + 1))) := rfl
                  have HPR : Hid (∀ W', Calls Try.prog 56 #[.agg #[.int .i64 ((pt L j)).1, .int .i64 ((pt L j)).2], .agg #[.int .i64 ((pt L (j + 1))).1, .int .i64 ((pt L (j + 1))).2]] W' fun e w' => e = .returned (.agg #[.int .i64 (pairOf (pt L j) (pt L (j + 1))).1.1, .int .i64 (pairOf (pt L j) (pt L (j + 1))).1.2, .int .i64 (pairOf (pt L j) (pt L (j + 1))).2.1, .int .i64 (pairOf (pt L j) (pt L (j + 1))).2.2]) ∧ Ext W' w') := fun W' => pairR_any _ _ W'
                  generalize pairOf (pt L j) (pt L (j + 1)) = P4 at hst HPR
                  generalize pt L j = qa at d1 d2 HPR
                  generalize pt L (j + 1) = qb at d3 d4 HPR
                  have HST := Lib.hid hst
                  have zl := cell_lt d1
                  dsimp only at zl
                  clear hst HLr HLc
                  have i1 : (0 : Int) ≤ (j : Int) := Int.natCast_nonneg j
                  have i2 : (j : Int) < (L.length : Int) := by omega
                  have i3 : (0 : Int) ≤ (j : Int) + 1 := by omega
                  have i4 : IntKind.i64.wrap (j : Int) = (j : Int) := IntWalk.i64_in _ (by omega)
                  have i5 : IntKind.i64.wrap ((j : Int) + 1 + 1) = (j : Int) + 1 + 1 := IntWalk.i64_in _ (by omega)
                  have i7 : IntKind.i64.wrap ((j : Int) + 1 - 1) = (j : Int) := by rw [Int.add_sub_cancel]; exact i4
                  go_wp2_with fail
                  go_cut [14] (fun x wx => ∃ pb, x = .pointer (some ⟨pb, 0, none⟩) ∧ wx.cell? ⟨pb, 0, none⟩ = some (.int .i64 P4.1.1) ∧ wx.cell? ⟨pb, 1, none⟩ = some (.int .i64 P4.1.2) ∧ wx.cell? ⟨pb, 2, none⟩ = some (.int .i64 P4.2.1) ∧ wx.cell? ⟨pb, 3, none⟩ = some (.int .i64 P4.2.2) ∧ Ext wr wx)
                  case first =>
                    go_region_held3 (fun w' => Sees wr w') ((repeat (first | exact Sees.refl _ | assumption | apply Sees.store | apply Sees.drew | apply Sees.alloc | (refine Sees.ext ?_ (by assumption))))) (first | (go_at_call 56; refine (HPR.out _).mono ?_; rintro e w' ⟨rfl, hE2⟩; (first | (have kN := (New4.made _ _ _ _ _ _).ext hE2; obtain ⟨n1, n2, n3, n4, n5, n6, n7, n8⟩ := kN) | (have kN := (New4.made _ _ _ _ _ _).drew.ext hE2; obtain ⟨n1, n2, n3, n4, n5, n6, n7, n8⟩ := kN) | skip)))
                    all_goals (go_wp2_with fail; go_meet)
                    all_goals exact ⟨_, rfl, by go_simp, by go_simp, by go_simp, by go_simp, (show Sees wr _ by assumption).2.2⟩
                  case rest =>
                    obtain ⟨pb, rfl, k1, k2, k3, k4, EX⟩ := hcut
                    have HS6 := Lib.hid (HS.out.ext EX)
                    have HX6 := Lib.hid EX
                    clear EX d1 d2 d3 d4 zl HPR
                    generalize wc = W6 at k1 k2 k3 k4 HS6 HX6 ⊢
                    have hnl : n ≤ maxLen := by
                      have := allJ_len (allK g hs k) L j
                      rw [← hnn.out, ← hm.out] at this
                      unfold maxLen
                      omega
                    go_wp2_with fail
                    refine (hasPair_any (allJ (allK g hs k) L j) P4 bv' dv' n _ hnn.out hnl (Owns4.cells HS6.out)).mono ?_
                    rintro e W7 ⟨rfl, hE⟩
                    have k1 := hE.cell k1
                    have k2 := hE.cell k2
                    have k3 := hE.cell k3
                    have k4 := hE.cell k4
                    have HS7 := Lib.hid (HS6.out.ext hE)
                    have HX7 := Lib.hid (HX6.out.trans hE)
                    have zk := cell_lt k1
                    dsimp only at zk
                    have hz7 : wr.heap.size ≤ W7.heap.size := HX7.out.size
                    clear hE HS6 HX6
                    have HB7 : Hid (Ext W0 W7) := HBB.out.trans HX7.out
                    have HC7 : Hid (Chg (fun b => (Value.slice bv m dv).ownBlock = some b) w5 W7) := HCH.out.trans (Chg.ext HX7.out)
                    by_cases hmem : P4 ∈ allJ (allK g hs k) L j
                    · have HSJ : Hid (allJ (allK g hs k) L (j + 1) = allJ (allK g hs k) L j) := by show _ = _; rw [HST.out]; unfold appP; rw [if_pos hmem]
                      rw [decide_eq_true hmem]
                      clear hmem
                      go_wp2
                      exact ⟨⟨j + 1, n, bv', dv', by omega, by go_num, rfl, by rw [HSJ.out]; exact hnn.out, by rw [HSJ.out]; exact HS7.out, HC7.out, HB7.out, HNB.out⟩, by simp [Go.RowKit.intOf]; omega⟩
                    · have HSJ : Hid (allJ (allK g hs k) L (j + 1) = allJ (allK g hs k) L j ++ [P4]) := by show _ = _; rw [HST.out]; unfold appP; rw [if_neg hmem]
                      rw [decide_eq_false hmem]
                      clear hmem
                      obtain ⟨i0, hi, hi0, hi1, hi2⟩ := info_parts infoHs
                      have hnl2 : n ≤ 2000000 := by
                        have := allJ_len (allK g hs k) L j
                        rw [← hnn.out, ← hm.out] at this
                        omega
                      go_wp2_with (at_builtin; refine wpList_append1 _ rfl _ _ 38 rfl 74 i0 (.agg #[.int .i64 0, .int .i64 0, .int .i64 0, .int .i64 0]) 4 32 Try.underlying38 hi hi0 hi1 hi2 rfl (by decide) (.slice bv' n dv') _ _ rfl (HS7.out.ext ((Ext.refl _).alloc _)) ⟨W7.heap.size, 0, none⟩ 1 1 (by decide) [.int .i64 P4.1.1, .int .i64 P4.1.2, .int .i64 P4.2.1, .int .i64 P4.2.2] rfl rfl (four_news (by go_simp) (by go_simp) (by go_simp) (by go_simp)) ?c1 ?c2 ?c3 ?c4)
                      case c1 => intro u hu; simp at hu; rcases hu with rfl | rfl | rfl | rfl <;> rfl
                      case c2 => rw [← hnn.out]; unfold maxLen; omega
                      case c3 => rw [← hnn.out]; omega
                      case c4 =>
                        intro v8 w8 hown8 hend8
                        have O8 : Owns4 w8 v8 (allJ (allK g hs k) L j ++ [P4]) := owns4_succ hown8
                        rw [← HSJ.out] at O8
                        obtain ⟨bv8, dv8, hv8, _⟩ := O8.reads
                        have hz8 : (W7.alloc (.cells #[.int .i64 P4.1.1, .int .i64 P4.1.2, .int .i64 P4.2.1, .int .i64 P4.2.2] 74)).heap.size = W7.heap.size + 1 := by simp
                        have E8 : Ext W7 (W7.alloc (.cells #[.int .i64 P4.1.1, .int .i64 P4.1.2, .int .i64 P4.2.1, .int .i64 P4.2.2] 74)) := (Ext.refl _).alloc _
                        have CA : Chg (fun b => (Value.slice bv' n dv').ownBlock = some b) (W7.alloc (.cells #[.int .i64 P4.1.1, .int .i64 P4.1.2, .int .i64 P4.2.1, .int .i64 P4.2.2] 74)) w8 := Chg.app hend8 (B := fun b => (Value.slice bv' n dv').ownBlock = some b) (fun b hb => hb)
                        have HW0 : W0.heap.size ≤ w5.heap.size := HZ5.out
                        have HB8 : Hid (Ext W0 w8) := Below.trans (HB7.out.trans E8) (hend8.below (n := W0.heap.size) (by omega) (fun b hb => by
                          rcases HNB.out b hb with h | h
                          · exact HUB.out b h
                          · omega))
                        have HC8 : Hid (Chg (fun b => (Value.slice bv m dv).ownBlock = some b) w5 w8) := by
                          have C7 := HC7.out.trans (Chg.ext (B := fun b => (Value.slice bv m dv).ownBlock = some b) E8)
                          refine ⟨Nat.le_trans C7.1 CA.1, fun b hb hn => ?_⟩
                          rw [CA.2 b (Nat.lt_of_lt_of_le hb C7.1) (fun e => by
                            rcases HNB.out b e with h | h
                            · exact hn h
                            · omega)]
                          exact C7.2 b hb hn
                        have HN8 : Hid (∀ b, v8.ownBlock = some b → (Value.slice bv m dv).ownBlock = some b ∨ w5.heap.size ≤ b) := fun b hb => by
                          rcases hend8 with ⟨h1, _, _⟩ | ⟨h1, _⟩
                          · rw [h1] at hb; exact HNB.out b hb
                          · rw [h1] at hb
                            injection hb with hb
                            exact .inr (by omega)
                        subst hv8
                        have HO8 := Lib.hid O8
                        obtain ⟨n8, hn8⟩ : ∃ n8, n8 = (allJ (allK g hs k) L (j + 1)).length := ⟨_, rfl⟩
                        rw [← hn8] at HO8 HN8 ⊢
                        have HNE8 := Lib.hid hn8
                        clear hn8 O8 CA E8 hown8 hend8 hz8 HS7
                        go_wp2
                        exact ⟨⟨j + 1, n8, bv8, dv8, by omega, by go_num, rfl, HNE8.out, HO8.out, HC8.out, HB8.out, HN8.out⟩, by simp [Go.RowKit.intOf]; omega⟩
                · have hje : L.length - 1 = j := by omega
                  have hjl' : ¬ (j : Int) + 1 < (L.length : Int) := by omega
                  have HAK : Hid (allK g hs (k + 1) = allJ (allK g hs k) L j) := by
                    show allJ (allK g hs k) (wayOf g (ph hs k)) ((wayOf g (ph hs k)).length - 1) = _
                    rw [HX.out, ← HLEQ.out, hje]
                  have HRO8 := Lib.hid (rows_beside HRO.out HU5.out HCH.out)
                  go_wp2
                  refine ⟨⟨k + 1, n, av', bv', cv', dv', by omega, by go_num, rfl, rfl, by rw [HAK.out]; exact hnn.out, HOK.out, DqL.mk HRO8.out (by rw [HAK.out]; exact HS.out) HBB.out HV5.out (fun b hb => ?_)⟩, by simp [Go.RowKit.intOf]; omega⟩
                  rcases HNB.out b hb with h | h
                  · exact HUB.out b h
                  · have := HZ5.out; omega
          · have h9 : hoseErr g x = lenE g x.1 x.2 := hose_is H0.out
            have HBAD : Hid (ductE g hs = lenE g x.1 x.2) := by
              show _ = _
              rw [hE.out, hn.out, show hs.length - k = (hs.length - (k + 1)) + 1 by omega, hosesErr_stop (by rw [HX.out, h9]; exact hle), HX.out, h9]
            have HNE := Lib.hid hle
            have hb : (lenE g x.1 x.2 != 0) = true := by simp [hle]
            have hb2 : (lenE g x.1 x.2 == 0) = false := by simp [hle]
            clear hle h9
            go_wp2
            go_ret3
            exact DuctsPost.bad HBAD.out HNE.out (EW.trans HD2.out.be)
        · have hk2 : k = hs.length := by omega
          subst hk2
          have hlt' : ¬ (hs.length : Int) < (hs.length : Int) := by omega
          obtain ⟨a', c', hv', hrr⟩ := hd.out.own.reads
          rw [ways_len] at hv'
          injection hv' with hv1 _ hv2
          subst hv1; subst hv2
          have HRR := Lib.hid hrr
          have hz : ductE g hs = 0 := by rw [hE.out, hn.out, Nat.sub_self]; rfl
          have hL1 : ductL g hs = ways g hs hs.length := by unfold ductL; rw [if_neg (by simp [hz])]
          have hN1 : ductN g hs = (m : Int) := by unfold ductN; rw [if_neg (by simp [hz]), hm.out, allK_len]
          have HZ := Lib.hid hz
          have HL1 := Lib.hid hL1
          have HN1 := Lib.hid hN1
          clear hz hL1 hN1 hrr
          go_wp2
          go_ret3
          refine ⟨av, cv, ?_, by rw [HL1.out]; exact HRR.out, EW.trans hd.out.be⟩
          rw [HL1.out, HN1.out, HZ.out, ways_len]
          rfl
  · have hE : Hid (ductE g hs = chk g) := by show _ = _; unfold ductE; rw [if_pos h0]
    have hb : (chk g != 0) = true := by simp [h0]
    have hb2 : (chk g == 0) = false := by simp [h0]
    have H0 := Lib.hid h0
    clear h0
    go_wp2
    go_ret3
    exact DuctsPost.bad hE.out H0.out EW
end Go.Proofs.Ytfigooilhnahfaa
/- Bends. -/
namespace Go.Proofs.Ytfigooilhnahfaa
open Go.RowKit Go.Maps

/-- the bends among the first k cells -/
def bendN (l : List Pt) : Nat → Nat
  | 0 => 0
  | k + 1 => bendN l k + (if 2 ≤ k ∧ (pt l (k - 2)).1 ≠ (pt l k).1 ∧ (pt l (k - 2)).2 ≠ (pt l k).2 then 1 else 0)
theorem bendN_le (l : List Pt) : ∀ k, bendN l k ≤ k := by
  intro k
  induction k with
  | zero => exact Nat.le_refl _
  | succ k ih => unfold bendN; split <;> omega
theorem bendN_two (l : List Pt) : bendN l 2 = 0 := by simp [bendN]
def bendV (g : Gr) (l : List Pt) : Int := if listedErr g l ≠ 0 then 0 else if joinedB l = false then 0 else ((bendN l (max 2 l.length) : Nat) : Int)
def bendE (g : Gr) (l : List Pt) : Int := if listedErr g l ≠ 0 then listedErr g l else if joinedB l = false then 3 else 0

set_option maxHeartbeats 2000000 in
set_option maxRecDepth 100000 in
theorem Bends_any (g : Gr) (l : List Pt) (ga : Option Addr) (gc : Nat) (a : Option Addr) (cap : Nat) (w : World) (hg : g.bl.length ≤ maxLen) (hc : Cells2 w ga g.bl) (hl : l.length ≤ maxLen) (hcl : Cells2 w a l) :
    Calls Try.prog 34 #[.agg #[.int .i64 g.rows, .int .i64 g.cols, .slice ga g.bl.length gc], .slice a l.length cap] w fun e w' => e = .returned (.tuple #[.int .i64 (bendV g l), .int .i64 (bendE g l)]) ∧ Ext w w' := by
  have HC : Hid (Cells2 w ga g.bl) := hc
  have HL : Hid (Cells2 w a l) := hcl
  have HG := Lib.hid hg
  have HM := Lib.hid hl
  clear hc hcl hg hl
  have E0 : Ext w (((w).alloc (.cells #[.int .i64 g.rows, .int .i64 g.cols, .slice ga g.bl.length gc] 33))) := (Ext.refl _).alloc _
  have a1 : (((w).alloc (.cells #[.int .i64 g.rows, .int .i64 g.cols, .slice ga g.bl.length gc] 33))).cell? ⟨w.heap.size, 0, none⟩ = some (.int .i64 g.rows) := by go_simp
  have a2 : (((w).alloc (.cells #[.int .i64 g.rows, .int .i64 g.cols, .slice ga g.bl.length gc] 33))).cell? ⟨w.heap.size, 1, none⟩ = some (.int .i64 g.cols) := by go_simp
  have a3 : (((w).alloc (.cells #[.int .i64 g.rows, .int .i64 g.cols, .slice ga g.bl.length gc] 33))).cell? ⟨w.heap.size, 2, none⟩ = some (.slice ga g.bl.length gc) := by go_simp
  by_cases h0 : listedErr g l = 0
  · obtain ⟨hr, hne, hlen, ho⟩ := listed_ok h0
    have HR := Lib.hid hr
    have HIN : Hid (∀ i, i < l.length → inside g (pt l i) = true) := fun i hi => opn_inside (ho _ (pt_mem hi))
    have hv : Hid (bendV g l = (if joinedB l = false then 0 else ((bendN l (max 2 l.length) : Nat) : Int)) ∧ bendE g l = if joinedB l = false then 3 else 0) := by
      show _ ∧ _
      unfold bendV bendE
      exact ⟨by rw [if_neg (by simp [h0])], by rw [if_neg (by simp [h0])]⟩
    have H0 := Lib.hid h0
    have HLEN := Lib.hid hlen
    clear hr ho h0 hne
    go_enter Try.func34, Try.ntmps34
    go_wp2_with fail
    refine (listed_any g l ga gc a cap _ HG.out (HC.out.ext E0) HM.out (HL.out.ext E0)).mono ?_
    rintro e w1 ⟨rfl, hE⟩
    rw [H0.out]
    have E1 : Ext w w1 := E0.trans hE
    clear hE E0 a1 a2 a3
    go_wp2_with fail
    refine (joined_any l a cap _ HLEN.out (fun i hi => inG_of HR.out (HIN.out i hi)) (HL.out.ext E1)).mono ?_
    rintro e w2 ⟨rfl, hE⟩
    have E2 : Ext w w2 := E1.trans hE
    clear hE E1
    cases hj : joinedB l
    · have HJ := Lib.hid hj
      clear hj
      go_wp2
      go_ret2
      refine ⟨?_, E2⟩
      rw [hv.out.1, hv.out.2, HJ.out]
      rfl
    · have HJ := Lib.hid hj
      clear hj
      go_wp2
      go_loopw [7, 8] (fun n i wr => ∃ k : Nat, 2 ≤ k ∧ k ≤ max 2 l.length ∧ i = .int .i64 k ∧ n = .int .i64 (bendN l k) ∧ Ext w2 wr) (fun _ i _ => l.length - (intOf i).toNat)
      case atStart => exact ⟨2, Nat.le_refl _, by omega, rfl, by rw [bendN_two]; rfl, Ext.refl _⟩
      case round =>
        obtain ⟨k, hk2, hkm, rfl, rfl, he⟩ := hrel
        have hnb := bendN_le l k
        by_cases hlt : k < l.length
        · obtain ⟨b, off, ha, e1, e2⟩ := HL.out.ext (E2.trans he) k hlt
          obtain ⟨b', off', ha', f1, f2⟩ := HL.out.ext (E2.trans he) (k - 2) (by omega)
          subst ha
          cases ha'
          have q0 : IntKind.i64.wrap ((k : Int) - 2) = (k : Int) - 2 := IntWalk.i64_in _ (by omega)
          have q1 : ((k : Int) - 2).toNat = k - 2 := by omega
          have q2 : 0 ≤ (k : Int) - 2 := by omega
          have q3 : (2 : Int) ≤ (k : Int) := by omega
          have q4 : (k : Int) - 2 < (l.length : Int) := by omega
          have q5 : IntKind.i64.wrap ((bendN l k : Int) + 1) = (bendN l k : Int) + 1 := IntWalk.i64_in _ (by omega)
          have zb := cell_lt f1
          dsimp only at zb
          have HK := Lib.hid (show bendN l (k + 1) = bendN l k + (if 2 ≤ k ∧ (pt l (k - 2)).1 ≠ (pt l k).1 ∧ (pt l (k - 2)).2 ≠ (pt l k).2 then 1 else 0) from rfl)
          cases hx : ((pt l (k - 2)).1 != (pt l k).1)
          · go_wp2_with fail
            go_region
            · have E3 : Ext wr (((wr.alloc (.cells #[.int .i64 (pt l (k - 2)).1, .int .i64 (pt l (k - 2)).2] 26)).alloc (.cells #[.int .i64 (pt l k).1, .int .i64 (pt l k).2] 26)).drew) := (((Ext.refl _).alloc _).alloc _).drew
              have p1 : (((wr.alloc (.cells #[.int .i64 (pt l (k - 2)).1, .int .i64 (pt l (k - 2)).2] 26)).alloc (.cells #[.int .i64 (pt l k).1, .int .i64 (pt l k).2] 26)).drew).cell? ⟨wr.heap.size, 0, none⟩ = some (.int .i64 (pt l (k - 2)).1) := by go_simp
              have p2 : (((wr.alloc (.cells #[.int .i64 (pt l (k - 2)).1, .int .i64 (pt l (k - 2)).2] 26)).alloc (.cells #[.int .i64 (pt l k).1, .int .i64 (pt l k).2] 26)).drew).cell? ⟨wr.heap.size, 1, none⟩ = some (.int .i64 (pt l (k - 2)).2) := by go_simp
              have p3 : (((wr.alloc (.cells #[.int .i64 (pt l (k - 2)).1, .int .i64 (pt l (k - 2)).2] 26)).alloc (.cells #[.int .i64 (pt l k).1, .int .i64 (pt l k).2] 26)).drew).cell? ⟨wr.heap.size + 1, 0, none⟩ = some (.int .i64 (pt l k).1) := by go_simp
              have p4 : (((wr.alloc (.cells #[.int .i64 (pt l (k - 2)).1, .int .i64 (pt l (k - 2)).2] 26)).alloc (.cells #[.int .i64 (pt l k).1, .int .i64 (pt l k).2] 26)).drew).cell? ⟨wr.heap.size + 1, 1, none⟩ = some (.int .i64 (pt l k).2) := by go_simp
              clear e1 e2 f1 f2
              generalize (((wr.alloc (.cells #[.int .i64 (pt l (k - 2)).1, .int .i64 (pt l (k - 2)).2] 26)).alloc (.cells #[.int .i64 (pt l k).1, .int .i64 (pt l k).2] 26)).drew) = W at p1 p2 p3 p4 E3 ⊢
              go_wp2
              refine ⟨⟨k + 1, by omega, by omega, by go_num, ?_, he.trans E3⟩, by simp [intOf]; omega⟩
              rw [HK.out, if_neg (fun h => by first | exact absurd h.2.1 (by simpa using hx) | exact absurd h.2.2 (by simpa using hy))]
              rfl
            · have E3 : Ext wr (((wr.alloc (.cells #[.int .i64 (pt l k).1, .int .i64 (pt l k).2] 26)).alloc (.cells #[.int .i64 (pt l (k - 2)).1, .int .i64 (pt l (k - 2)).2] 26)).drew) := (((Ext.refl _).alloc _).alloc _).drew
              have p1 : (((wr.alloc (.cells #[.int .i64 (pt l k).1, .int .i64 (pt l k).2] 26)).alloc (.cells #[.int .i64 (pt l (k - 2)).1, .int .i64 (pt l (k - 2)).2] 26)).drew).cell? ⟨wr.heap.size + 1, 0, none⟩ = some (.int .i64 (pt l (k - 2)).1) := by go_simp
              have p2 : (((wr.alloc (.cells #[.int .i64 (pt l k).1, .int .i64 (pt l k).2] 26)).alloc (.cells #[.int .i64 (pt l (k - 2)).1, .int .i64 (pt l (k - 2)).2] 26)).drew).cell? ⟨wr.heap.size + 1, 1, none⟩ = some (.int .i64 (pt l (k - 2)).2) := by go_simp
              have p3 : (((wr.alloc (.cells #[.int .i64 (pt l k).1, .int .i64 (pt l k).2] 26)).alloc (.cells #[.int .i64 (pt l (k - 2)).1, .int .i64 (pt l (k - 2)).2] 26)).drew).cell? ⟨wr.heap.size, 0, none⟩ = some (.int .i64 (pt l k).1) := by go_simp
              have p4 : (((wr.alloc (.cells #[.int .i64 (pt l k).1, .int .i64 (pt l k).2] 26)).alloc (.cells #[.int .i64 (pt l (k - 2)).1, .int .i64 (pt l (k - 2)).2] 26)).drew).cell? ⟨wr.heap.size, 1, none⟩ = some (.int .i64 (pt l k).2) := by go_simp
              clear e1 e2 f1 f2
              generalize (((wr.alloc (.cells #[.int .i64 (pt l k).1, .int .i64 (pt l k).2] 26)).alloc (.cells #[.int .i64 (pt l (k - 2)).1, .int .i64 (pt l (k - 2)).2] 26)).drew) = W at p1 p2 p3 p4 E3 ⊢
              go_wp2
              refine ⟨⟨k + 1, by omega, by omega, by go_num, ?_, he.trans E3⟩, by simp [intOf]; omega⟩
              rw [HK.out, if_neg (fun h => by first | exact absurd h.2.1 (by simpa using hx) | exact absurd h.2.2 (by simpa using hy))]
              rfl
          · cases hy : ((pt l (k - 2)).2 != (pt l k).2)
            · go_wp2_with fail
              go_region
              · have E3 : Ext wr (((wr.alloc (.cells #[.int .i64 (pt l (k - 2)).1, .int .i64 (pt l (k - 2)).2] 26)).alloc (.cells #[.int .i64 (pt l k).1, .int .i64 (pt l k).2] 26)).drew) := (((Ext.refl _).alloc _).alloc _).drew
                have p1 : (((wr.alloc (.cells #[.int .i64 (pt l (k - 2)).1, .int .i64 (pt l (k - 2)).2] 26)).alloc (.cells #[.int .i64 (pt l k).1, .int .i64 (pt l k).2] 26)).drew).cell? ⟨wr.heap.size, 0, none⟩ = some (.int .i64 (pt l (k - 2)).1) := by go_simp
                have p2 : (((wr.alloc (.cells #[.int .i64 (pt l (k - 2)).1, .int .i64 (pt l (k - 2)).2] 26)).alloc (.cells #[.int .i64 (pt l k).1, .int .i64 (pt l k).2] 26)).drew).cell? ⟨wr.heap.size, 1, none⟩ = some (.int .i64 (pt l (k - 2)).2) := by go_simp
                have p3 : (((wr.alloc (.cells #[.int .i64 (pt l (k - 2)).1, .int .i64 (pt l (k - 2)).2] 26)).alloc (.cells #[.int .i64 (pt l k).1, .int .i64 (pt l k).2] 26)).drew).cell? ⟨wr.heap.size + 1, 0, none⟩ = some (.int .i64 (pt l k).1) := by go_simp
                have p4 : (((wr.alloc (.cells #[.int .i64 (pt l (k - 2)).1, .int .i64 (pt l (k - 2)).2] 26)).alloc (.cells #[.int .i64 (pt l k).1, .int .i64 (pt l k).2] 26)).drew).cell? ⟨wr.heap.size + 1, 1, none⟩ = some (.int .i64 (pt l k).2) := by go_simp
                clear e1 e2 f1 f2
                generalize (((wr.alloc (.cells #[.int .i64 (pt l (k - 2)).1, .int .i64 (pt l (k - 2)).2] 26)).alloc (.cells #[.int .i64 (pt l k).1, .int .i64 (pt l k).2] 26)).drew) = W at p1 p2 p3 p4 E3 ⊢
                go_wp2
                refine ⟨⟨k + 1, by omega, by omega, by go_num, ?_, he.trans E3⟩, by simp [intOf]; omega⟩
                rw [HK.out, if_neg (fun h => by first | exact absurd h.2.1 (by simpa using hx) | exact absurd h.2.2 (by simpa using hy))]
                rfl
              · have E3 : Ext wr (((wr.alloc (.cells #[.int .i64 (pt l k).1, .int .i64 (pt l k).2] 26)).alloc (.cells #[.int .i64 (pt l (k - 2)).1, .int .i64 (pt l (k - 2)).2] 26)).drew) := (((Ext.refl _).alloc _).alloc _).drew
                have p1 : (((wr.alloc (.cells #[.int .i64 (pt l k).1, .int .i64 (pt l k).2] 26)).alloc (.cells #[.int .i64 (pt l (k - 2)).1, .int .i64 (pt l (k - 2)).2] 26)).drew).cell? ⟨wr.heap.size + 1, 0, none⟩ = some (.int .i64 (pt l (k - 2)).1) := by go_simp
                have p2 : (((wr.alloc (.cells #[.int .i64 (pt l k).1, .int .i64 (pt l k).2] 26)).alloc (.cells #[.int .i64 (pt l (k - 2)).1, .int .i64 (pt l (k - 2)).2] 26)).drew).cell? ⟨wr.heap.size + 1, 1, none⟩ = some (.int .i64 (pt l (k - 2)).2) := by go_simp
                have p3 : (((wr.alloc (.cells #[.int .i64 (pt l k).1, .int .i64 (pt l k).2] 26)).alloc (.cells #[.int .i64 (pt l (k - 2)).1, .int .i64 (pt l (k - 2)).2] 26)).drew).cell? ⟨wr.heap.size, 0, none⟩ = some (.int .i64 (pt l k).1) := by go_simp
                have p4 : (((wr.alloc (.cells #[.int .i64 (pt l k).1, .int .i64 (pt l k).2] 26)).alloc (.cells #[.int .i64 (pt l (k - 2)).1, .int .i64 (pt l (k - 2)).2] 26)).drew).cell? ⟨wr.heap.size, 1, none⟩ = some (.int .i64 (pt l k).2) := by go_simp
                clear e1 e2 f1 f2
                generalize (((wr.alloc (.cells #[.int .i64 (pt l k).1, .int .i64 (pt l k).2] 26)).alloc (.cells #[.int .i64 (pt l (k - 2)).1, .int .i64 (pt l (k - 2)).2] 26)).drew) = W at p1 p2 p3 p4 E3 ⊢
                go_wp2
                refine ⟨⟨k + 1, by omega, by omega, by go_num, ?_, he.trans E3⟩, by simp [intOf]; omega⟩
                rw [HK.out, if_neg (fun h => by first | exact absurd h.2.1 (by simpa using hx) | exact absurd h.2.2 (by simpa using hy))]
                rfl
            · go_wp2_with fail
              go_region
              · have E3 : Ext wr (((wr.alloc (.cells #[.int .i64 (pt l (k - 2)).1, .int .i64 (pt l (k - 2)).2] 26)).alloc (.cells #[.int .i64 (pt l k).1, .int .i64 (pt l k).2] 26)).drew) := (((Ext.refl _).alloc _).alloc _).drew
                have p1 : (((wr.alloc (.cells #[.int .i64 (pt l (k - 2)).1, .int .i64 (pt l (k - 2)).2] 26)).alloc (.cells #[.int .i64 (pt l k).1, .int .i64 (pt l k).2] 26)).drew).cell? ⟨wr.heap.size, 0, none⟩ = some (.int .i64 (pt l (k - 2)).1) := by go_simp
                have p2 : (((wr.alloc (.cells #[.int .i64 (pt l (k - 2)).1, .int .i64 (pt l (k - 2)).2] 26)).alloc (.cells #[.int .i64 (pt l k).1, .int .i64 (pt l k).2] 26)).drew).cell? ⟨wr.heap.size, 1, none⟩ = some (.int .i64 (pt l (k - 2)).2) := by go_simp
                have p3 : (((wr.alloc (.cells #[.int .i64 (pt l (k - 2)).1, .int .i64 (pt l (k - 2)).2] 26)).alloc (.cells #[.int .i64 (pt l k).1, .int .i64 (pt l k).2] 26)).drew).cell? ⟨wr.heap.size + 1, 0, none⟩ = some (.int .i64 (pt l k).1) := by go_simp
                have p4 : (((wr.alloc (.cells #[.int .i64 (pt l (k - 2)).1, .int .i64 (pt l (k - 2)).2] 26)).alloc (.cells #[.int .i64 (pt l k).1, .int .i64 (pt l k).2] 26)).drew).cell? ⟨wr.heap.size + 1, 1, none⟩ = some (.int .i64 (pt l k).2) := by go_simp
                clear e1 e2 f1 f2
                generalize (((wr.alloc (.cells #[.int .i64 (pt l (k - 2)).1, .int .i64 (pt l (k - 2)).2] 26)).alloc (.cells #[.int .i64 (pt l k).1, .int .i64 (pt l k).2] 26)).drew) = W at p1 p2 p3 p4 E3 ⊢
                go_wp2
                refine ⟨⟨k + 1, by omega, by omega, by go_num, ?_, he.trans E3⟩, by simp [intOf]; omega⟩
                rw [HK.out, if_pos ⟨hk2, by simpa using hx, by simpa using hy⟩]
                first | rfl | go_num | (simp)
              · have E3 : Ext wr (((wr.alloc (.cells #[.int .i64 (pt l k).1, .int .i64 (pt l k).2] 26)).alloc (.cells #[.int .i64 (pt l (k - 2)).1, .int .i64 (pt l (k - 2)).2] 26)).drew) := (((Ext.refl _).alloc _).alloc _).drew
                have p1 : (((wr.alloc (.cells #[.int .i64 (pt l k).1, .int .i64 (pt l k).2] 26)).alloc (.cells #[.int .i64 (pt l (k - 2)).1, .int .i64 (pt l (k - 2)).2] 26)).drew).cell? ⟨wr.heap.size + 1, 0, none⟩ = some (.int .i64 (pt l (k - 2)).1) := by go_simp
                have p2 : (((wr.alloc (.cells #[.int .i64 (pt l k).1, .int .i64 (pt l k).2] 26)).alloc (.cells #[.int .i64 (pt l (k - 2)).1, .int .i64 (pt l (k - 2)).2] 26)).drew).cell? ⟨wr.heap.size + 1, 1, none⟩ = some (.int .i64 (pt l (k - 2)).2) := by go_simp
                have p3 : (((wr.alloc (.cells #[.int .i64 (pt l k).1, .int .i64 (pt l k).2] 26)).alloc (.cells #[.int .i64 (pt l (k - 2)).1, .int .i64 (pt l (k - 2)).2] 26)).drew).cell? ⟨wr.heap.size, 0, none⟩ = some (.int .i64 (pt l k).1) := by go_simp
                have p4 : (((wr.alloc (.cells #[.int .i64 (pt l k).1, .int .i64 (pt l k).2] 26)).alloc (.cells #[.int .i64 (pt l (k - 2)).1, .int .i64 (pt l (k - 2)).2] 26)).drew).cell? ⟨wr.heap.size, 1, none⟩ = some (.int .i64 (pt l k).2) := by go_simp
                clear e1 e2 f1 f2
                generalize (((wr.alloc (.cells #[.int .i64 (pt l k).1, .int .i64 (pt l k).2] 26)).alloc (.cells #[.int .i64 (pt l (k - 2)).1, .int .i64 (pt l (k - 2)).2] 26)).drew) = W at p1 p2 p3 p4 E3 ⊢
                go_wp2
                refine ⟨⟨k + 1, by omega, by omega, by go_num, ?_, he.trans E3⟩, by simp [intOf]; omega⟩
                rw [HK.out, if_pos ⟨hk2, by simpa using hx, by simpa using hy⟩]
                first | rfl | go_num | (simp)
        · go_wp2
          go_ret2
          refine ⟨?_, E2.trans he⟩
          rw [hv.out.1, hv.out.2, HJ.out, show max 2 l.length = k by omega]
          rfl
  · have hv : Hid (bendV g l = 0 ∧ bendE g l = listedErr g l) := by
      show _ ∧ _
      unfold bendV bendE
      rw [if_pos h0, if_pos h0]
      exact ⟨rfl, rfl⟩
    have hb : (listedErr g l != 0) = true := by simp [h0]
    have hb2 : (listedErr g l == 0) = false := by simp [h0]
    clear h0
    go_enter Try.func34, Try.ntmps34
    go_wp2_with fail
    refine (listed_any g l ga gc a cap _ HG.out (HC.out.ext E0) HM.out (HL.out.ext E0)).mono ?_
    rintro e w1 ⟨rfl, hE⟩
    go_wp2
    go_ret2
    rw [hv.out.1, hv.out.2]
    exact ⟨rfl, E0.trans hE⟩
end Go.Proofs.Ytfigooilhnahfaa
/- The examples of the chapter, reckoned. -/
namespace Go.Proofs.Ytfigooilhnahfaa

theorem wall_way : way wallG (0, 1) (2, 1) = [(0, 1), (0, 0), (1, 0), (2, 0), (2, 1)] := by decide +kernel
theorem wall_chk : chk wallG = 0 := by decide +kernel
theorem wall_given : givenErr wallG [(0, 1), (2, 1)] = 0 := by decide +kernel
theorem wall_dst : dst wallG (2, 1) (0, 1) = 4 := by decide +kernel
theorem wall_bends : bendV wallG [(0, 1), (0, 0), (1, 0), (2, 0), (2, 1)] = 2 ∧ bendE wallG [(0, 1), (0, 0), (1, 0), (2, 0), (2, 1)] = 0 := by decide +kernel
theorem wall_meet : meetP wallG (0, 0) (0, 3) (2, 0) = (0, 0) ∧ meetN wallG (0, 0) (0, 3) (2, 0) = 5 ∧ meetE wallG (0, 0) (0, 3) (2, 0) = 0 := by decide +kernel
theorem wall_duct : ductN wallG [((0, 0), (0, 3)), ((0, 1), (2, 0))] = 5 ∧ ductE wallG [((0, 0), (0, 3)), ((0, 1), (2, 0))] = 0 := by decide +kernel
theorem wall_route : routeV wallG (0, 1) (2, 1) = [(0, 1), (0, 0), (1, 0), (2, 0), (2, 1)] ∧ lenE wallG (0, 1) (2, 1) = 0 := by decide +kernel
theorem wall_parts : partsL wallG = [10] := by
  have h : partsU wallG = [10] := by decide +kernel
  unfold partsL
  rw [if_neg (by rw [wall_chk]; decide), h]
  simp
end Go.Proofs.Ytfigooilhnahfaa
/- Whether two lists of places are the same. -/
namespace Go.Proofs.Ytfigooilhnahfaa
open Go.RowKit

theorem pts_ext {l m : List Pt} (hl : l.length = m.length) (h : ∀ j, j < l.length → pt l j = pt m j) : l = m := by
  refine List.ext_getElem hl fun i h1 h2 => ?_
  have := h i h1
  unfold pt at this
  rw [List.getD_eq_getElem?_getD, List.getD_eq_getElem?_getD, List.getElem?_eq_getElem h1, List.getElem?_eq_getElem h2] at this
  simpa using this

set_option maxHeartbeats 1000000 in
theorem Same_any (l m : List Pt) (a a' : Option Addr) (cap cap' : Nat) (w : World) (hl : l.length ≤ maxLen) (hc : Cells2 w a l) (hd : Cells2 w a' m) :
    Calls Try.prog 31 #[.slice a l.length cap, .slice a' m.length cap'] w fun e w' => e = .returned (.bool (decide (l = m))) ∧ Ext w w' := by
  unfold maxLen at hl
  by_cases hlen : l.length = m.length
  · have HLE := Lib.hid hlen
    have hle : ((l.length : Int) != (m.length : Int)) = false := by simp [hlen]
    have hle2 : (l.length != m.length) = false := by simp [hlen]
    clear hlen
    go_enter Try.func31, Try.ntmps31
    go_wp2
    go_loopw [5] (fun i wr => ∃ k : Nat, k ≤ l.length ∧ i = .int .i64 k ∧ Hid (∀ j, j < k → pt l j = pt m j) ∧ Ext w wr) (fun i _ => l.length - (intOf i).toNat)
    case atStart => exact ⟨0, Nat.zero_le _, rfl, fun j hj => by omega, Ext.refl _⟩
    case round =>
      obtain ⟨k, hk, rfl, hn, he⟩ := hrel
      by_cases hlt : k < l.length
      · obtain ⟨b, off, ha, e1, e2⟩ := hc.ext he k hlt
        obtain ⟨b', off', ha', d1, d2⟩ := hd.ext he k (by have := HLE.out; omega)
        have HC : Hid (Cells2 w a l) := hc
        have HD : Hid (Cells2 w a' m) := hd
        subst ha ha'
        clear hc hd
        have hkm : (k : Int) < (m.length : Int) := by have := HLE.out; omega
        by_cases heq : pt l k = pt m k
        · have HN : Hid (pt l k = pt m k) := heq
          rw [heq] at e1 e2
          clear heq
          go_wp2
          go_quiet (fail)
          go_wp2
          refine ⟨⟨k + 1, by omega, by go_num, fun j hj => ?_, he.drewN _⟩, by simp [intOf]; omega⟩
          by_cases e : j = k
          · subst e; exact HN.out
          · exact hn.out j (by omega)
        · have hne : Hid (l ≠ m) := by rintro rfl; exact heq rfl
          by_cases h1 : (pt l k).1 = (pt m k).1
          · have h2 : ((pt l k).2 == (pt m k).2) = false := by
              cases hb : ((pt l k).2 == (pt m k).2)
              · rfl
              · exact absurd (Prod.ext h1 (by simpa using hb)) heq
            rw [h1] at e1
            clear heq h1
            go_wp2
            go_quiet (fail)
            go_wp2
            go_ret
            exact ⟨ret_bool (by simp [hne.out]), he.drewN _⟩
          · have h2 : ((pt l k).1 == (pt m k).1) = false := by simpa using h1
            clear heq h1
            go_wp2
            go_quiet (fail)
            go_wp2
            go_ret
            exact ⟨ret_bool (by simp [hne.out]), he.drewN _⟩
      · go_wp2
        go_ret
        refine ⟨ret_bool ?_, he⟩
        symm
        rw [decide_eq_true_eq]
        exact pts_ext HLE.out (fun j hj => hn.out j (by omega))
  · have hne : l ≠ m := by rintro rfl; exact hlen rfl
    have hle : ((l.length : Int) != (m.length : Int)) = true := by simp; omega
    have hle2 : (l.length != m.length) = true := by simp; omega
    have hle3 : ((l.length : Int) == (m.length : Int)) = false := by simp; omega
    have hle4 : (l.length == m.length) = false := by simp; omega
    have HNE := Lib.hid hne
    clear hne hlen
    go_enter Try.func31, Try.ntmps31
    go_wp2
    go_ret
    exact ⟨ret_bool (by simp [HNE.out]), Ext.refl _⟩

set_option maxHeartbeats 1000000 in
theorem EqualP_any (l m : List Pt) (a a' : Option Addr) (cap cap' : Nat) (w : World) (hl : l.length ≤ maxLen) (hc : Cells2 w a l) (hd : Cells2 w a' m) :
    Calls Try.prog 46 #[.slice a l.length cap, .slice a' m.length cap'] w fun e w' => e = .returned (.bool (decide (l = m))) ∧ Ext w w' := by
  unfold maxLen at hl
  by_cases hlen : l.length = m.length
  · have HLE := Lib.hid hlen
    have hle : ((l.length : Int) != (m.length : Int)) = false := by simp [hlen]
    have hle2 : (l.length != m.length) = false := by simp [hlen]
    clear hlen
    go_enter Try.func46, Try.ntmps46
    go_wp2
    go_loopw [13] (fun i wr => ∃ k : Nat, k ≤ l.length ∧ i = .int .i64 k ∧ Hid (∀ j, j < k → pt l j = pt m j) ∧ Ext w wr) (fun i _ => l.length - (intOf i).toNat)
    case atStart => exact ⟨0, Nat.zero_le _, rfl, fun j hj => by omega, Ext.refl _⟩
    case round =>
      obtain ⟨k, hk, rfl, hn, he⟩ := hrel
      by_cases hlt : k < l.length
      · obtain ⟨b, off, ha, e1, e2⟩ := hc.ext he k hlt
        obtain ⟨b', off', ha', d1, d2⟩ := hd.ext he k (by have := HLE.out; omega)
        have HC : Hid (Cells2 w a l) := hc
        have HD : Hid (Cells2 w a' m) := hd
        subst ha ha'
        clear hc hd
        have hkm : (k : Int) < (m.length : Int) := by have := HLE.out; omega
        by_cases heq : pt l k = pt m k
        · have HN : Hid (pt l k = pt m k) := heq
          rw [heq] at e1 e2
          clear heq
          go_wp2
          go_quiet (fail)
          go_wp2
          refine ⟨⟨k + 1, by omega, by go_num, fun j hj => ?_, he.drewN _⟩, by simp [intOf]; omega⟩
          by_cases e : j = k
          · subst e; exact HN.out
          · exact hn.out j (by omega)
        · have hne : Hid (l ≠ m) := by rintro rfl; exact heq rfl
          by_cases h1 : (pt l k).1 = (pt m k).1
          · have h2 : ((pt l k).2 == (pt m k).2) = false := by
              cases hb : ((pt l k).2 == (pt m k).2)
              · rfl
              · exact absurd (Prod.ext h1 (by simpa using hb)) heq
            rw [h1] at e1
            clear heq h1
            go_wp2
            go_quiet (fail)
            go_wp2
            go_ret
            exact ⟨ret_bool (by simp [hne.out]), he.drewN _⟩
          · have h2 : ((pt l k).1 == (pt m k).1) = false := by simpa using h1
            clear heq h1
            go_wp2
            go_quiet (fail)
            go_wp2
            go_ret
            exact ⟨ret_bool (by simp [hne.out]), he.drewN _⟩
      · go_wp2
        go_ret
        refine ⟨ret_bool ?_, he⟩
        symm
        rw [decide_eq_true_eq]
        exact pts_ext HLE.out (fun j hj => hn.out j (by omega))
  · have hne : l ≠ m := by rintro rfl; exact hlen rfl
    have hle : ((l.length : Int) != (m.length : Int)) = true := by simp; omega
    have hle2 : (l.length != m.length) = true := by simp; omega
    have hle3 : ((l.length : Int) == (m.length : Int)) = false := by simp; omega
    have hle4 : (l.length == m.length) = false := by simp; omega
    have HNE := Lib.hid hne
    clear hne hlen
    go_enter Try.func46, Try.ntmps46
    go_wp2
    go_ret
    exact ⟨ret_bool (by simp [HNE.out]), Ext.refl _⟩
end Go.Proofs.Ytfigooilhnahfaa
/- Whether two lists of numbers are the same. -/
namespace Go.Proofs.Ytfigooilhnahfaa
open Go.RowKit

set_option maxHeartbeats 1000000 in
theorem EqualI_any (l m : List Int) (a a' : Option Addr) (cap cap' : Nat) (w : World) (hl : l.length ≤ maxLen) (hc : CellsI w a l) (hd : CellsI w a' m) :
    Calls Try.prog 47 #[.slice a l.length cap, .slice a' m.length cap'] w fun e w' => e = .returned (.bool (decide (l = m))) ∧ Ext w w' := by
  unfold maxLen at hl
  by_cases hlen : l.length = m.length
  · have HLE := Lib.hid hlen
    have hle : ((l.length : Int) != (m.length : Int)) = false := by simp [hlen]
    have hle2 : (l.length != m.length) = false := by simp [hlen]
    clear hlen
    go_enter Try.func47, Try.ntmps47
    go_wp2
    go_loopw [13] (fun i wr => ∃ k : Nat, k ≤ l.length ∧ i = .int .i64 k ∧ Hid (∀ j, j < k → l.getD j 0 = m.getD j 0) ∧ Ext w wr) (fun i _ => l.length - (intOf i).toNat)
    case atStart => exact ⟨0, Nat.zero_le _, rfl, fun j hj => by omega, Ext.refl _⟩
    case round =>
      obtain ⟨k, hk, rfl, hn, he⟩ := hrel
      by_cases hlt : k < l.length
      · obtain ⟨b, off, ha, e1⟩ := hc.ext he k hlt
        obtain ⟨b', off', ha', d1⟩ := hd.ext he k (by have := HLE.out; omega)
        have HC : Hid (CellsI w a l) := hc
        have HD : Hid (CellsI w a' m) := hd
        subst ha ha'
        clear hc hd
        have hkm : (k : Int) < (m.length : Int) := by have := HLE.out; omega
        generalize hx : l.getD k 0 = x at e1
        generalize hy : m.getD k 0 = y at d1
        have HX := Lib.hid hx
        have HY := Lib.hid hy
        clear hx hy
        by_cases heq : x = y
        · subst heq
          go_wp2
          go_quiet (fail)
          go_wp2
          refine ⟨⟨k + 1, by omega, by go_num, fun j hj => ?_, he.drewN _⟩, by simp [intOf]; omega⟩
          by_cases e : j = k
          · subst e; rw [HX.out, HY.out]
          · exact hn.out j (by omega)
        · have hne : Hid (l ≠ m) := by rintro rfl; exact heq (HX.out.symm.trans HY.out)
          have h2 : (x == y) = false := by simpa using heq
          have h3 : (x != y) = true := by simpa using heq
          clear heq
          go_wp2
          go_quiet (fail)
          go_wp2
          go_ret
          exact ⟨ret_bool (by simp [hne.out]), he.drewN _⟩
      · go_wp2
        go_ret
        refine ⟨ret_bool ?_, he⟩
        symm
        rw [decide_eq_true_eq]
        refine List.ext_getElem HLE.out fun i h1 h2 => ?_
        have := hn.out i (by omega)
        rw [List.getD_eq_getElem?_getD, List.getD_eq_getElem?_getD, List.getElem?_eq_getElem h1, List.getElem?_eq_getElem h2] at this
        simpa using this
  · have hne : l ≠ m := by rintro rfl; exact hlen rfl
    have hle : ((l.length : Int) != (m.length : Int)) = true := by simp; omega
    have hle2 : (l.length != m.length) = true := by simp; omega
    have hle3 : ((l.length : Int) == (m.length : Int)) = false := by simp; omega
    have hle4 : (l.length == m.length) = false := by simp; omega
    have HNE := Lib.hid hne
    clear hne hlen
    go_enter Try.func47, Try.ntmps47
    go_wp2
    go_ret
    exact ⟨ret_bool (by simp [HNE.out]), Ext.refl _⟩

set_option maxHeartbeats 1000000 in
theorem SameInts_any (l m : List Int) (a a' : Option Addr) (cap cap' : Nat) (w : World) (hl : l.length ≤ maxLen) (hc : CellsI w a l) (hd : CellsI w a' m) :
    Calls Try.prog 26 #[.slice a l.length cap, .slice a' m.length cap'] w fun e w' => e = .returned (.bool (decide (l = m))) ∧ Ext w w' := by
  unfold maxLen at hl
  by_cases hlen : l.length = m.length
  · have HLE := Lib.hid hlen
    have hle : ((l.length : Int) != (m.length : Int)) = false := by simp [hlen]
    have hle2 : (l.length != m.length) = false := by simp [hlen]
    clear hlen
    go_enter Try.func26, Try.ntmps26
    go_wp2
    go_loopw [5] (fun i wr => ∃ k : Nat, k ≤ l.length ∧ i = .int .i64 k ∧ Hid (∀ j, j < k → l.getD j 0 = m.getD j 0) ∧ Ext w wr) (fun i _ => l.length - (intOf i).toNat)
    case atStart => exact ⟨0, Nat.zero_le _, rfl, fun j hj => by omega, Ext.refl _⟩
    case round =>
      obtain ⟨k, hk, rfl, hn, he⟩ := hrel
      by_cases hlt : k < l.length
      · obtain ⟨b, off, ha, e1⟩ := hc.ext he k hlt
        obtain ⟨b', off', ha', d1⟩ := hd.ext he k (by have := HLE.out; omega)
        have HC : Hid (CellsI w a l) := hc
        have HD : Hid (CellsI w a' m) := hd
        subst ha ha'
        clear hc hd
        have hkm : (k : Int) < (m.length : Int) := by have := HLE.out; omega
        generalize hx : l.getD k 0 = x at e1
        generalize hy : m.getD k 0 = y at d1
        have HX := Lib.hid hx
        have HY := Lib.hid hy
        clear hx hy
        by_cases heq : x = y
        · subst heq
          go_wp2
          go_quiet (fail)
          go_wp2
          refine ⟨⟨k + 1, by omega, by go_num, fun j hj => ?_, he.drewN _⟩, by simp [intOf]; omega⟩
          by_cases e : j = k
          · subst e; rw [HX.out, HY.out]
          · exact hn.out j (by omega)
        · have hne : Hid (l ≠ m) := by rintro rfl; exact heq (HX.out.symm.trans HY.out)
          have h2 : (x == y) = false := by simpa using heq
          have h3 : (x != y) = true := by simpa using heq
          clear heq
          go_wp2
          go_quiet (fail)
          go_wp2
          go_ret
          exact ⟨ret_bool (by simp [hne.out]), he.drewN _⟩
      · go_wp2
        go_ret
        refine ⟨ret_bool ?_, he⟩
        symm
        rw [decide_eq_true_eq]
        refine List.ext_getElem HLE.out fun i h1 h2 => ?_
        have := hn.out i (by omega)
        rw [List.getD_eq_getElem?_getD, List.getD_eq_getElem?_getD, List.getElem?_eq_getElem h1, List.getElem?_eq_getElem h2] at this
        simpa using this
  · have hne : l ≠ m := by rintro rfl; exact hlen rfl
    have hle : ((l.length : Int) != (m.length : Int)) = true := by simp; omega
    have hle2 : (l.length != m.length) = true := by simp; omega
    have hle3 : ((l.length : Int) == (m.length : Int)) = false := by simp; omega
    have hle4 : (l.length == m.length) = false := by simp; omega
    have HNE := Lib.hid hne
    clear hne hlen
    go_enter Try.func26, Try.ntmps26
    go_wp2
    go_ret
    exact ⟨ret_bool (by simp [HNE.out]), Ext.refl _⟩
end Go.Proofs.Ytfigooilhnahfaa
/- The examples of the chapter. -/
namespace Go.Proofs.Ytfigooilhnahfaa
open Go.RowKit

theorem cells2_five {w : World} {b : Nat} {p q r s t : Pt} (h1 : w.cell? ⟨b, 0, none⟩ = some (.int .i64 p.1)) (h2 : w.cell? ⟨b, 1, none⟩ = some (.int .i64 p.2)) (h3 : w.cell? ⟨b, 2, none⟩ = some (.int .i64 q.1)) (h4 : w.cell? ⟨b, 3, none⟩ = some (.int .i64 q.2)) (h5 : w.cell? ⟨b, 4, none⟩ = some (.int .i64 r.1)) (h6 : w.cell? ⟨b, 5, none⟩ = some (.int .i64 r.2))
    (h7 : w.cell? ⟨b, 6, none⟩ = some (.int .i64 s.1)) (h8 : w.cell? ⟨b, 7, none⟩ = some (.int .i64 s.2)) (h9 : w.cell? ⟨b, 8, none⟩ = some (.int .i64 t.1)) (h10 : w.cell? ⟨b, 9, none⟩ = some (.int .i64 t.2)) : Cells2 w (some ⟨b, 0, none⟩) [p, q, r, s, t] := fun i hi => by
  have : i = 0 ∨ i = 1 ∨ i = 2 ∨ i = 3 ∨ i = 4 := by simp at hi; omega
  rcases this with rfl | rfl | rfl | rfl | rfl
  · exact ⟨b, 0, rfl, by simpa [pt] using h1, by simpa [pt] using h2⟩
  · exact ⟨b, 0, rfl, by simpa [pt] using h3, by simpa [pt] using h4⟩
  · exact ⟨b, 0, rfl, by simpa [pt] using h5, by simpa [pt] using h6⟩
  · exact ⟨b, 0, rfl, by simpa [pt] using h7, by simpa [pt] using h8⟩
  · exact ⟨b, 0, rfl, by simpa [pt] using h9, by simpa [pt] using h10⟩
theorem cellsI_one {w : World} {b : Nat} {x : Int} (h : w.cell? ⟨b, 0, none⟩ = some (.int .i64 x)) : CellsI w (some ⟨b, 0, none⟩) [x] := fun i hi => by
  have : i = 0 := by simp at hi; omega
  subst this
  exact ⟨b, 0, rfl, by simpa using h⟩
theorem cells4_two {w : World} {b : Nat} {p q r s : Pt} (h1 : w.cell? ⟨b, 0, none⟩ = some (.int .i64 p.1)) (h2 : w.cell? ⟨b, 1, none⟩ = some (.int .i64 p.2)) (h3 : w.cell? ⟨b, 2, none⟩ = some (.int .i64 q.1)) (h4 : w.cell? ⟨b, 3, none⟩ = some (.int .i64 q.2))
    (h5 : w.cell? ⟨b, 4, none⟩ = some (.int .i64 r.1)) (h6 : w.cell? ⟨b, 5, none⟩ = some (.int .i64 r.2)) (h7 : w.cell? ⟨b, 6, none⟩ = some (.int .i64 s.1)) (h8 : w.cell? ⟨b, 7, none⟩ = some (.int .i64 s.2)) :
    Cells4 w (some ⟨b, 0, none⟩) [(p, q), (r, s)] := fun i hi => by
  have : i = 0 ∨ i = 1 := by simp at hi; omega
  rcases this with rfl | rfl
  · exact ⟨b, 0, rfl, by simpa [ph] using h1, by simpa [ph] using h2, by simpa [ph] using h3, by simpa [ph] using h4⟩
  · exact ⟨b, 0, rfl, by simpa [ph] using h5, by simpa [ph] using h6, by simpa [ph] using h7, by simpa [ph] using h8⟩

set_option maxHeartbeats 4000000 in
set_option maxRecDepth 100000 in
theorem awake_any (w : World) : Calls Try.prog 13 #[] w fun e w' => e = .returned (.bool true) ∧ Ext w w' := by
  go_enter Try.func13, Try.ntmps13
  go_wp2_with fail
  refine (Wall_any _).mono ?_
  rintro e w1 ⟨a, rfl, hW, hE⟩
  have HB := Lib.hid hW
  clear hW
  go_wp2_with fail
  refine (sent_any wallG a 2 _).mono ?_
  rintro e w2 ⟨rfl, hE2⟩
  have E2 := hE.trans hE2
  have HB2 := Lib.hid (HB.out.ext hE2)
  clear hE hE2 HB
  go_wp2_with fail
  have E3 : Ext w2 (w2.alloc (.cells #[.int .i64 wallG.rows, .int .i64 wallG.cols, .slice a wallG.bl.length 2] 33)) := (Ext.refl _).alloc _
  have a1 : (w2.alloc (.cells #[.int .i64 wallG.rows, .int .i64 wallG.cols, .slice a wallG.bl.length 2] 33)).cell? ⟨w2.heap.size, 0, none⟩ = some (.int .i64 wallG.rows) := by go_simp
  have a2 : (w2.alloc (.cells #[.int .i64 wallG.rows, .int .i64 wallG.cols, .slice a wallG.bl.length 2] 33)).cell? ⟨w2.heap.size, 1, none⟩ = some (.int .i64 wallG.cols) := by go_simp
  have a3 : (w2.alloc (.cells #[.int .i64 wallG.rows, .int .i64 wallG.cols, .slice a wallG.bl.length 2] 33)).cell? ⟨w2.heap.size, 2, none⟩ = some (.slice a wallG.bl.length 2) := by go_simp
  have HB3 := Lib.hid (HB2.out.ext E3)
  have EV3 := E2.trans E3
  obtain ⟨gb, hgb⟩ : ∃ gb, gb = w2.heap.size := ⟨_, rfl⟩
  rw [← hgb] at a1 a2 a3 ⊢
  clear hgb E2 HB2 E3
  generalize w2.alloc (.cells #[.int .i64 wallG.rows, .int .i64 wallG.cols, .slice a wallG.bl.length 2] 33) = W3 at a1 a2 a3 HB3 EV3 ⊢
  have z3 := cell_lt a1
  dsimp only at z3
  have hml : wallG.bl.length ≤ maxLen := by decide
  have HML := Lib.hid hml
  clear hml
  -- Route
  go_region_held3 (fun w' => Sees W3 w') ((repeat (first | exact Sees.refl _ | assumption | apply Sees.drew | apply Sees.alloc | (refine Sees.ext ?_ (by assumption))))) (first | (go_at_call 45; refine (at_any _ _ _).mono ?_; rintro e w' ⟨rfl, hE2⟩) | (go_at_call 29; refine (Route_any wallG (0, 1) (2, 1) a 2 _ HML.out (HB3.out.ext (by exact (show Sees W3 _ by assumption).2.2))).mono ?_; rintro e w' ⟨v, rfl, hO, hE2⟩))
  have hS := (show Sees W3 _ by assumption).2.2
  rw [wall_route.1] at hO
  rw [wall_route.2]
  obtain ⟨la, lc, rfl, hlc, _⟩ := hO.reads
  have HL := Lib.hid hlc
  have EV4 := EV3.trans hS
  have a1 := hS.cell a1
  have a2 := hS.cell a2
  have a3 := hS.cell a3
  have HB4 := Lib.hid (HB3.out.ext hS)
  clear hS hO hlc HB3 EV3 z3
  generalize w' = W4 at a1 a2 a3 HL EV4 HB4 ⊢
  -- Bends
  go_wp2_with fail
  refine (Bends_any wallG [(0, 1), (0, 0), (1, 0), (2, 0), (2, 1)] a 2 la lc _ HML.out HB4.out (by decide) HL.out).mono ?_
  rintro e W5 ⟨rfl, hE⟩
  rw [wall_bends.1, wall_bends.2]
  have EV5 := EV4.trans hE
  have a1 := hE.cell a1
  have a2 := hE.cell a2
  have a3 := hE.cell a3
  have HB5 := Lib.hid (HB4.out.ext hE)
  have HL5 := Lib.hid (HL.out.ext hE)
  clear hE HB4 EV4 HL
  have z5 := cell_lt a1
  dsimp only at z5
  go_wp2_with fail
  go_cut [6, 7, 8] (fun p n e wx => ∃ pb, p = .pointer (some ⟨pb, 0, none⟩) ∧ n = .int .i64 5 ∧ e = .int .i64 0 ∧ wx.cell? ⟨pb, 0, none⟩ = some (.int .i64 0) ∧ wx.cell? ⟨pb, 1, none⟩ = some (.int .i64 0) ∧ Ext W5 wx)
  case first =>
    have HM := Lib.hid wall_meet
    go_region_held3 (fun w' => Sees W5 w') ((repeat (first | exact Sees.refl _ | assumption | apply Sees.store | apply Sees.drew | apply Sees.alloc | (refine Sees.ext ?_ (by assumption))))) (first | (go_at_call 45; refine (at_any _ _ _).mono ?_; rintro e w' ⟨rfl, hE2⟩; (first | (have kN := (New2.made _ _ _ _).ext hE2; obtain ⟨k1, k2, k3, k4⟩ := kN) | (have kN := (New2.made _ _ _ _).drew.ext hE2; obtain ⟨k1, k2, k3, k4⟩ := kN) | (have kN := (New2.mk (by assumption) (by assumption) (by assumption) (by assumption)).ext hE2; obtain ⟨k1, k2, k3, k4⟩ := kN) | skip)) | (go_at_call 14; refine (Meet_any wallG (0, 0) (0, 3) (2, 0) a 2 _ HML.out (HB5.out.ext (by exact (show Sees W5 _ by assumption).2.2))).mono ?_; rintro e w' ⟨rfl, hE2⟩; rw [wall_meet.1, wall_meet.2.1, wall_meet.2.2]; dsimp only; (first | (have kN := (New2.made _ _ _ _).ext hE2; obtain ⟨k1, k2, k3, k4⟩ := kN) | (have kN := (New2.made _ _ _ _).drew.ext hE2; obtain ⟨k1, k2, k3, k4⟩ := kN) | (have kN := (New2.mk (by assumption) (by assumption) (by assumption) (by assumption)).ext hE2; obtain ⟨k1, k2, k3, k4⟩ := kN) | skip)))
    all_goals (go_wp2_with fail; go_meet)
    all_goals exact ⟨_, rfl, rfl, rfl, by go_simp, by go_simp, (show Sees W5 _ by assumption).2.2⟩
  case rest =>
    obtain ⟨pb, rfl, rfl, rfl, k1, k2, EX⟩ := hcut
    have EV6 := EV5.trans EX
    have a1 := EX.cell a1
    have a2 := EX.cell a2
    have a3 := EX.cell a3
    have HB6 := Lib.hid (HB5.out.ext EX)
    have HL6 := Lib.hid (HL5.out.ext EX)
    clear EX EV5 HB5 HL5 z5
    generalize wc = W6 at a1 a2 a3 HB6 HL6 EV6 k1 k2 ⊢
    have z6 := cell_lt a1
    have z7 := cell_lt k1
    dsimp only at z6 z7
    go_wp2_with fail
    go_region_held3 (fun w' => Sees W6 w') ((repeat (first | exact Sees.refl _ | assumption | apply Sees.store | apply Sees.drew | apply Sees.alloc | (refine Sees.ext ?_ (by assumption))))) (first | (go_at_call 45; refine (at_any _ _ _).mono ?_; rintro e w' ⟨rfl, hE2⟩) | (go_at_call 17; refine (Ducts_any wallG [((0, 0), (0, 3)), ((0, 1), (2, 0))] a 2 _ _ _ HML.out (HB6.out.ext (by exact (show Sees W6 _ by assumption).2.2)) (by decide) (cells4_two (by go_simp) (by go_simp) (by go_simp) (by go_simp) (by go_simp) (by go_simp) (by go_simp) (by go_simp)) (fun _ _ => trivial)).mono ?_; rintro e w' ⟨da, dc, rfl, hD, hE2⟩))
    have hS := (show Sees W6 _ by assumption).2.2
    rw [wall_duct.1, wall_duct.2]
    have EV7 := EV6.trans hS
    have a1 := hS.cell a1
    have a2 := hS.cell a2
    have a3 := hS.cell a3
    have k1 := hS.cell k1
    have k2 := hS.cell k2
    have HB7 := Lib.hid (HB6.out.ext hS)
    have HL7 := Lib.hid (HL6.out.ext hS)
    clear hS hD hE2 HB6 HL6 EV6 z6 z7
    generalize w' = W7 at a1 a2 a3 HB7 HL7 EV7 k1 k2 ⊢
    go_wp2_with fail
    refine (Parts_any wallG a 2 _ HML.out HB7.out).mono ?_
    rintro e W8 ⟨pa, pc, rfl, hP, hE⟩
    have EV8 := EV7.trans hE
    have a1 := hE.cell a1
    have k1 := hE.cell k1
    have k2 := hE.cell k2
    have HL8 := Lib.hid (HL7.out.ext hE)
    have HP8 := Lib.hid hP
    rw [wall_parts] at HP8
    rw [wall_parts, wall_chk]
    clear hE hP HB7 HL7 EV7 a2 a3
    have z8 := cell_lt k1
    dsimp only at z8
    go_wp2_with fail
    go_region_held3 (fun w' => Sees W8 w') ((repeat (first | exact Sees.refl _ | assumption | apply Sees.store | apply Sees.drew | apply Sees.alloc | (refine Sees.ext ?_ (by assumption))))) (first | (go_at_call 45; refine (at_any _ _ _).mono ?_; rintro e w' ⟨rfl, hE2⟩) | (go_at_call 46; refine (EqualP_any [(0, 1), (0, 0), (1, 0), (2, 0), (2, 1)] [(0, 1), (0, 0), (1, 0), (2, 0), (2, 1)] la _ lc _ _ (by decide) (HL8.out.ext (by exact (show Sees W8 _ by assumption).2.2)) (cells2_five (by go_simp) (by go_simp) (by go_simp) (by go_simp) (by go_simp) (by go_simp) (by go_simp) (by go_simp) (by go_simp) (by go_simp))).mono ?_; rintro e w' ⟨rfl, hE2⟩) | (go_at_call 47; refine (EqualI_any [10] [10] pa _ pc _ _ (by decide) (HP8.out.ext (by exact (show Sees W8 _ by assumption).2.2)) (cellsI_one (by go_simp))).mono ?_; rintro e w' ⟨rfl, hE2⟩))
    have hS := (show Sees W8 _ by assumption).2.2
    go_wp2
    go_ret
    exact ⟨rfl, EV8.trans hS⟩
end Go.Proofs.Ytfigooilhnahfaa
/- The law TubingBundles: its walk. -/
namespace Go.Proofs.Ytfigooilhnahfaa
open Go.RowKit

set_option maxHeartbeats 1000000 in
theorem SameAll_any (LL : List (List Pt)) (n : Nat) (a b : Option Addr) (ca cb : Nat) (w : World) (hn : n = LL.length) (hnl : n ≤ maxLen) (hl : ∀ i, (LL.getD i []).length ≤ maxLen) (ha : RowsR w a LL) (hb : RowsR w b LL) :
    Calls Try.prog 19 #[.slice a n ca, .slice b n cb] w fun e w' => e = .returned (.bool true) ∧ Ext w w' := by
  have HA := Lib.hid ha
  have HB := Lib.hid hb
  have HL := Lib.hid hl
  unfold maxLen at hnl
  have HN := Lib.hid hn
  clear ha hb hl hn
  go_enter Try.func19, Try.ntmps19
  go_wp2
  go_loopw [5] (fun i wr => ∃ k : Nat, k ≤ n ∧ i = .int .i64 k ∧ Ext w wr) (fun i _ => n - (intOf i).toNat)
  case atStart => exact ⟨0, Nat.zero_le _, rfl, Ext.refl _⟩
  case round =>
    obtain ⟨k, hk, rfl, he⟩ := hrel
    by_cases hlt : k < n
    · have hlt' : (k : Int) < (n : Int) := by omega
      have k0 : (0 : Int) ≤ (k : Int) := Int.natCast_nonneg k
      obtain ⟨b1, o1, a1, c1, rfl, r1, r2⟩ := HA.out.ext he k (by rw [← HN.out]; exact hlt)
      obtain ⟨b2, o2, a2, c2, rfl, s1, s2⟩ := HB.out.ext he k (by rw [← HN.out]; exact hlt)
      have HS : Hid (∀ W', Ext wr W' → Calls Try.prog 31 #[.slice a1 (LL.getD k []).length c1, .slice a2 (LL.getD k []).length c2] W' fun e w' => e = .returned (.bool true) ∧ Ext W' w') := fun W' hW => by
        have := Same_any (LL.getD k []) (LL.getD k []) a1 a2 c1 c2 W' (HL.out k) (r2.ext hW) (s2.ext hW)
        rw [decide_eq_true rfl] at this
        exact this
      generalize (LL.getD k []).length = m at r1 s1 HS
      have z1 := cell_lt r1
      have z2 := cell_lt s1
      dsimp only at z1 z2
      clear r2 s2
      go_wp2_with fail
      go_region_held3 (fun w' => Sees wr w') ((repeat (first | exact Sees.refl _ | assumption | apply Sees.drew | apply Sees.alloc | (refine Sees.ext ?_ (by assumption))))) (first | (go_at_call 31; refine (HS.out _ (by exact (show Sees wr _ by assumption).2.2)).mono ?_; rintro e w' ⟨rfl, hE2⟩))
      have hS := (show Sees wr _ by assumption).2.2
      go_wp2
      exact ⟨⟨k + 1, by omega, by go_num, he.trans hS⟩, by simp [intOf]; omega⟩
    · have hlt' : ¬ (k : Int) < (n : Int) := by omega
      go_wp2
      go_ret
      exact ⟨rfl, he⟩
theorem ductL_rows (g : Gr) (hs : List Hose) (i : Nat) : ((ductL g hs).getD i []).length ≤ maxLen := by
  unfold ductL
  split
  · simp
  · have key : ∀ k i, ((ways g hs k).getD i []).length ≤ 4097 := by
      intro k
      induction k with
      | zero => intro i; simp [ways]
      | succ k ih =>
        intro i
        show ((ways g hs k ++ [way g (ph hs k).1 (ph hs k).2]).getD i []).length ≤ _
        rw [List.getD_eq_getElem?_getD, List.getElem?_append]
        split
        · rw [← List.getD_eq_getElem?_getD]; exact ih i
        · cases hj : i - (ways g hs k).length with
          | zero =>
            simp only [List.getElem?_cons_zero, Option.getD_some]
            rw [way_len]
            have := dst_le g (ph hs k).2 (ph hs k).1
            omega
          | succ j => simp
    have := key hs.length i
    unfold maxLen
    omega
theorem ductL_le (g : Gr) (hs : List Hose) : (ductL g hs).length ≤ hs.length := by
  unfold ductL
  split
  · simp
  · rw [ways_len]; exact Nat.le_refl _

set_option maxHeartbeats 4000000 in
set_option maxRecDepth 100000 in
theorem TubingBundles_any (g : Gr) (hs : List Hose) (ga : Option Addr) (gc : Nat) (ha : Option Addr) (hcap : Nat) (w : World) (hg : g.bl.length ≤ maxLen) (hc : Cells2 w ga g.bl) (hl : hs.length ≤ maxLen) (hch : Cells4 w ha hs) :
    Calls Try.prog 4 #[.agg #[.int .i64 g.rows, .int .i64 g.cols, .slice ga g.bl.length gc], .slice ha hs.length hcap] w fun e w' => e = .returned (.bool true) ∧ Ext w w' := by
  have HC : Hid (Cells2 w ga g.bl) := hc
  have HH : Hid (Cells4 w ha hs) := hch
  have HG := Lib.hid hg
  have HML := Lib.hid hl
  clear hc hg hch hl
  have E0 : Ext w ((w).alloc (.cells #[.int .i64 g.rows, .int .i64 g.cols, .slice ga g.bl.length gc] 24)) := (Ext.refl _).alloc _
  have a1 : ((w).alloc (.cells #[.int .i64 g.rows, .int .i64 g.cols, .slice ga g.bl.length gc] 24)).cell? ⟨w.heap.size, 0, none⟩ = some (.int .i64 g.rows) := by go_simp
  have a2 : ((w).alloc (.cells #[.int .i64 g.rows, .int .i64 g.cols, .slice ga g.bl.length gc] 24)).cell? ⟨w.heap.size, 1, none⟩ = some (.int .i64 g.cols) := by go_simp
  have a3 : ((w).alloc (.cells #[.int .i64 g.rows, .int .i64 g.cols, .slice ga g.bl.length gc] 24)).cell? ⟨w.heap.size, 2, none⟩ = some (.slice ga g.bl.length gc) := by go_simp
  go_enter Try.func4, Try.ntmps4
  go_wp2_with fail
  refine (Few_any g ga gc _ HG.out (HC.out.ext E0)).mono ?_
  rintro e W1 ⟨rfl, hE⟩
  have E1 := E0.trans hE
  have a1 := hE.cell a1
  have a2 := hE.cell a2
  have a3 := hE.cell a3
  clear hE E0
  cases hf : fewB g
  · clear hf
    go_wp2_with fail
    refine (awake_any _).mono ?_
    rintro e W2 ⟨rfl, hE⟩
    go_wp2
    go_ret
    exact ⟨rfl, E1.trans hE⟩
  · clear hf
    by_cases hbad : (8 < hs.length ∧ hs.length ≤ 256) ∨ 512 < hs.length
    · by_cases h1 : 8 < hs.length ∧ hs.length ≤ 256
      · have h8 : (8 : Int) < (hs.length : Int) := by omega
        have h256 : (hs.length : Int) ≤ 256 := by omega
        clear hbad h1
        go_wp2_with fail
        refine (awake_any _).mono ?_
        rintro e W2 ⟨rfl, hE⟩
        go_wp2
        go_ret
        exact ⟨rfl, E1.trans hE⟩
      · have h8 : (8 : Int) < (hs.length : Int) := by omega
        have h256 : ¬ (hs.length : Int) ≤ 256 := by omega
        have h512 : (512 : Int) < (hs.length : Int) := by omega
        clear hbad h1
        go_wp2_with fail
        refine (awake_any _).mono ?_
        rintro e W2 ⟨rfl, hE⟩
        go_wp2
        go_ret
        exact ⟨rfl, E1.trans hE⟩
    · have h512 : ¬ (512 : Int) < (hs.length : Int) := by omega
      have fin : (∀ Q : Prop, ((8 : Int) < (hs.length : Int) → ¬ (hs.length : Int) ≤ 256 → Q) → (¬ (8 : Int) < (hs.length : Int) → Q) → Q) := fun Q q1 q2 => by
        by_cases h : (8 : Int) < (hs.length : Int)
        · exact q1 h (by omega)
        · exact q2 h
      clear hbad
      refine fin _ (fun h8 h256 => ?_) (fun h8 => ?_) <;> clear fin
      all_goals
        go_wp2_with fail
        refine (sent_any g ga gc _).mono ?_
        rintro e W2 ⟨rfl, hE⟩
        have E2 := E1.trans hE
        have a1 := hE.cell a1
        have a2 := hE.cell a2
        have a3 := hE.cell a3
        clear hE E1
        go_wp2_with fail
        refine (Ducts_any g hs ga gc ha hcap _ HG.out (HC.out.ext E2) HML.out (HH.out.ext E2) (fun _ _ => trivial)).mono ?_
        rintro e W3 ⟨da, dc, rfl, hR, hE⟩
        have HRA := Lib.hid hR
        have E3 := E2.trans hE
        have a1 := hE.cell a1
        have a2 := hE.cell a2
        have a3 := hE.cell a3
        clear hE E2 hR
        go_wp2_with fail
        refine (DuctsR_any g hs ga gc ha hcap _ HG.out (HC.out.ext E3) HML.out (HH.out.ext E3)).mono ?_
        rintro e W4 ⟨ea, ec, rfl, hR, hE⟩
        have HRB := Lib.hid hR
        have HRA := Lib.hid (HRA.out.ext hE)
        have E4 := E3.trans hE
        clear hE E3 hR a1 a2 a3
        have HLE := Lib.hid (ductL_le g hs)
        have HRW := Lib.hid (ductL_rows g hs)
        generalize ductL g hs = LL at HRA HRB HLE HRW ⊢
        obtain ⟨M, hM⟩ : ∃ M, M = LL.length := ⟨_, rfl⟩
        rw [← hM]
        have HMM := Lib.hid hM
        clear hM
        go_wp2_with fail
        refine (awake_any _).mono ?_
        rintro e W5 ⟨rfl, hE⟩
        have E5 := E4.trans hE
        have HRA := Lib.hid (HRA.out.ext hE)
        have HRB := Lib.hid (HRB.out.ext hE)
        clear hE E4
        go_wp2_with fail
        refine (SameAll_any LL M da ea dc ec _ HMM.out (by rw [HMM.out]; exact Nat.le_trans HLE.out HML.out) HRW.out HRA.out HRB.out).mono ?_
        rintro e W6 ⟨rfl, hE⟩
        go_wp2
        go_ret
        exact ⟨rfl, E5.trans hE⟩
end Go.Proofs.Ytfigooilhnahfaa
/- The arguments of the laws, opened: grids, places. -/
namespace Go.Proofs.Ytfigooilhnahfaa
open Go.RowKit Go.ChangeShapes Go.WideShapes Go.Joins Go.Deep

def WfP (p : Pt) : Prop := (Lit.int .i64 p.1).wf = true ∧ (Lit.int .i64 p.2).wf = true
theorem list2 {α : Type} {l : List α} (h : l.length = 2) : ∃ a b, l = [a, b] := by
  match l, h with
  | [a, b], _ => exact ⟨a, b, rfl⟩
theorem list6 {α : Type} {l : List α} (h : l.length = 6) : ∃ a b c d e f, l = [a, b, c, d, e, f] := by
  match l, h with
  | [a, b, c, d, e, f], _ => exact ⟨a, b, c, d, e, f, rfl⟩
theorem cellsOfPl : Try.prog.cellsOf 26 = 2 := by kernel_rfl
theorem cellsOfInt : Try.prog.cellsOf 3 = 1 := by kernel_rfl

section
variable {H : Type} {enc : TypeId × Value → H} {w : World} {base : Nat} {spare : Nat → Bool} {held : Bool}
theorem open_place {fuel : Nat} {cs : List Value} {x : DataW H × List MemPlace} (h : DataW.trod enc Try.prog w base spare held fuel 26 cs = some x) : ∃ p : Pt, cs = [.int .i64 p.1, .int .i64 p.2] ∧ WfP p := by
  obtain ⟨y0, y1, n, _, hl, h0, h1⟩ := trod_struct2 Try.underlying26 h
  rw [cellsOfPl] at hl
  obtain ⟨a, b, rfl⟩ := list2 hl
  rw [cellsOfInt] at h0 h1
  obtain ⟨i, e0, _, w0⟩ := DataW.trod_int Try.underlying3 h0
  obtain ⟨j, e1, _, w1⟩ := DataW.trod_int Try.underlying3 h1
  simp at e0 e1
  subst e0; subst e1
  exact ⟨(i, j), rfl, w0, w1⟩
theorem open_places {a : Addr} {len : Nat} (h : ∀ i, i < len → ∃ cs' n x, w.cells? base (a.add (i * 2)) 2 = some cs' ∧ DataW.trod enc Try.prog w base spare held n 26 cs' = some x) : ∃ l : List Pt, l.length = len ∧ Cells2 w (some a) l ∧ ∀ p ∈ l, WfP p := by
  have key : ∀ i, i < len → ∃ p : Pt, w.cell? (a.add (i * 2)) = some (.int .i64 p.1) ∧ w.cell? ((a.add (i * 2)).add 1) = some (.int .i64 p.2) ∧ WfP p := fun i hi => by
    obtain ⟨cs', n, x, h1, h2⟩ := h i hi
    obtain ⟨p, rfl, hw⟩ := open_place h2
    obtain ⟨_, _, hc⟩ := World.cells?_some h1
    have c0 := hc 0 (by omega)
    have c1 := hc 1 (by omega)
    refine ⟨p, ?_, c1, hw⟩
    have e : (a.add (i * 2)).add 0 = a.add (i * 2) := by simp [Addr.add]
    rw [e] at c0
    exact c0
  obtain ⟨f, hf⟩ := choose_lt (α := Pt) key
  refine ⟨(List.range len).map f, by simp, fun i hi => ?_, fun p hp => ?_⟩
  · have hi' : i < len := by simpa using hi
    obtain ⟨h1, h2, _⟩ := hf i hi'
    have hp : pt ((List.range len).map f) i = f i := by simp [pt, List.getD, hi']
    rw [hp]
    obtain ⟨b, off, spot⟩ := a
    have hs : spot = none := by
      have h0 := World.cell?_spot (hf 0 (by omega)).1
      simpa [Addr.add] using h0
    subst hs
    rw [Addr.add_lit] at h1 h2
    rw [Addr.add_lit] at h2
    exact ⟨b, off, rfl, h1, h2⟩
  · obtain ⟨i, hi, rfl⟩ := List.mem_map.1 hp
    exact (hf i (by simpa using hi)).2.2
theorem open_slicePl {fuel : Nat} {v : Value} {x : DataW H × List MemPlace} (h : DataW.trod enc Try.prog w base spare held fuel 22 [v] = some x) :
    ∃ (l : List Pt) (a : Option Addr) (cap : Nat), v = .slice a l.length cap ∧ Cells2 w a l ∧ l.length ≤ maxLen ∧ ∀ p ∈ l, WfP p := by
  rcases open_slice Try.underlying22 h with ⟨h1, _⟩ | ⟨a, len, cap, m, n, D, Pl, h1, hb, hl, hm, hmm, _, hx⟩
  · simp at h1
    exact ⟨[], none, 0, h1, fun i hi => by simp at hi, by simp, fun p hp => by cases hp⟩
  · simp at h1
    rw [cellsOfPl] at hx
    have hlm : len ≤ m := by rw [hmm]; split <;> omega
    obtain ⟨l, hll, hc, hw⟩ := open_places (enc := enc) (spare := spare) (held := held) (w := w) (base := base) (a := a) (len := len) (fun i hi => by
      obtain ⟨cs', h2, h3⟩ := hx i (by omega)
      exact ⟨cs', n, _, h2, h3⟩)
    exact ⟨l, some a, cap, by rw [h1, hll], hc, by rw [hll]; omega, hw⟩
set_option maxRecDepth 100000 in
theorem open_grid {r : Reach} {b0 : Nat} {v : Value} {d : DataW H} {p : List MemPlace} (hv : Value.okWide Try.prog w r b0 24 v) (h : DataW.Trod enc Try.prog w base spare held 24 v d p) :
    ∃ (g : Gr) (ga : Option Addr) (gc : Nat), v = .agg #[.int .i64 g.rows, .int .i64 g.cols, .slice ga g.bl.length gc] ∧ Cells2 w ga g.bl ∧ g.bl.length ≤ maxLen ∧ (Lit.int .i64 g.rows).wf = true ∧ (Lit.int .i64 g.cols).wf = true ∧ ∀ p ∈ g.bl, WfP p := by
  obtain ⟨c0, c1, c2, y0, y1, y2, n, rfl, _, _, h0, h1, h2⟩ := open_agg3 Try.underlying24 (by kernel_rfl) (by kernel_rfl) hv h
  obtain ⟨i, e0, _, w0⟩ := DataW.trod_int Try.underlying3 h0
  obtain ⟨j, e1, _, w1⟩ := DataW.trod_int Try.underlying3 h1
  obtain ⟨l, a, cap, e2, hc, hl, hw⟩ := open_slicePl h2
  simp at e0 e1
  subst e0; subst e1; subst e2
  exact ⟨⟨i, j, l⟩, a, cap, rfl, hc, hl, w0, w1, hw⟩
set_option maxRecDepth 100000 in
theorem open_three {r : Reach} {b0 : Nat} {v : Value} {d : DataW H} {p : List MemPlace} (hv : Value.okWide Try.prog w r b0 27 v) (h : DataW.Trod enc Try.prog w base spare held 27 v d p) :
    ∃ p q r : Pt, v = .agg #[.int .i64 p.1, .int .i64 p.2, .int .i64 q.1, .int .i64 q.2, .int .i64 r.1, .int .i64 r.2] ∧ WfP p ∧ WfP q ∧ WfP r := by
  simp only [Value.okWide, Try.underlying27] at hv
  obtain ⟨cs, rfl, _, _⟩ := hv
  obtain ⟨fuel, hf⟩ := h
  obtain ⟨xs, m, _, _, hl, hxs, hx⟩ := DataW.trod_array Try.underlying27 hf
  have hl6 : cs.toList.length = 6 := hl.trans (by kernel_rfl)
  obtain ⟨a, b, c, d, e, f, hcs⟩ := list6 hl6
  have hc : (Value.agg cs).cells.toList = [a, b, c, d, e, f] := hcs
  rw [hc, cellsOfPl] at hx
  have get : ∀ i, i < 3 → ∃ y, xs[i]? = some y := fun i hi => ⟨xs[i], List.getElem?_eq_getElem (by omega)⟩
  obtain ⟨y0, g0⟩ := get 0 (by omega)
  obtain ⟨y1, g1⟩ := get 1 (by omega)
  obtain ⟨y2, g2⟩ := get 2 (by omega)
  have k0 := hx 0 (by omega)
  have k1 := hx 1 (by omega)
  have k2 := hx 2 (by omega)
  rw [g0] at k0
  rw [g1] at k1
  rw [g2] at k2
  obtain ⟨p, e0, w0⟩ := open_place k0
  obtain ⟨q, e1, w1⟩ := open_place k1
  obtain ⟨r, e2, w2⟩ := open_place k2
  simp at e0 e1 e2
  obtain ⟨rfl, rfl⟩ := e0
  obtain ⟨rfl, rfl⟩ := e1
  obtain ⟨rfl, rfl⟩ := e2
  refine ⟨p, q, r, ?_, w0, w1, w2⟩
  rw [show cs = cs.toList.toArray by simp, hcs]
end
end Go.Proofs.Ytfigooilhnahfaa
/- The arguments of the laws, opened: lists of hoses, pairs of places. -/
namespace Go.Proofs.Ytfigooilhnahfaa
open Go.RowKit Go.ChangeShapes Go.WideShapes Go.Joins Go.Deep

theorem list4 {α : Type} {l : List α} (h : l.length = 4) : ∃ a b c d, l = [a, b, c, d] := by
  match l, h with
  | [a, b, c, d], _ => exact ⟨a, b, c, d, rfl⟩
theorem cellsOfHs : Try.prog.cellsOf 74 = 4 := by kernel_rfl

section
variable {H : Type} {enc : TypeId × Value → H} {w : World} {base : Nat} {spare : Nat → Bool} {held : Bool}
theorem open_hose {fuel : Nat} {cs : List Value} {x : DataW H × List MemPlace} (h : DataW.trod enc Try.prog w base spare held fuel 74 cs = some x) : ∃ p : Hose, cs = [.int .i64 p.1.1, .int .i64 p.1.2, .int .i64 p.2.1, .int .i64 p.2.2] ∧ WfP p.1 ∧ WfP p.2 := by
  obtain ⟨xs, m, _, _, hl, hxs, hx⟩ := DataW.trod_array Try.underlying74 h
  have hl4 : cs.length = 4 := hl.trans (by kernel_rfl)
  obtain ⟨a, b, c, d, hcs⟩ := list4 hl4
  rw [hcs, cellsOfPl] at hx
  have get : ∀ i, i < 2 → ∃ y, xs[i]? = some y := fun i hi => ⟨xs[i], List.getElem?_eq_getElem (by omega)⟩
  obtain ⟨y0, g0⟩ := get 0 (by omega)
  obtain ⟨y1, g1⟩ := get 1 (by omega)
  have k0 := hx 0 (by omega)
  have k1 := hx 1 (by omega)
  rw [g0] at k0
  rw [g1] at k1
  obtain ⟨p, e0, w0⟩ := open_place k0
  obtain ⟨q, e1, w1⟩ := open_place k1
  simp at e0 e1
  obtain ⟨rfl, rfl⟩ := e0
  obtain ⟨rfl, rfl⟩ := e1
  exact ⟨(p, q), hcs, w0, w1⟩
theorem open_hosesC {a : Addr} {len : Nat} (h : ∀ i, i < len → ∃ cs' n x, w.cells? base (a.add (i * 4)) 4 = some cs' ∧ DataW.trod enc Try.prog w base spare held n 74 cs' = some x) : ∃ l : List Hose, l.length = len ∧ Cells4 w (some a) l := by
  have key : ∀ i, i < len → ∃ p : Hose, w.cell? (a.add (i * 4)) = some (.int .i64 p.1.1) ∧ w.cell? ((a.add (i * 4)).add 1) = some (.int .i64 p.1.2) ∧ w.cell? ((a.add (i * 4)).add 2) = some (.int .i64 p.2.1) ∧ w.cell? ((a.add (i * 4)).add 3) = some (.int .i64 p.2.2) := fun i hi => by
    obtain ⟨cs', n, x, h1, h2⟩ := h i hi
    obtain ⟨p, rfl, _, _⟩ := open_hose h2
    obtain ⟨_, _, hc⟩ := World.cells?_some h1
    have c0 := hc 0 (by omega)
    have c1 := hc 1 (by omega)
    have c2 := hc 2 (by omega)
    have c3 := hc 3 (by omega)
    refine ⟨p, ?_, c1, c2, c3⟩
    have e : (a.add (i * 4)).add 0 = a.add (i * 4) := by simp [Addr.add]
    rw [e] at c0
    exact c0
  obtain ⟨f, hf⟩ := choose_lt (α := Hose) key
  refine ⟨(List.range len).map f, by simp, fun i hi => ?_⟩
  have hi' : i < len := by simpa using hi
  obtain ⟨h1, h2, h3, h4⟩ := hf i hi'
  have hp : ph ((List.range len).map f) i = f i := by simp [ph, List.getD, hi']
  rw [hp]
  obtain ⟨b, off, spot⟩ := a
  have hs : spot = none := by
    have h0 := World.cell?_spot (hf 0 (by omega)).1
    simpa [Addr.add] using h0
  subst hs
  rw [Addr.add_lit] at h1 h2 h3 h4
  rw [Addr.add_lit] at h2 h3 h4
  exact ⟨b, off, rfl, h1, h2, h3, h4⟩
theorem open_hosesV {fuel : Nat} {v : Value} {x : DataW H × List MemPlace} (h : DataW.trod enc Try.prog w base spare held fuel 38 [v] = some x) :
    ∃ (l : List Hose) (a : Option Addr) (cap : Nat), v = .slice a l.length cap ∧ Cells4 w a l ∧ l.length ≤ maxLen := by
  rcases open_slice Try.underlying38 h with ⟨h1, _⟩ | ⟨a, len, cap, m, n, D, Pl, h1, hb, hl, hm, hmm, _, hx⟩
  · simp at h1
    exact ⟨[], none, 0, h1, fun i hi => by simp at hi, by simp⟩
  · simp at h1
    rw [cellsOfHs] at hx
    have hlm : len ≤ m := by rw [hmm]; split <;> omega
    obtain ⟨l, hll, hc⟩ := open_hosesC (enc := enc) (spare := spare) (held := held) (w := w) (base := base) (a := a) (len := len) (fun i hi => by
      obtain ⟨cs', h2, h3⟩ := hx i (by omega)
      exact ⟨cs', n, _, h2, h3⟩)
    exact ⟨l, some a, cap, by rw [h1, hll], hc, by rw [hll]; omega⟩
set_option maxRecDepth 100000 in
theorem open_hs {r : Reach} {b0 : Nat} {v : Value} {d : DataW H} {p : List MemPlace} (hv : Value.okWide Try.prog w r b0 38 v) (h : DataW.Trod enc Try.prog w base spare held 38 v d p) :
    ∃ (l : List Hose) (a : Option Addr) (cap : Nat), v = .slice a l.length cap ∧ Cells4 w a l ∧ l.length ≤ maxLen := by
  have key : v.cells.toList = [v] := by
    simp only [Value.okWide, Try.underlying38] at hv
    cases v <;> first | rfl | (simp [Cell.okWide, Cell.ok, Try.underlying38] at hv)
  obtain ⟨fuel, hf⟩ := h
  rw [key] at hf
  exact open_hosesV hf
set_option maxRecDepth 100000 in
theorem open_two {r : Reach} {b0 : Nat} {v : Value} {d : DataW H} {p : List MemPlace} (hv : Value.okWide Try.prog w r b0 74 v) (h : DataW.Trod enc Try.prog w base spare held 74 v d p) :
    ∃ x : Hose, v = .agg #[.int .i64 x.1.1, .int .i64 x.1.2, .int .i64 x.2.1, .int .i64 x.2.2] := by
  simp only [Value.okWide, Try.underlying74] at hv
  obtain ⟨cs, rfl, _, _⟩ := hv
  obtain ⟨fuel, hf⟩ := h
  obtain ⟨x, hx, _, _⟩ := open_hose hf
  refine ⟨x, ?_⟩
  have : cs.toList = [.int .i64 x.1.1, .int .i64 x.1.2, .int .i64 x.2.1, .int .i64 x.2.2] := hx
  rw [show cs = cs.toList.toArray by simp, this]
end
end Go.Proofs.Ytfigooilhnahfaa
