/- Steps of the proof: Len, Route, RouteA, Away, MapS, Joined, Verify, Near, FarS. No conditions. -/
import Derived.Maps.Own
import Derived.Maps.OwnIn
import Derived.Maps.OwnSet
import Derived.Maps.Views
import Derived.DeepKeys4
import Derived.BigRegion
import Derived.Test.YtfigooilhnahfaaZVerifies1
import Derived.Test.YtfigooilhnahfaaZVerifies2
/- Length. -/
namespace Go.Proofs.Ytfigooilhnahfaa
open Go.RowKit

theorem cells_ok {g : Gr} : ∀ {l : List Pt}, cellsErr g l = 0 → ∀ p ∈ l, opn g p = true := by
  intro l
  induction l with
  | nil => intro _ p hp; cases hp
  | cons a l ih =>
    intro h p hp
    unfold cellsErr at h
    split at h
    · omega
    · split at h
      · omega
      · rename_i h1 h2
        rcases List.mem_cons.1 hp with rfl | hp
        · unfold opn; simp at h1 h2; simp [h1, h2]
        · exact ih h p hp
theorem given_ok {g : Gr} {l : List Pt} (h : givenErr g l = 0) : Right g ∧ ∀ p ∈ l, opn g p = true := by
  unfold givenErr at h
  split at h
  · rename_i h1; exact absurd h h1
  · rename_i h1
    exact ⟨right_of_chk (by simpa using h1), cells_ok h⟩
theorem opn_inside {g : Gr} {p : Pt} (h : opn g p = true) : inside g p = true := by
  unfold opn at h
  simp only [Bool.and_eq_true] at h
  exact h.1
theorem cells2_two {w : World} {b : Nat} {p q : Pt} (h1 : w.cell? ⟨b, 0, none⟩ = some (.int .i64 p.1)) (h2 : w.cell? ⟨b, 1, none⟩ = some (.int .i64 p.2)) (h3 : w.cell? ⟨b, 2, none⟩ = some (.int .i64 q.1)) (h4 : w.cell? ⟨b, 3, none⟩ = some (.int .i64 q.2)) :
    Cells2 w (some ⟨b, 0, none⟩) [p, q] := fun i hi => by
  have : i = 0 ∨ i = 1 := by simp at hi; omega
  rcases this with rfl | rfl
  · exact ⟨b, 0, rfl, by simpa [pt] using h1, by simpa [pt] using h2⟩
  · exact ⟨b, 0, rfl, by simpa [pt] using h3, by simpa [pt] using h4⟩

def lenN (g : Gr) (p q : Pt) : Int := if givenErr g [p, q] ≠ 0 then 0 else if dst g q p < 0 then 0 else dst g q p
def lenE (g : Gr) (p q : Pt) : Int := if givenErr g [p, q] ≠ 0 then givenErr g [p, q] else if dst g q p < 0 then 6 else 0

theorem len_ok {g : Gr} {p q : Pt} (h : givenErr g [p, q] = 0) {neg : Bool} (hn : decide (dst g q p < 0) = neg) : lenN g p q = (if neg = true then 0 else dst g q p) ∧ lenE g p q = (if neg = true then 6 else 0) := by
  unfold lenN lenE
  rw [h]
  cases neg
  · have hn' : ¬ dst g q p < 0 := by simpa using hn
    rw [if_neg hn', if_neg hn']
    exact ⟨rfl, rfl⟩
  · have hn' : dst g q p < 0 := by simpa using hn
    rw [if_pos hn', if_pos hn']
    exact ⟨rfl, rfl⟩

set_option maxHeartbeats 4000000 in
set_option maxRecDepth 100000 in
theorem Length_any (g : Gr) (p q : Pt) (ga : Option Addr) (gc : Nat) (w : World) (hg : g.bl.length ≤ maxLen) (hc : Cells2 w ga g.bl) :
    Calls Try.prog 27 #[.agg #[.int .i64 g.rows, .int .i64 g.cols, .slice ga g.bl.length gc], .agg #[.int .i64 p.1, .int .i64 p.2], .agg #[.int .i64 q.1, .int .i64 q.2]] w fun e w' => e = .returned (.tuple #[.int .i64 (lenN g p q), .int .i64 (lenE g p q)]) ∧ Ext w w' := by
  have HC : Hid (Cells2 w ga g.bl) := hc
  have HG := Lib.hid hg
  clear hc hg
  by_cases h0 : givenErr g [p, q] = 0
  · obtain ⟨hr, ho⟩ := given_ok h0
    have HR := Lib.hid hr
    have HQ : Hid (inside g q = true) := opn_inside (ho q (by simp))
    have HP : Hid (inside g p = true) := opn_inside (ho p (by simp))
    obtain ⟨r1, r2, r3, r4⟩ := inG_of hr HP.out
    have H0 := Lib.hid h0
    clear hr ho h0
    have main : ∀ (neg : Bool), Hid (decide (dst g q p < 0) = neg) → Calls Try.prog 27 #[.agg #[.int .i64 g.rows, .int .i64 g.cols, .slice ga g.bl.length gc], .agg #[.int .i64 p.1, .int .i64 p.2], .agg #[.int .i64 q.1, .int .i64 q.2]] w fun e w' => e = .returned (.tuple #[.int .i64 (if neg then 0 else dst g q p), .int .i64 (if neg then 6 else 0)]) ∧ Ext w w' := by
      intro neg hneg
      have E0 : Ext w ((( (( ((w).alloc (.cells #[.int .i64 g.rows, .int .i64 g.cols, .slice ga g.bl.length gc] 33))).alloc (.cells #[.int .i64 p.1, .int .i64 p.2] 26))).alloc (.cells #[.int .i64 q.1, .int .i64 q.2] 26))) := (((Ext.refl _).alloc _).alloc _).alloc _
      have a1 : ((( (( ((w).alloc (.cells #[.int .i64 g.rows, .int .i64 g.cols, .slice ga g.bl.length gc] 33))).alloc (.cells #[.int .i64 p.1, .int .i64 p.2] 26))).alloc (.cells #[.int .i64 q.1, .int .i64 q.2] 26))).cell? ⟨w.heap.size, 0, none⟩ = some (.int .i64 g.rows) := by go_simp
      have a2 : ((( (( ((w).alloc (.cells #[.int .i64 g.rows, .int .i64 g.cols, .slice ga g.bl.length gc] 33))).alloc (.cells #[.int .i64 p.1, .int .i64 p.2] 26))).alloc (.cells #[.int .i64 q.1, .int .i64 q.2] 26))).cell? ⟨w.heap.size, 1, none⟩ = some (.int .i64 g.cols) := by go_simp
      have a3 : ((( (( ((w).alloc (.cells #[.int .i64 g.rows, .int .i64 g.cols, .slice ga g.bl.length gc] 33))).alloc (.cells #[.int .i64 p.1, .int .i64 p.2] 26))).alloc (.cells #[.int .i64 q.1, .int .i64 q.2] 26))).cell? ⟨w.heap.size, 2, none⟩ = some (.slice ga g.bl.length gc) := by go_simp
      have a4 : ((( (( ((w).alloc (.cells #[.int .i64 g.rows, .int .i64 g.cols, .slice ga g.bl.length gc] 33))).alloc (.cells #[.int .i64 p.1, .int .i64 p.2] 26))).alloc (.cells #[.int .i64 q.1, .int .i64 q.2] 26))).cell? ⟨w.heap.size + 1, 0, none⟩ = some (.int .i64 p.1) := by go_simp
      have a5 : ((( (( ((w).alloc (.cells #[.int .i64 g.rows, .int .i64 g.cols, .slice ga g.bl.length gc] 33))).alloc (.cells #[.int .i64 p.1, .int .i64 p.2] 26))).alloc (.cells #[.int .i64 q.1, .int .i64 q.2] 26))).cell? ⟨w.heap.size + 1, 1, none⟩ = some (.int .i64 p.2) := by go_simp
      have a6 : ((( (( ((w).alloc (.cells #[.int .i64 g.rows, .int .i64 g.cols, .slice ga g.bl.length gc] 33))).alloc (.cells #[.int .i64 p.1, .int .i64 p.2] 26))).alloc (.cells #[.int .i64 q.1, .int .i64 q.2] 26))).cell? ⟨w.heap.size + 1 + 1, 0, none⟩ = some (.int .i64 q.1) := by go_simp
      have a7 : ((( (( ((w).alloc (.cells #[.int .i64 g.rows, .int .i64 g.cols, .slice ga g.bl.length gc] 33))).alloc (.cells #[.int .i64 p.1, .int .i64 p.2] 26))).alloc (.cells #[.int .i64 q.1, .int .i64 q.2] 26))).cell? ⟨w.heap.size + 1 + 1, 1, none⟩ = some (.int .i64 q.2) := by go_simp
      go_enter Try.func27, Try.ntmps27
      go_wp2_with fail
      refine (given_any g [p, q] ga gc _ _ _ HG.out (HC.out.ext (E0.alloc _)) (by simp [maxLen]) (cells2_two (by go_simp) (by go_simp) (by go_simp) (by go_simp))).mono ?_
      rintro e w1 ⟨rfl, hE⟩
      rw [H0.out]
      have E1 : Ext ((( (( ((w).alloc (.cells #[.int .i64 g.rows, .int .i64 g.cols, .slice ga g.bl.length gc] 33))).alloc (.cells #[.int .i64 p.1, .int .i64 p.2] 26))).alloc (.cells #[.int .i64 q.1, .int .i64 q.2] 26))) w1 := ((Ext.refl _).alloc _).trans hE
      have b1 := E1.cell a1
      have b2 := E1.cell a2
      have b3 := E1.cell a3
      have b4 := E1.cell a4
      have b5 := E1.cell a5
      have b6 := E1.cell a6
      have b7 := E1.cell a7
      have E2 : Ext w w1 := E0.trans E1
      have z1 : w.heap.size < w1.heap.size := cell_lt b1
      have z2 : w.heap.size + 1 < w1.heap.size := cell_lt b4
      have z3 : w.heap.size + 1 + 1 < w1.heap.size := cell_lt b6
      clear hE E1 E0 a1 a2 a3 a4 a5 a6 a7
      go_wp2_with fail
      refine wp_region_held_drew (S := fun w' => Sees w1 w') (by kernel_rfl) (by repeat (first | exact Sees.refl _ | assumption | apply Sees.drew)) (fun hHeld => ?_)
      ((refine wpAnyH_take (i := 0) (oi := ?_) (v := ?_) ?_ (by kernel_rfl) (by kernel_rfl) (by kernel_rfl) ?_ ?_ (by assumption) ?_; rotate_left 2; (focus ((simp only [List.getElem?_toArray, List.getElem?_cons_zero]; exact rfl))); (focus (exact fun _ _ _ h => h)); (focus (refine Or.inl ⟨by rfl, ?_⟩; intro w hSw; (try dsimp only at hSw); (first | (go_simp; done) | (go_simp; with_reducible rfl)))); (try simp only [Act.put, List.setIfInBounds_toArray, List.set_cons_zero, List.set_cons_succ])); (refine wpAnyH_take (i := 1) (oi := ?_) (v := ?_) ?_ (by kernel_rfl) (by kernel_rfl) (by kernel_rfl) ?_ ?_ (by assumption) ?_; rotate_left 2; (focus ((simp only [List.getElem?_toArray, List.getElem?_cons_succ, List.getElem?_cons_zero]; exact rfl))); (focus (exact fun _ _ _ h => h)); (focus (refine Or.inl ⟨by rfl, ?_⟩; intro w hSw; (try dsimp only at hSw); (first | (go_simp; done) | (go_simp; with_reducible rfl)))); (try simp only [Act.put, List.setIfInBounds_toArray, List.set_cons_zero, List.set_cons_succ])); (refine wpAnyH_take (i := 3) (oi := ?_) (v := ?_) ?_ (by kernel_rfl) (by kernel_rfl) (by kernel_rfl) ?_ ?_ (by assumption) ?_; rotate_left 2; (focus ((simp only [List.getElem?_toArray, List.getElem?_cons_succ, List.getElem?_cons_zero]; exact rfl))); (focus (exact fun _ _ _ h => h)); (focus (refine Or.inl ⟨by rfl, ?_⟩; intro w hSw; (try dsimp only at hSw); (first | (go_simp; done) | (go_simp; with_reducible rfl)))); (try simp only [Act.put, List.setIfInBounds_toArray, List.set_cons_zero, List.set_cons_succ])); (refine wpAnyH_take (i := 4) (oi := ?_) (v := ?_) ?_ (by kernel_rfl) (by kernel_rfl) (by kernel_rfl) ?_ ?_ (by assumption) ?_; rotate_left 2; (focus ((simp only [List.getElem?_toArray, List.getElem?_cons_succ, List.getElem?_cons_zero]; exact rfl))); (focus (exact fun _ _ _ h => h)); (focus (refine Or.inl ⟨by rfl, ?_⟩; intro w hSw; (try dsimp only at hSw); (first | (go_simp; done) | (go_simp; with_reducible rfl)))); (try simp only [Act.put, List.setIfInBounds_toArray, List.set_cons_zero, List.set_cons_succ])); (refine wpAnyH_take (i := 5) (oi := ?_) (v := ?_) ?_ (by kernel_rfl) (by kernel_rfl) (by kernel_rfl) ?_ ?_ (by assumption) ?_; rotate_left 2; (focus ((simp only [List.getElem?_toArray, List.getElem?_cons_succ, List.getElem?_cons_zero]; exact rfl))); (focus (exact fun _ _ _ h => h)); (focus (refine Or.inl ⟨by rfl, ?_⟩; intro w hSw; (try dsimp only at hSw); (first | (go_simp; done) | (go_simp; with_reducible rfl)))); (try simp only [Act.put, List.setIfInBounds_toArray, List.set_cons_zero, List.set_cons_succ])); (refine wpAnyH_take (i := 6) (oi := ?_) (v := ?_) ?_ (by kernel_rfl) (by kernel_rfl) (by kernel_rfl) ?_ ?_ (by assumption) ?_; rotate_left 2; (focus ((simp only [List.getElem?_toArray, List.getElem?_cons_succ, List.getElem?_cons_zero]; exact rfl))); (focus (exact fun _ _ _ h => h)); (focus (refine Or.inl ⟨by rfl, ?_⟩; intro w hSw; (try dsimp only at hSw); (first | (go_simp; done) | (go_simp; with_reducible rfl)))); (try simp only [Act.put, List.setIfInBounds_toArray, List.set_cons_zero, List.set_cons_succ])))
      (refine wpAnyH_ready (rs := [2]) (by kernel_rfl) (by simp) ?_; refine AllReadyH.cons (o := ?_) ?_ (fun K hK => ?_) AllReadyH.nil; rotate_left; (focus ((simp only [List.getElem?_toArray, List.getElem?_cons_succ, List.getElem?_cons_zero]; exact rfl))); go_simp; go_at_call 49; refine (distances_any g q ga gc _ HR.out HQ.out (HC.out.ext (E2.trans (by exact (show Sees w1 _ by assumption).2.2)))).mono ?_; rintro e w' ⟨tb, rfl, hT, hE2⟩; have c1 := (hT p ⟨r1, r2, r3, r4⟩).1; go_wp2_with fail; refine hK.out _ _ (by repeat (first | exact Sees.refl _ | assumption | apply Sees.drew | (refine Sees.ext ?_ (by assumption)))) (fun hHeld => ?_); clear hK K; (try simp only [Act.put, List.setIfInBounds_toArray, List.set_cons_zero, List.set_cons_succ]))
      ((refine wpAnyH_take (i := 7) (oi := ?_) (v := ?_) ?_ (by kernel_rfl) (by kernel_rfl) (by kernel_rfl) ?_ ?_ (by assumption) ?_; rotate_left 2; (focus ((simp only [List.getElem?_toArray, List.getElem?_cons_succ, List.getElem?_cons_zero]; exact rfl))); (focus (exact fun _ _ _ h => h)); (focus (refine Or.inl ⟨by rfl, ?_⟩; intro w hSw; (try dsimp only at hSw); (first | (go_simp; done) | (go_simp; with_reducible rfl)))); (try simp only [Act.put, List.setIfInBounds_toArray, List.set_cons_zero, List.set_cons_succ])); (refine wpAnyH_take (i := 8) (oi := ?_) (v := ?_) ?_ (by kernel_rfl) (by kernel_rfl) (by kernel_rfl) ?_ ?_ (by assumption) ?_; rotate_left 2; (focus ((simp only [List.getElem?_toArray, List.getElem?_cons_succ, List.getElem?_cons_zero]; exact rfl))); (focus (exact fun _ _ _ h => h)); (focus (refine Or.inl ⟨by rfl, ?_⟩; intro w hSw; (try dsimp only at hSw); (first | (go_simp; done) | (go_simp; with_reducible rfl)))); (try simp only [Act.put, List.setIfInBounds_toArray, List.set_cons_zero, List.set_cons_succ])); (refine wpAnyH_take (i := 9) (oi := ?_) (v := ?_) ?_ (by kernel_rfl) (by kernel_rfl) (by kernel_rfl) ?_ ?_ (by assumption) ?_; rotate_left 2; (focus ((simp only [List.getElem?_toArray, List.getElem?_cons_succ, List.getElem?_cons_zero]; exact rfl))); (focus (exact fun _ _ _ h => h)); (focus (refine Or.inl ⟨by rfl, ?_⟩; intro w hSw; (try dsimp only at hSw); (first | (go_simp; done) | (go_simp; with_reducible rfl)))); (try simp only [Act.put, List.setIfInBounds_toArray, List.set_cons_zero, List.set_cons_succ])))
      (refine wpAnyH_ready (rs := [10]) (by kernel_rfl) (by simp) ?_; refine AllReadyH.cons (o := ?_) ?_ (fun K hK => ?_) AllReadyH.nil; rotate_left; (focus ((simp only [List.getElem?_toArray, List.getElem?_cons_succ, List.getElem?_cons_zero]; exact rfl))); go_simp; refine hK.out _ _ (by repeat (first | exact Sees.refl _ | assumption | apply Sees.drew | (refine Sees.ext ?_ (by assumption)))) (fun hHeld => ?_); clear hK K; (try simp only [Act.put, List.setIfInBounds_toArray, List.set_cons_zero, List.set_cons_succ]))
      ((refine wpAnyH_take (i := 11) (oi := ?_) (v := ?_) ?_ (by kernel_rfl) (by kernel_rfl) (by kernel_rfl) ?_ ?_ (by assumption) ?_; rotate_left 2; (focus ((simp only [List.getElem?_toArray, List.getElem?_cons_succ, List.getElem?_cons_zero]; exact rfl))); (focus (exact fun _ _ _ h => h)); (focus (refine Or.inl ⟨by rfl, ?_⟩; intro w hSw; (try dsimp only at hSw); (first | (go_simp; done) | (go_simp; with_reducible rfl)))); (try simp only [Act.put, List.setIfInBounds_toArray, List.set_cons_zero, List.set_cons_succ])))
      refine wpAnyH_done (by kernel_rfl) ?_ _
      have hS := (show Sees w1 _ by assumption).2.2
      cases neg
      · have hd : ¬ dst g q p < 0 := by simpa using hneg.out
        go_wp2
        go_ret2
        exact ⟨rfl, E2.trans hS⟩
      · have hd : dst g q p < 0 := by simpa using hneg.out
        go_wp2
        go_ret2
        exact ⟨rfl, E2.trans hS⟩
    obtain ⟨e1, e2⟩ := len_ok H0.out (neg := decide (dst g q p < 0)) rfl
    rw [e1, e2]
    exact main _ rfl
  · have hn : Hid (lenN g p q = 0 ∧ lenE g p q = givenErr g [p, q]) := by
      show _ ∧ _
      unfold lenN lenE
      rw [if_pos h0, if_pos h0]
      exact ⟨rfl, rfl⟩
    have hb : (givenErr g [p, q] != 0) = true := by simp [h0]
    have hb2 : (givenErr g [p, q] == 0) = false := by simp [h0]
    clear h0
    go_enter Try.func27, Try.ntmps27
    go_wp2_with fail
    have E0 : Ext w (((( (( ((w).alloc (.cells #[.int .i64 g.rows, .int .i64 g.cols, .slice ga g.bl.length gc] 33))).alloc (.cells #[.int .i64 p.1, .int .i64 p.2] 26))).alloc (.cells #[.int .i64 q.1, .int .i64 q.2] 26))).alloc (.cells #[.int .i64 p.1, .int .i64 p.2, .int .i64 q.1, .int .i64 q.2] 26)) := ((((Ext.refl _).alloc _).alloc _).alloc _).alloc _
    refine (given_any g [p, q] ga gc _ _ _ HG.out (HC.out.ext E0) (by simp [maxLen]) (cells2_two (by go_simp) (by go_simp) (by go_simp) (by go_simp))).mono ?_
    rintro e w1 ⟨rfl, hE⟩
    go_wp2
    go_ret2
    rw [hn.out.1, hn.out.2]
    exact ⟨rfl, E0.trans hE⟩
end Go.Proofs.Ytfigooilhnahfaa
/- The route. -/
namespace Go.Proofs.Ytfigooilhnahfaa
open Go.RowKit
attribute [local go_sem] Oper.semAt_some

def routeL (g : Gr) (p q : Pt) : List Pt := if dst g q p < 0 then [] else way g p q
def RoutePost (g : Gr) (p q : Pt) (w : World) (e : Ending) (w' : World) : Prop :=
  ∃ v, e = .returned (.tuple #[v, .int .i64 (if dst g q p < 0 then 6 else 0)]) ∧ Owns w' v (routeL g p q) ∧ Ext w w'

def sliceLen : Value → Nat
  | .slice _ n _ => n
  | _ => 0
def fuelR (a : Act) : Nat := 5000 - sliceLen (a.tmps.getD 9 undef)

/-- a frame with marks leaves: only the marks turn -/
theorem leaves_keep {P : Program} {fn : Func} {tmps : Array Value} {R : Ending → World → Prop} {m n : Nat} {v : Value} (hv : ∀ w, (results fn tmps).run P w = .ok v w) :
    ∀ (ds : List Deferred) (w : World), Marks n ds w → (∀ w', Keep n w w' → R (.returned v) w') → LeavesInM Fence.wide m P fn tmps R ds .returning w := by
  intro ds
  induction ds with
  | nil => intro w _ hR; exact ⟨v, hv w, hR w (Keep.refl _ _)⟩
  | cons d ds ih =>
    intro w hm hR
    obtain ⟨Ds, h1, h2, h3⟩ := hm
    cases Ds with
    | nil => cases h1
    | cons D Ds =>
      simp only [List.map_cons, List.cons.injEq] at h1
      obtain ⟨rfl, rfl⟩ := h1
      have hD := h3 D (List.mem_cons_self ..)
      have hb : Keep n w (w.putObj D (.deferred none)) := Keep.turn hD.1 hD.2 rfl
      refine ⟨(by simp), .inl ⟨D, _, rfl, run_takeDeferred hD.2, ih _ ⟨Ds, rfl, (List.nodup_cons.1 h2).2, fun E hE => ⟨(h3 E (List.mem_cons_of_mem _ hE)).1, ?_⟩⟩ (fun w' hw' => hR w' (hb.trans hw'))⟩⟩
      have hne : E ≠ D := fun e => (List.nodup_cons.1 h2).1 (e ▸ hE)
      rw [World.putObj_heap_other hne]
      exact (h3 E (List.mem_cons_of_mem _ hE)).2

theorem owns_new (W : World) (p : Pt) : Owns (W.alloc (.cells #[.int .i64 p.1, .int .i64 p.2] 26)) (.slice (some ⟨W.heap.size, 0, none⟩) [p].length 1) [p] :=
  ⟨rfl, .inr ⟨W.heap.size, 1, #[.int .i64 p.1, .int .i64 p.2], rfl, Nat.zero_le _, World.alloc_heap_new _ _, by simp, by decide, rfl, rfl⟩⟩

theorem stepTo_spec {g : Gr} {D : Pt → Int} {a : Pt} (h : ∃ x ∈ near g a, D x = D a - 1) : stepTo g D a ∈ near g a ∧ D (stepTo g D a) = D a - 1 := by
  obtain ⟨x, h1, h2⟩ := h
  unfold stepTo
  cases hf : (near g a).find? (fun x => decide (D x = D a - 1)) with
  | none => exact absurd (List.find?_eq_none.1 hf x h1) (by simp [h2])
  | some y => exact ⟨List.mem_of_find?_eq_some hf, by simpa using List.find?_some hf⟩

structure RtLoop (g : Gr) (p q : Pt) (W0 : World) (k : Nat) (a : Pt) (L : List Pt) (v : Value) (atb : Nat) (ds : List Deferred) (w : World) : Prop where
  eq : way g p q = L ++ wayGo g (dst g q) k a
  isd : IsD g q a k
  op : opn g a = true
  be : Below W0.heap.size W0 w
  a1 : w.cell? ⟨atb, 0, none⟩ = some (.int .i64 a.1)
  a2 : w.cell? ⟨atb, 1, none⟩ = some (.int .i64 a.2)
  a3 : w.frozen? ⟨atb, 0, none⟩ = false
  a4 : w.frozen? ⟨atb, 1, none⟩ = false
  own : Owns w v L
  vb : ∀ b, v.ownBlock = some b → W0.heap.size ≤ b ∧ b ≠ atb
  am : W0.heap.size ≤ atb
  ms : Marks W0.heap.size ds w
def RtLoopA (g : Gr) (p q : Pt) (W0 : World) (gb qb ob : Nat) (x : Act) (w : World) : Prop :=
  ∃ (k : Nat) (a : Pt) (L : List Pt) (av : Option Addr) (cv atb : Nat) (ds : List Deferred) (u0 u1 u2 u4 u6 u7 u11 u12 u13 u14 u15 u16 u17 u18 u19 u20 u21 u22 u23 u24 u25 u26 u27 u28 u29 u30 u31 u32 u33 u34 u35 u36 u37 u38 u39 u40 u41 u42 u43 u44 u45 u46 u47 u48 u49 u50 u51 u52 u53 u54 u55 u56 u57 u58 u59 u60 u61 : Value), x = { tmps := #[u0, u1, u2, .pointer (some ⟨gb, 0, none⟩), u4, .pointer (some ⟨qb, 0, none⟩), u6, u7, .pointer (some ⟨ob, 0, none⟩), .slice av L.length cv, .pointer (some ⟨atb, 0, none⟩), u11, u12, u13, u14, u15, u16, u17, u18, u19, u20, u21, u22, u23, u24, u25, u26, u27, u28, u29, u30, u31, u32, u33, u34, u35, u36, u37, u38, u39, u40, u41, u42, u43, u44, u45, u46, u47, u48, u49, u50, u51, u52, u53, u54, u55, u56, u57, u58, u59, u60, u61], defers := ds } ∧ RtLoop g p q W0 k a L (.slice av L.length cv) atb ds w

set_option maxHeartbeats 4000000 in
set_option maxRecDepth 100000 in
theorem route_any (g : Gr) (p q : Pt) (ga : Option Addr) (gc : Nat) (w : World) (hr : Right g) (hp : opn g p = true) (hq : opn g q = true) (hc : Cells2 w ga g.bl) :
    Calls Try.prog 54 #[.agg #[.int .i64 g.rows, .int .i64 g.cols, .slice ga g.bl.length gc], .agg #[.int .i64 p.1, .int .i64 p.2], .agg #[.int .i64 q.1, .int .i64 q.2]] w fun e w' => RoutePost g p q w e w' := by
  have HR := Lib.hid hr
  have HC : Hid (Cells2 w ga g.bl) := hc
  have HP := Lib.hid hp
  have HQ := Lib.hid hq
  obtain ⟨r1, r2, r3, r4⟩ := inG_of hr (opn_inside hp)
  have E0 : Ext w ((( (( ((w).alloc (.cells #[.int .i64 g.rows, .int .i64 g.cols, .slice ga g.bl.length gc] 33))).alloc (.cells #[.int .i64 p.1, .int .i64 p.2] 26))).alloc (.cells #[.int .i64 q.1, .int .i64 q.2] 26))) := (((Ext.refl _).alloc _).alloc _).alloc _
  have a1 : ((( (( ((w).alloc (.cells #[.int .i64 g.rows, .int .i64 g.cols, .slice ga g.bl.length gc] 33))).alloc (.cells #[.int .i64 p.1, .int .i64 p.2] 26))).alloc (.cells #[.int .i64 q.1, .int .i64 q.2] 26))).cell? ⟨w.heap.size, 0, none⟩ = some (.int .i64 g.rows) := by go_simp
  have a2 : ((( (( ((w).alloc (.cells #[.int .i64 g.rows, .int .i64 g.cols, .slice ga g.bl.length gc] 33))).alloc (.cells #[.int .i64 p.1, .int .i64 p.2] 26))).alloc (.cells #[.int .i64 q.1, .int .i64 q.2] 26))).cell? ⟨w.heap.size, 1, none⟩ = some (.int .i64 g.cols) := by go_simp
  have a3 : ((( (( ((w).alloc (.cells #[.int .i64 g.rows, .int .i64 g.cols, .slice ga g.bl.length gc] 33))).alloc (.cells #[.int .i64 p.1, .int .i64 p.2] 26))).alloc (.cells #[.int .i64 q.1, .int .i64 q.2] 26))).cell? ⟨w.heap.size, 2, none⟩ = some (.slice ga g.bl.length gc) := by go_simp
  have a4 : ((( (( ((w).alloc (.cells #[.int .i64 g.rows, .int .i64 g.cols, .slice ga g.bl.length gc] 33))).alloc (.cells #[.int .i64 p.1, .int .i64 p.2] 26))).alloc (.cells #[.int .i64 q.1, .int .i64 q.2] 26))).cell? ⟨w.heap.size + 1, 0, none⟩ = some (.int .i64 p.1) := by go_simp
  have a5 : ((( (( ((w).alloc (.cells #[.int .i64 g.rows, .int .i64 g.cols, .slice ga g.bl.length gc] 33))).alloc (.cells #[.int .i64 p.1, .int .i64 p.2] 26))).alloc (.cells #[.int .i64 q.1, .int .i64 q.2] 26))).cell? ⟨w.heap.size + 1, 1, none⟩ = some (.int .i64 p.2) := by go_simp
  have a6 : ((( (( ((w).alloc (.cells #[.int .i64 g.rows, .int .i64 g.cols, .slice ga g.bl.length gc] 33))).alloc (.cells #[.int .i64 p.1, .int .i64 p.2] 26))).alloc (.cells #[.int .i64 q.1, .int .i64 q.2] 26))).cell? ⟨w.heap.size + 1 + 1, 0, none⟩ = some (.int .i64 q.1) := by go_simp
  have a7 : ((( (( ((w).alloc (.cells #[.int .i64 g.rows, .int .i64 g.cols, .slice ga g.bl.length gc] 33))).alloc (.cells #[.int .i64 p.1, .int .i64 p.2] 26))).alloc (.cells #[.int .i64 q.1, .int .i64 q.2] 26))).cell? ⟨w.heap.size + 1 + 1, 1, none⟩ = some (.int .i64 q.2) := by go_simp
  clear hc hr hp hq
  refine (callsIn_wide (n := 0)).1 ?_
  refine callsIn_of_wp_marks Try.func54 rfl trivial ?_
  simp only [Try.ntmps54, List.size_toArray, List.length_cons, List.length_nil, Nat.reduceAdd, Nat.reduceSub, Array.replicate_succ, Array.replicate_zero, List.push_toArray, List.append_toArray, List.nil_append, List.cons_append]
  gi_wp2_with fail
  refine ⟨trivial, rfl, ?_⟩
  gi_at_call 49
  refine (callsIn_wide.2 (distances_any g q ga gc _ HR.out (opn_inside HQ.out) (HC.out.ext E0))).mono ?_
  rintro e w1 ⟨tb, rfl, hT, hE⟩
  have E1 : Ext w1 (w1.alloc (.cells #[.pointer (some ⟨tb, 0, none⟩)] 86)) := (Ext.refl _).alloc _
  have o1 : (w1.alloc (.cells #[.pointer (some ⟨tb, 0, none⟩)] 86)).cell? ⟨w1.heap.size, 0, none⟩ = some (.pointer (some ⟨tb, 0, none⟩)) := by go_simp
  have EX := hE.trans E1
  have b1 := EX.cell a1
  have b2 := EX.cell a2
  have b3 := EX.cell a3
  have b4 := EX.cell a4
  have b5 := EX.cell a5
  have b6 := EX.cell a6
  have b7 := EX.cell a7
  have hTT := hT.ext E1
  have c1 := (hTT p ⟨r1, r2, r3, r4⟩).1
  have EW := E0.trans EX
  have HT := Lib.hid hTT
  have HCw : Hid (Cells2 (w1.alloc (.cells #[.pointer (some ⟨tb, 0, none⟩)] 86)) ga g.bl) := HC.out.ext EW
  clear hT hE E1 EX hTT HC E0 a1 a2 a3 a4 a5 a6 a7
  generalize hob : w1.heap.size = ob at o1
  have zob : ob < (w1.alloc (.cells #[.pointer (some ⟨tb, 0, none⟩)] 86)).heap.size := by rw [← hob]; simp
  gi_wp2_with fail
  generalize w1.alloc (.cells #[.pointer (some ⟨tb, 0, none⟩)] 86) = w2 at o1 b1 b2 b3 b4 b5 b6 b7 c1 EW HT HCw zob ⊢
  clear hob
  rcases dst_cases HR.out (opn_inside HQ.out) p with ⟨k, hk, hd⟩ | ⟨hno, hd⟩
  · have hneg : ¬ dst g q p < 0 := by omega
    have HNEG := Lib.hid hneg
    have HK := Lib.hid hk
    have HD := Lib.hid hd
    clear hk hd
    refine wpIn_wide.2 ?_
    go_quiet (fail)
    have EN : Ext w2 (w2.drewN nq) := (Ext.refl _).drewN _
    have o1 := EN.cell o1
    have b1 := EN.cell b1
    have b2 := EN.cell b2
    have b3 := EN.cell b3
    have b4 := EN.cell b4
    have b5 := EN.cell b5
    have b6 := EN.cell b6
    have b7 := EN.cell b7
    have T0 := Lib.hid (HT.out.ext EN)
    have C0 := Lib.hid (HCw.out.ext EN)
    have EW0 := EW.trans EN
    generalize w2.drewN nq = W0 at EN o1 b1 b2 b3 b4 b5 b6 b7 T0 C0 EW0 ⊢
    clear EN HT HCw EW zob c1
    have hgb : w.heap.size < W0.heap.size := cell_lt b1
    have hpb : w.heap.size + 1 < W0.heap.size := cell_lt b4
    have hqb : w.heap.size + 1 + 1 < W0.heap.size := cell_lt b6
    have HO : ob < W0.heap.size := cell_lt o1
    have HTb : tb < W0.heap.size := T0.out.lt
    have HBL : Hid (g.bl ≠ [] → ∀ b off, ga = some ⟨b, off, none⟩ → b < W0.heap.size) := fun hne b off hb => C0.out.lt hne hb
    gi_wp2
    refine wpIn_loop (RtLoopA g p q W0 w.heap.size (w.heap.size + 1 + 1) ob) (fun a _ => fuelR a) ?_ ?_
    · have E4 : Ext W0 ((( W0).alloc (.cells #[.int .i64 p.1, .int .i64 p.2] 26))) := (Ext.refl _).alloc _
      have E5 : Ext ((( W0).alloc (.cells #[.int .i64 p.1, .int .i64 p.2] 26))) ((( (( W0).alloc (.cells #[.int .i64 p.1, .int .i64 p.2] 26))).alloc (.cells #[.int .i64 p.1, .int .i64 p.2] 26))) := (Ext.refl _).alloc _
      refine ⟨k, p, [p], some ⟨W0.heap.size, 0, none⟩, 1, W0.heap.size + 1, [], _, _, _, _, _, _, _, _, _, _, _, _, _, _, _, _, _, _, _, _, _, _, _, _, _, _, _, _, _, _, _, _, _, _, _, _, _, _, _, _, _, _, _, _, _, _, _, _, _, _, _, _, _, _, _, _, _, rfl, ?_⟩
      exact {
        eq := by unfold way; rw [HD.out]; rfl
        isd := HK.out
        op := HP.out
        be := E4.trans E5
        a1 := by go_simp
        a2 := by go_simp
        a3 := by go_simp
        a4 := by go_simp
        own := (owns_new W0 p).ext E5
        vb := fun b hb => by
          have hb : some W0.heap.size = some b := hb
          cases hb
          exact ⟨Nat.le_refl _, by omega⟩
        am := by omega
        ms := Marks.nil _ _ }
    · have HK2 : Hid (dst g q p < 4097) := by show _ < _; have h1 := HK.out.lt HR.out (opn_inside HQ.out); have h2 := HD.out; omega
      clear HK
      rintro x wr ⟨k, a, L, av, cv, atb, ds, u0, u1, u2, u4, u6, u7, u11, u12, u13, u14, u15, u16, u17, u18, u19, u20, u21, u22, u23, u24, u25, u26, u27, u28, u29, u30, u31, u32, u33, u34, u35, u36, u37, u38, u39, u40, u41, u42, u43, u44, u45, u46, u47, u48, u49, u50, u51, u52, u53, u54, u55, u56, u57, u58, u59, u60, u61, rfl, h⟩
      have H := Lib.hid h
      have q1 : wr.cell? ⟨w.heap.size + 1 + 1, 0, none⟩ = some (.int .i64 q.1) := (h.be.cell (p := ⟨w.heap.size + 1 + 1, 0, none⟩) hqb).trans b6
      have q2 : wr.cell? ⟨w.heap.size + 1 + 1, 1, none⟩ = some (.int .i64 q.2) := (h.be.cell (p := ⟨w.heap.size + 1 + 1, 1, none⟩) hqb).trans b7
      have g1 : wr.cell? ⟨w.heap.size, 0, none⟩ = some (.int .i64 g.rows) := (h.be.cell (p := ⟨w.heap.size, 0, none⟩) hgb).trans b1
      have g2 : wr.cell? ⟨w.heap.size, 1, none⟩ = some (.int .i64 g.cols) := (h.be.cell (p := ⟨w.heap.size, 1, none⟩) hgb).trans b2
      have g3 : wr.cell? ⟨w.heap.size, 2, none⟩ = some (.slice ga g.bl.length gc) := (h.be.cell (p := ⟨w.heap.size, 2, none⟩) hgb).trans b3
      have oo : wr.cell? ⟨ob, 0, none⟩ = some (.pointer (some ⟨tb, 0, none⟩)) := (h.be.cell (p := ⟨ob, 0, none⟩) HO).trans o1
      have a1 := h.a1
      have a2 := h.a2
      have hatb : atb < wr.heap.size := cell_lt a1
      have zgb : w.heap.size < wr.heap.size := cell_lt g1
      have TT : Hid (TabAt wr tb (dst g q)) := T0.out.below h.be HTb
      have CC : Hid (Cells2 wr ga g.bl) := Cells2.kept (Kd := fun k => k < W0.heap.size) (n := 0) ⟨h.be.size, fun k o hk ho _ => by rw [h.be.block k hk]; exact ho⟩ (fun b off hb hne => HBL.out hne b off hb) C0.out
      clear h b1 b2 b3 b4 b5 b6 b7 o1
      cases k with
      | zero =>
        obtain rfl : a = q := H.out.isd.w.zero
        gi_wp2
        refine leaves_keep (v := .tuple #[.slice av L.length cv, .int .i64 0]) (fun w => (results_tmp2 (t := 6) (u := 7) rfl _ _ _).trans rfl) _ _ H.out.ms (fun w' hw' => ?_)
        refine ⟨.slice av L.length cv, by rw [if_neg (show ¬ _ < (0 : Int) by have := HNEG.out; omega)], ?_, ?_⟩
        · unfold routeL
          rw [if_neg (show ¬ _ < (0 : Int) by have := HNEG.out; omega), H.out.eq]
          simp only [wayGo, List.append_nil]
          exact H.out.own.keep hw'
        · exact Below.trans EW0 ((H.out.be.trans hw'.1).mono EW0.size)
      | succ k =>
        have hne : a ≠ q := by
          rintro rfl
          have := (IsD.self g a).unique H.out.isd
          omega
        have hia : Hid (inside g a = true) := opn_inside H.out.op
        obtain ⟨x, hx1, hx2⟩ := stepTo_ex HR.out HQ.out H.out.op H.out.isd
        have hda : dst g q a = (k : Int) + 1 := by have := dst_of HR.out (opn_inside HQ.out) H.out.isd; rw [this]; omega
        have hlt := H.out.isd.lt HR.out (opn_inside HQ.out)
        have EX : Hid (∃ x ∈ near g a, dst g q x = dst g q a - 1) := ⟨x, hx1, by rw [hx2, hda]; omega⟩
        have HDA := Lib.hid hda
        clear hx1 hx2 hda
        have HH1 : a.1 = q.1 → (a.2 == q.2) = false := fun h1 => by
          cases hb : (a.2 == q.2)
          · rfl
          · exact absurd (Prod.ext h1 (by simpa using hb)) hne
        have step : ∀ (b1 b2 : Bool), (a.1 == q.1) = b1 → (a.2 == q.2) = b2 → b1 = false ∨ b2 = false → True := fun _ _ _ _ _ => trivial
        clear step
        have main : ∀ (K : Prop), ((a.1 == q.1) = false → K) → (a.1 = q.1 → (a.2 == q.2) = false → K) → K := fun K h1 h2 => by
          by_cases e : a.1 = q.1
          · exact h2 e (HH1 e)
          · exact h1 (by simpa using e)
        clear HH1 hne
        have HEQ := Lib.hid (stepTo_spec EX.out)
        have HLT := Lib.hid hlt
        have hown : Hid (∀ b, (Value.slice av L.length cv).ownBlock = some b → b < wr.heap.size) := fun b hb => H.out.own.lt hb
        clear hlt hneg
        refine main _ (fun e1 => ?_) (fun e1 e2 => ?_)
        all_goals (try clear main)
        · gi_wp2_with fail
          refine ⟨trivial, rfl, ?_⟩
          gi_at_call 74
          refine (callsIn_wide.2 (around_any g a _ _)).mono ?_
          rintro e w3 ⟨rfl, hw3⟩
          gi_wp2_with fail
          have E6 : Ext wr w3 := by rw [← hw3]; exact ((Ext.refl _).alloc _).alloc _
          have hz3 : w3.heap.size = wr.heap.size + 2 := by rw [← hw3]; simp
          have G1 : w3.cell? ⟨wr.heap.size, 0, none⟩ = some (.int .i64 g.rows) := by rw [← hw3, World.cell?_alloc2_first]; rfl
          have G2 : w3.cell? ⟨wr.heap.size, 1, none⟩ = some (.int .i64 g.cols) := by rw [← hw3, World.cell?_alloc2_first]; rfl
          have G3 : w3.cell? ⟨wr.heap.size, 2, none⟩ = some (.slice ga g.bl.length gc) := by rw [← hw3, World.cell?_alloc2_first]; rfl
          have P1 : w3.cell? ⟨wr.heap.size + 1, 0, none⟩ = some (.int .i64 (a).1) := by rw [← hw3, World.cell?_alloc2_new]; rfl
          have P2 : w3.cell? ⟨wr.heap.size + 1, 1, none⟩ = some (.int .i64 (a).2) := by rw [← hw3, World.cell?_alloc2_new]; rfl
          have ham := H.out.am
          refine wpIn_wide.2 (route_range _ _ rfl g a (dst g q) ga gc w3 (wr.heap.size + 1) wr.heap.size ob tb atb HR.out hia.out P1 P2 G1 G2 G3 (CC.out.ext E6) (by omega) (by omega)
            (fun hne b off h => by have := HBL.out hne b off h; omega) (E6.cell oo) (TT.out.ext E6) (E6.cell a1) (E6.cell a2)
            ((Below.frozen E6 (p := ⟨atb, 0, none⟩) hatb).trans H.out.a3) ((Below.frozen E6 (p := ⟨atb, 1, none⟩) hatb).trans H.out.a4) (by rw [HDA.out]; omega) (by rw [HDA.out]; have := HLT.out; omega) EX.out _ _ _ _ _ _ _ _ _ _ _ _ _ _ _ _ _ _ _ _ _ _ _ _ _ _ _ _ _ _ _ _ _ _ _ _ _ _ _ _ _ _ _ _ _ _ _ _ _ _ _ _ _ _ _ _ _ _ _ _ _ ?_)
          intro Db w4 k1 k2 hend k4
          generalize hx : stepTo g (dst g q) a = x at hend
          have HX := Lib.hid hx
          have HE := Lib.hid hend
          have x1 := hend.a1
          have x2 := hend.a2
          have K4 := Lib.hid k4
          have hz4 : w3.heap.size ≤ w4.heap.size := hend.c.1
          clear hx hend k4 P1 P2 G1 G2 G3 hw3
          have V4 : Hid (Owns w4 (.slice av L.length cv) L) := (H.out.own.ext E6).kept (X := fun k => k ≠ atb) (n := 0) (HE.out.c.kept (fun k hk _ => hk)) (fun b hb => (H.out.vb b hb).2)
          obtain ⟨i0, hi, hi0, hi1, hi2⟩ := info_parts infoPl
          have hlen : L.length ≤ 4097 := by
            have h1 : (way g p q).length = L.length + (k + 1) := by rw [H.out.eq, List.length_append, wayGo_len]
            have h2 : (way g p q).length = (dst g q p).toNat + 1 := by unfold way; simp [wayGo_len]
            have h3 := HNEG.out
            have h4 := HK2.out
            omega
          refine (wpIn_wide (n := 0)).1 ?_
          gi_wp2_with (gi_at_builtin; refine wpListIn_append1 _ rfl _ _ 22 rfl 26 i0 (.agg #[.int .i64 0, .int .i64 0]) 2 16 Try.underlying22 hi hi0 hi1 hi2 rfl (by decide) (.slice av L.length cv) _ _ rfl (V4.out.ext ((Ext.refl _).alloc _)) ⟨w4.heap.size, 0, none⟩ 1 1 (by decide) [.int .i64 x.1, .int .i64 x.2] rfl rfl (cell_two_new _ _ _ _) ?c1 ?c2 ?c3 ?c4)
          case c1 => intro u hu; simp at hu; rcases hu with rfl | rfl <;> rfl
          case c2 => unfold maxLen; omega
          case c3 => omega
          case c4 =>
            intro v' w5 hown5 hend5
            have O5 := owns_succ hown5
            obtain ⟨av', cv', rfl, _, hbk⟩ := O5.reads
            have E4 : Ext w4 (w4.alloc (.cells #[.int .i64 x.1, .int .i64 x.2] 26)) := (Ext.refl _).alloc _
            have CA : Chg (fun k => (Value.slice av L.length cv).ownBlock = some k) (w4.alloc (.cells #[.int .i64 x.1, .int .i64 x.2] 26)) w5 := Chg.app hend5 (fun b hb => hb)
            have KA : Kept (fun k => k = atb) 0 (w4.alloc (.cells #[.int .i64 x.1, .int .i64 x.2] 26)) w5 := CA.kept (fun k hk _ e => (H.out.vb k e).2 hk)
            have d1 : w5.cell? ⟨atb, 0, none⟩ = some (.int .i64 x.1) := KA.cell (p := ⟨atb, 0, none⟩) rfl (E4.cell x1)
            have d2 : w5.cell? ⟨atb, 1, none⟩ = some (.int .i64 x.2) := KA.cell (p := ⟨atb, 1, none⟩) rfl (E4.cell x2)
            have HCA := Lib.hid CA
            have HE4 := Lib.hid E4
            have HEND := Lib.hid hend5
            have HO5 := Lib.hid O5
            clear KA CA E4 hend5 hown5 O5 hbk x1 x2
            gi_wp2
            have E7 : Ext w5 (w5.alloc (.cells #[.int .i64 x.1, .int .i64 x.2] 26)) := (Ext.refl _).alloc _
            have s0 : W0.heap.size ≤ wr.heap.size := H.out.be.size
            have s1 : wr.heap.size + 2 ≤ w4.heap.size := by omega
            have s2 : w4.heap.size + 1 ≤ w5.heap.size := by have := HCA.out.1; simp at this; omega
            have C46 : Chg (fun k => (Value.slice av L.length cv).ownBlock = some k) w4 (w5.alloc (.cells #[.int .i64 x.1, .int .i64 x.2] 26)) := ((Chg.ext HE4.out).trans HCA.out).trans (Chg.ext E7)
            have C6 : Chg (fun k => k = atb ∨ (Value.slice av L.length cv).ownBlock = some k) wr (w5.alloc (.cells #[.int .i64 x.1, .int .i64 x.2] 26)) :=
              ((Chg.ext E6).trans ⟨HE.out.c.1, fun k hk hn => HE.out.c.2 k hk (fun e => hn (.inl e))⟩).trans ⟨C46.1, fun k hk hn => C46.2 k hk (fun e => hn (.inr e))⟩
            refine ⟨⟨k, x, L ++ [x], av', cv', w5.heap.size, mark Db :: ds, _, _, _, _, _, _, _, _, _, _, _, _, _, _, _, _, _, _, _, _, _, _, _, _, _, _, _, _, _, _, _, _, _, _, _, _, _, _, _, _, _, _, _, _, _, _, _, _, _, _, _, _, _, _, _, _, _, by rw [List.length_append, List.length_singleton], ?_⟩, by simp [fuelR, sliceLen]; omega⟩
            exact {
              eq := by rw [H.out.eq, List.append_assoc, ← HX.out]; rfl
              isd := stepTo_isD HR.out HQ.out H.out.isd (HX.out ▸ HEQ.out.1) (by rw [← HX.out, HEQ.out.2, HDA.out]; omega)
              op := near_opn (HX.out ▸ HEQ.out.1)
              be := ((((H.out.be.trans (E6.mono s0)).trans (HE.out.b.mono ham)).trans (HE4.out.mono (by omega))).trans (HEND.out.below (by simp; omega) (fun b hb => (H.out.vb b hb).1))).trans (E7.mono (by omega))
              a1 := by go_simp
              a2 := by go_simp
              a3 := by go_simp
              a4 := by go_simp
              own := HO5.out.ext E7
              vb := fun b hb => by
                refine ⟨?_, fun e => by have := HO5.out.lt hb; omega⟩
                rcases HEND.out with ⟨h1, _, _⟩ | ⟨h1, _⟩
                · rw [h1] at hb; exact (H.out.vb b hb).1
                · rw [h1] at hb
                  have hb' : b = (w4.alloc (.cells #[.int .i64 x.1, .int .i64 x.2] 26)).heap.size := by cases hb; rfl
                  simp at hb'
                  omega
              am := by omega
              ms := Marks.cons (A := wr) H.out.ms (by omega) (by omega) (H.out.ms.keptX (X := fun k => ¬ (k = atb ∨ (Value.slice av L.length cv).ownBlock = some k)) (C6.kept (fun k hk _ => hk)) (fun D _ hD => by
                  rintro (e | e)
                  · have := isCells_of_cell (p := ⟨atb, _, none⟩) H.out.a1 (e ▸ hD)
                    cases this
                  · have := H.out.own.isCells e hD
                    cases this))
                ((C46.2 Db k2 (fun e => by have := hown.out Db e; omega)).trans K4.out) }
        · obtain ⟨ax, ay⟩ := a
          dsimp only at a1 a2 e1 e2
          subst e1
          gi_wp2_with fail
          refine ⟨trivial, rfl, ?_⟩
          gi_at_call 74
          refine (callsIn_wide.2 (around_any g (q.1, ay) _ _)).mono ?_
          rintro e w3 ⟨rfl, hw3⟩
          gi_wp2_with fail
          have E6 : Ext wr w3 := by rw [← hw3]; exact ((Ext.refl _).alloc _).alloc _
          have hz3 : w3.heap.size = wr.heap.size + 2 := by rw [← hw3]; simp
          have G1 : w3.cell? ⟨wr.heap.size, 0, none⟩ = some (.int .i64 g.rows) := by rw [← hw3, World.cell?_alloc2_first]; rfl
          have G2 : w3.cell? ⟨wr.heap.size, 1, none⟩ = some (.int .i64 g.cols) := by rw [← hw3, World.cell?_alloc2_first]; rfl
          have G3 : w3.cell? ⟨wr.heap.size, 2, none⟩ = some (.slice ga g.bl.length gc) := by rw [← hw3, World.cell?_alloc2_first]; rfl
          have P1 : w3.cell? ⟨wr.heap.size + 1, 0, none⟩ = some (.int .i64 ((q.1, ay)).1) := by rw [← hw3, World.cell?_alloc2_new]; rfl
          have P2 : w3.cell? ⟨wr.heap.size + 1, 1, none⟩ = some (.int .i64 ((q.1, ay)).2) := by rw [← hw3, World.cell?_alloc2_new]; rfl
          have ham := H.out.am
          refine wpIn_wide.2 (route_range _ _ rfl g (q.1, ay) (dst g q) ga gc w3 (wr.heap.size + 1) wr.heap.size ob tb atb HR.out hia.out P1 P2 G1 G2 G3 (CC.out.ext E6) (by omega) (by omega)
            (fun hne b off h => by have := HBL.out hne b off h; omega) (E6.cell oo) (TT.out.ext E6) (E6.cell a1) (E6.cell a2)
            ((Below.frozen E6 (p := ⟨atb, 0, none⟩) hatb).trans H.out.a3) ((Below.frozen E6 (p := ⟨atb, 1, none⟩) hatb).trans H.out.a4) (by rw [HDA.out]; omega) (by rw [HDA.out]; have := HLT.out; omega) EX.out _ _ _ _ _ _ _ _ _ _ _ _ _ _ _ _ _ _ _ _ _ _ _ _ _ _ _ _ _ _ _ _ _ _ _ _ _ _ _ _ _ _ _ _ _ _ _ _ _ _ _ _ _ _ _ _ _ _ _ _ _ ?_)
          intro Db w4 k1 k2 hend k4
          generalize hx : stepTo g (dst g q) (q.1, ay) = x at hend
          have HX := Lib.hid hx
          have HE := Lib.hid hend
          have x1 := hend.a1
          have x2 := hend.a2
          have K4 := Lib.hid k4
          have hz4 : w3.heap.size ≤ w4.heap.size := hend.c.1
          clear hx hend k4 P1 P2 G1 G2 G3 hw3
          have V4 : Hid (Owns w4 (.slice av L.length cv) L) := (H.out.own.ext E6).kept (X := fun k => k ≠ atb) (n := 0) (HE.out.c.kept (fun k hk _ => hk)) (fun b hb => (H.out.vb b hb).2)
          obtain ⟨i0, hi, hi0, hi1, hi2⟩ := info_parts infoPl
          have hlen : L.length ≤ 4097 := by
            have h1 : (way g p q).length = L.length + (k + 1) := by rw [H.out.eq, List.length_append, wayGo_len]
            have h2 : (way g p q).length = (dst g q p).toNat + 1 := by unfold way; simp [wayGo_len]
            have h3 := HNEG.out
            have h4 := HK2.out
            omega
          refine (wpIn_wide (n := 0)).1 ?_
          gi_wp2_with (gi_at_builtin; refine wpListIn_append1 _ rfl _ _ 22 rfl 26 i0 (.agg #[.int .i64 0, .int .i64 0]) 2 16 Try.underlying22 hi hi0 hi1 hi2 rfl (by decide) (.slice av L.length cv) _ _ rfl (V4.out.ext ((Ext.refl _).alloc _)) ⟨w4.heap.size, 0, none⟩ 1 1 (by decide) [.int .i64 x.1, .int .i64 x.2] rfl rfl (cell_two_new _ _ _ _) ?c1 ?c2 ?c3 ?c4)
          case c1 => intro u hu; simp at hu; rcases hu with rfl | rfl <;> rfl
          case c2 => unfold maxLen; omega
          case c3 => omega
          case c4 =>
            intro v' w5 hown5 hend5
            have O5 := owns_succ hown5
            obtain ⟨av', cv', rfl, _, hbk⟩ := O5.reads
            have E4 : Ext w4 (w4.alloc (.cells #[.int .i64 x.1, .int .i64 x.2] 26)) := (Ext.refl _).alloc _
            have CA : Chg (fun k => (Value.slice av L.length cv).ownBlock = some k) (w4.alloc (.cells #[.int .i64 x.1, .int .i64 x.2] 26)) w5 := Chg.app hend5 (fun b hb => hb)
            have KA : Kept (fun k => k = atb) 0 (w4.alloc (.cells #[.int .i64 x.1, .int .i64 x.2] 26)) w5 := CA.kept (fun k hk _ e => (H.out.vb k e).2 hk)
            have d1 : w5.cell? ⟨atb, 0, none⟩ = some (.int .i64 x.1) := KA.cell (p := ⟨atb, 0, none⟩) rfl (E4.cell x1)
            have d2 : w5.cell? ⟨atb, 1, none⟩ = some (.int .i64 x.2) := KA.cell (p := ⟨atb, 1, none⟩) rfl (E4.cell x2)
            have HCA := Lib.hid CA
            have HE4 := Lib.hid E4
            have HEND := Lib.hid hend5
            have HO5 := Lib.hid O5
            clear KA CA E4 hend5 hown5 O5 hbk x1 x2
            gi_wp2
            have E7 : Ext w5 (w5.alloc (.cells #[.int .i64 x.1, .int .i64 x.2] 26)) := (Ext.refl _).alloc _
            have s0 : W0.heap.size ≤ wr.heap.size := H.out.be.size
            have s1 : wr.heap.size + 2 ≤ w4.heap.size := by omega
            have s2 : w4.heap.size + 1 ≤ w5.heap.size := by have := HCA.out.1; simp at this; omega
            have C46 : Chg (fun k => (Value.slice av L.length cv).ownBlock = some k) w4 (w5.alloc (.cells #[.int .i64 x.1, .int .i64 x.2] 26)) := ((Chg.ext HE4.out).trans HCA.out).trans (Chg.ext E7)
            have C6 : Chg (fun k => k = atb ∨ (Value.slice av L.length cv).ownBlock = some k) wr (w5.alloc (.cells #[.int .i64 x.1, .int .i64 x.2] 26)) :=
              ((Chg.ext E6).trans ⟨HE.out.c.1, fun k hk hn => HE.out.c.2 k hk (fun e => hn (.inl e))⟩).trans ⟨C46.1, fun k hk hn => C46.2 k hk (fun e => hn (.inr e))⟩
            refine ⟨⟨k, x, L ++ [x], av', cv', w5.heap.size, mark Db :: ds, _, _, _, _, _, _, _, _, _, _, _, _, _, _, _, _, _, _, _, _, _, _, _, _, _, _, _, _, _, _, _, _, _, _, _, _, _, _, _, _, _, _, _, _, _, _, _, _, _, _, _, _, _, _, _, _, _, by rw [List.length_append, List.length_singleton], ?_⟩, by simp [fuelR, sliceLen]; omega⟩
            exact {
              eq := by rw [H.out.eq, List.append_assoc, ← HX.out]; rfl
              isd := stepTo_isD HR.out HQ.out H.out.isd (HX.out ▸ HEQ.out.1) (by rw [← HX.out, HEQ.out.2, HDA.out]; omega)
              op := near_opn (HX.out ▸ HEQ.out.1)
              be := ((((H.out.be.trans (E6.mono s0)).trans (HE.out.b.mono ham)).trans (HE4.out.mono (by omega))).trans (HEND.out.below (by simp; omega) (fun b hb => (H.out.vb b hb).1))).trans (E7.mono (by omega))
              a1 := by go_simp
              a2 := by go_simp
              a3 := by go_simp
              a4 := by go_simp
              own := HO5.out.ext E7
              vb := fun b hb => by
                refine ⟨?_, fun e => by have := HO5.out.lt hb; omega⟩
                rcases HEND.out with ⟨h1, _, _⟩ | ⟨h1, _⟩
                · rw [h1] at hb; exact (H.out.vb b hb).1
                · rw [h1] at hb
                  have hb' : b = (w4.alloc (.cells #[.int .i64 x.1, .int .i64 x.2] 26)).heap.size := by cases hb; rfl
                  simp at hb'
                  omega
              am := by omega
              ms := Marks.cons (A := wr) H.out.ms (by omega) (by omega) (H.out.ms.keptX (X := fun k => ¬ (k = atb ∨ (Value.slice av L.length cv).ownBlock = some k)) (C6.kept (fun k hk _ => hk)) (fun D _ hD => by
                  rintro (e | e)
                  · have := isCells_of_cell (p := ⟨atb, _, none⟩) H.out.a1 (e ▸ hD)
                    cases this
                  · have := H.out.own.isCells e hD
                    cases this))
                ((C46.2 Db k2 (fun e => by have := hown.out Db e; omega)).trans K4.out) }
  · have hneg : dst g q p < 0 := by omega
    have HD := Lib.hid hd
    clear hd
    refine wpIn_wide.2 ?_
    go_quiet (fail)
    gi_wp2
    refine leaves_marks (n := w.heap.size) (v := .tuple #[.slice none 0 0, .int .i64 6]) (fun w => (results_tmp2 (t := 6) (u := 7) rfl _ _ _).trans rfl) _ _ (Marks.nil _ _) (fun w' hw' => ?_)
    refine ⟨.slice none 0 0, ?_, ?_, ?_⟩
    · rw [if_pos hneg]
    · unfold routeL
      rw [if_pos hneg]
      exact Owns.nil _
    · exact Below.trans EW (Below.trans (((Ext.refl _).drewN _).mono EW.size) hw')
end Go.Proofs.Ytfigooilhnahfaa
/- Route. -/
namespace Go.Proofs.Ytfigooilhnahfaa
open Go.RowKit

def routeV (g : Gr) (p q : Pt) : List Pt := if givenErr g [p, q] ≠ 0 then [] else routeL g p q
def RouteAPost (g : Gr) (p q : Pt) (w : World) (e : Ending) (w' : World) : Prop :=
  ∃ v, e = .returned (.tuple #[v, .int .i64 (lenE g p q)]) ∧ Owns w' v (routeV g p q) ∧ Ext w w'

set_option maxHeartbeats 1000000 in
theorem Route_any (g : Gr) (p q : Pt) (ga : Option Addr) (gc : Nat) (w : World) (hg : g.bl.length ≤ maxLen) (hc : Cells2 w ga g.bl) :
    Calls Try.prog 29 #[.agg #[.int .i64 g.rows, .int .i64 g.cols, .slice ga g.bl.length gc], .agg #[.int .i64 p.1, .int .i64 p.2], .agg #[.int .i64 q.1, .int .i64 q.2]] w fun e w' => RouteAPost g p q w e w' := by
  have HC : Hid (Cells2 w ga g.bl) := hc
  have HG := Lib.hid hg
  clear hc hg
  have E0 : Ext w ((( (( ((w).alloc (.cells #[.int .i64 g.rows, .int .i64 g.cols, .slice ga g.bl.length gc] 33))).alloc (.cells #[.int .i64 p.1, .int .i64 p.2] 26))).alloc (.cells #[.int .i64 q.1, .int .i64 q.2] 26))) := (((Ext.refl _).alloc _).alloc _).alloc _
  have a1 : ((( (( ((w).alloc (.cells #[.int .i64 g.rows, .int .i64 g.cols, .slice ga g.bl.length gc] 33))).alloc (.cells #[.int .i64 p.1, .int .i64 p.2] 26))).alloc (.cells #[.int .i64 q.1, .int .i64 q.2] 26))).cell? ⟨w.heap.size, 0, none⟩ = some (.int .i64 g.rows) := by go_simp
  have a2 : ((( (( ((w).alloc (.cells #[.int .i64 g.rows, .int .i64 g.cols, .slice ga g.bl.length gc] 33))).alloc (.cells #[.int .i64 p.1, .int .i64 p.2] 26))).alloc (.cells #[.int .i64 q.1, .int .i64 q.2] 26))).cell? ⟨w.heap.size, 1, none⟩ = some (.int .i64 g.cols) := by go_simp
  have a3 : ((( (( ((w).alloc (.cells #[.int .i64 g.rows, .int .i64 g.cols, .slice ga g.bl.length gc] 33))).alloc (.cells #[.int .i64 p.1, .int .i64 p.2] 26))).alloc (.cells #[.int .i64 q.1, .int .i64 q.2] 26))).cell? ⟨w.heap.size, 2, none⟩ = some (.slice ga g.bl.length gc) := by go_simp
  have a4 : ((( (( ((w).alloc (.cells #[.int .i64 g.rows, .int .i64 g.cols, .slice ga g.bl.length gc] 33))).alloc (.cells #[.int .i64 p.1, .int .i64 p.2] 26))).alloc (.cells #[.int .i64 q.1, .int .i64 q.2] 26))).cell? ⟨w.heap.size + 1, 0, none⟩ = some (.int .i64 p.1) := by go_simp
  have a5 : ((( (( ((w).alloc (.cells #[.int .i64 g.rows, .int .i64 g.cols, .slice ga g.bl.length gc] 33))).alloc (.cells #[.int .i64 p.1, .int .i64 p.2] 26))).alloc (.cells #[.int .i64 q.1, .int .i64 q.2] 26))).cell? ⟨w.heap.size + 1, 1, none⟩ = some (.int .i64 p.2) := by go_simp
  have a6 : ((( (( ((w).alloc (.cells #[.int .i64 g.rows, .int .i64 g.cols, .slice ga g.bl.length gc] 33))).alloc (.cells #[.int .i64 p.1, .int .i64 p.2] 26))).alloc (.cells #[.int .i64 q.1, .int .i64 q.2] 26))).cell? ⟨w.heap.size + 1 + 1, 0, none⟩ = some (.int .i64 q.1) := by go_simp
  have a7 : ((( (( ((w).alloc (.cells #[.int .i64 g.rows, .int .i64 g.cols, .slice ga g.bl.length gc] 33))).alloc (.cells #[.int .i64 p.1, .int .i64 p.2] 26))).alloc (.cells #[.int .i64 q.1, .int .i64 q.2] 26))).cell? ⟨w.heap.size + 1 + 1, 1, none⟩ = some (.int .i64 q.2) := by go_simp
  by_cases h0 : givenErr g [p, q] = 0
  · obtain ⟨hr, ho⟩ := given_ok h0
    have HR := Lib.hid hr
    have HQ : Hid (opn g q = true) := ho q (by simp)
    have HP : Hid (opn g p = true) := ho p (by simp)
    have hv : Hid (routeV g p q = routeL g p q ∧ lenE g p q = if dst g q p < 0 then 6 else 0) := by
      show _ ∧ _
      unfold routeV lenE
      rw [h0]
      exact ⟨rfl, rfl⟩
    have H0 := Lib.hid h0
    clear hr ho h0
    go_enter Try.func29, Try.ntmps29
    go_wp2_with fail
    refine (given_any g [p, q] ga gc _ _ _ HG.out (HC.out.ext (E0.alloc _)) (by simp [maxLen]) (cells2_two (by go_simp) (by go_simp) (by go_simp) (by go_simp))).mono ?_
    rintro e w1 ⟨rfl, hE⟩
    rw [H0.out]
    have E1 : Ext ((( (( ((w).alloc (.cells #[.int .i64 g.rows, .int .i64 g.cols, .slice ga g.bl.length gc] 33))).alloc (.cells #[.int .i64 p.1, .int .i64 p.2] 26))).alloc (.cells #[.int .i64 q.1, .int .i64 q.2] 26))) w1 := ((Ext.refl _).alloc _).trans hE
    have b1 := E1.cell a1
    have b2 := E1.cell a2
    have b3 := E1.cell a3
    have b4 := E1.cell a4
    have b5 := E1.cell a5
    have b6 := E1.cell a6
    have b7 := E1.cell a7
    have E2 : Ext w w1 := E0.trans E1
    clear hE E1 E0 a1 a2 a3 a4 a5 a6 a7
    go_wp2_with fail
    refine (route_any g p q ga gc _ HR.out HP.out HQ.out (HC.out.ext E2)).mono ?_
    rintro e w2 ⟨v, rfl, hO, hE⟩
    rw [← hv.out.2]
    have HO := Lib.hid hO
    clear hO
    go_wp2
    go_ret2
    exact ⟨v, rfl, by rw [hv.out.1]; exact HO.out, E2.trans hE⟩
  · have hn : Hid (routeV g p q = [] ∧ lenE g p q = givenErr g [p, q]) := by
      show _ ∧ _
      unfold routeV lenE
      rw [if_pos h0, if_pos h0]
      exact ⟨rfl, rfl⟩
    have hb : (givenErr g [p, q] != 0) = true := by simp [h0]
    have hb2 : (givenErr g [p, q] == 0) = false := by simp [h0]
    clear h0
    go_enter Try.func29, Try.ntmps29
    go_wp2_with fail
    refine (given_any g [p, q] ga gc _ _ _ HG.out (HC.out.ext (E0.alloc _)) (by simp [maxLen]) (cells2_two (by go_simp) (by go_simp) (by go_simp) (by go_simp))).mono ?_
    rintro e w1 ⟨rfl, hE⟩
    go_wp2
    go_ret2
    refine ⟨.slice none 0 0, ?_, by rw [hn.out.1]; exact Owns.nil _, (E0.alloc _).trans hE⟩
    have h2 := hn.out.2
    rw [h2]
    rfl
end Go.Proofs.Ytfigooilhnahfaa
/- The difference of the rows and columns of two cells. -/
namespace Go.Proofs.Ytfigooilhnahfaa
open Go.RowKit

def awayI (p q : Pt) : Int := max (p.1 - q.1) (q.1 - p.1) + max (p.2 - q.2) (q.2 - p.2)

theorem away_any (p q : Pt) (w : World) (hp : InG p) (hq : InG q) :
    Calls Try.prog 81 #[.agg #[.int .i64 p.1, .int .i64 p.2], .agg #[.int .i64 q.1, .int .i64 q.2]] w fun e w' => e = .returned (.int .i64 (awayI p q)) ∧ Ext w w' := by
  obtain ⟨p1, p2, p3, p4⟩ := hp
  obtain ⟨q1, q2, q3, q4⟩ := hq
  have w1 : IntKind.i64.wrap (p.1 - q.1) = p.1 - q.1 := IntWalk.i64_in _ (by omega)
  have w2 : IntKind.i64.wrap (q.1 - p.1) = q.1 - p.1 := IntWalk.i64_in _ (by omega)
  have w3 : IntKind.i64.wrap (p.2 - q.2) = p.2 - q.2 := IntWalk.i64_in _ (by omega)
  have w4 : IntKind.i64.wrap (q.2 - p.2) = q.2 - p.2 := IntWalk.i64_in _ (by omega)
  have E0 : Ext w ((( (( w).alloc (.cells #[.int .i64 p.1, .int .i64 p.2] 26))).alloc (.cells #[.int .i64 q.1, .int .i64 q.2] 26))) := ((Ext.refl _).alloc _).alloc _
  go_enter Try.func81, Try.ntmps81
  go_wp2
  all_goals go_ret
  all_goals exact ⟨ret_int (by unfold awayI; omega), E0⟩
end Go.Proofs.Ytfigooilhnahfaa
/- Maps as sets: map[K]bool, where each entry is true. -/
namespace Go.Proofs.Ytfigooilhnahfaa
open Go.RowKit Go.Maps

/-- block b of w is a map of at most n entries, whose keys are those of S, each true -/
def SetAt {α : Type} [DecidableEq α] (P : Program) (k e : TypeId) (ev : α → Value) (w : World) (b n : Nat) (S : List α) : Prop :=
  ∃ D : DataW Unit, w.ownsMap P k (plainElem P e) b n D ∧ (∀ a kl, keyOf P k (ev a) = some kl → D.atKey kl (.lit (.bool false)) = .lit (.bool (decide (a ∈ S))) ∧ Maps.has D kl = decide (a ∈ S)) ∧ Maps.size D = S.length ∧ S.Nodup

section
variable {α : Type} [DecidableEq α] {P : Program} {t k e : TypeId} {ev : α → Value} {w : World} {b n : Nat} {S : List α}

theorem SetAt.made (P : Program) (k e : TypeId) (ev : α → Value) (w : World) : SetAt P k e ev (w.alloc (.map #[] 0)) w.heap.size 0 ([] : List α) :=
  ⟨.map [], World.ownsMap_made _ _ _ _, fun a kl _ => ⟨rfl, rfl⟩, rfl, List.nodup_nil⟩
theorem SetAt.lt (h : SetAt P k e ev w b n S) : b < w.heap.size := by
  obtain ⟨D, h1, _⟩ := h
  exact h1.lt
theorem SetAt.at (h : SetAt P k e ev w b n S) : ∃ es clock, w.heap[b]? = some (.map es clock) := by
  obtain ⟨D, ⟨es, clock, hb, _⟩, _⟩ := h
  exact ⟨es, clock, hb⟩
theorem SetAt.same {w' : World} (h : SetAt P k e ev w b n S) (hb : w'.heap[b]? = w.heap[b]?) : SetAt P k e ev w' b n S := by
  obtain ⟨D, ⟨es, clock, h1, h2⟩, h3⟩ := h
  exact ⟨D, ⟨es, clock, hb.trans h1, h2⟩, h3⟩
theorem SetAt.ext {w' : World} (h : SetAt P k e ev w b n S) (hx : Ext w w') : SetAt P k e ev w' b n S := h.same (Below.block hx _ h.lt)
theorem SetAt.lookup (h : SetAt P k e ev w b n S) (K : Keyed P k) (ht : P.underlying t = some (.map k e)) (he : P.underlying e = some .bool) (hz : (zeroValue e).run P w = .ok (.bool false) w)
    {a : α} {kl : Lit} (hkey : keyOf P k (ev a) = some kl) : (Instr.lookup t (.map (some b)) (ev a) false).run P w = .ok (.bool (decide (a ∈ S))) w := by
  obtain ⟨D, h1, h2, _⟩ := h
  obtain ⟨v, ps, hrun, hv⟩ := h1.lookup K ht hz (plainElem_bool he false) hkey
  rw [(h2 a kl hkey).1] at hv
  rw [hrun]
  have : v = .bool (decide (a ∈ S)) := by
    unfold plainElem at hv
    rw [he] at hv
    cases v <;> simp at hv
    rename_i x
    rw [hv.1]
  rw [this]
theorem SetAt.update (h : SetAt P k e ev w b n S) (K : Keyed P k) (ht : P.underlying t = some (.map k e)) (he : P.underlying e = some .bool) (hn : n < maxLen) (hinj : ∀ x y, ev x = ev y → x = y)
    {a : α} {kl : Lit} (hkey : keyOf P k (ev a) = some kl) : ∃ w', (Instr.mapUpdate t (.map (some b)) (ev a) (.bool true)).run P w = .ok () w' ∧ SetAt P k e ev w' b (n + 1) (if a ∈ S then S else a :: S) ∧ w.grownBy w' (some b) := by
  obtain ⟨D, h1, h2, h3, h4⟩ := h
  obtain ⟨w', hrun, r1, r2⟩ := h1.update K ht hn hkey (plainElem_bool he true)
  have hT := h1.tidy K
  refine ⟨w', hrun, ⟨_, r1, fun a' kl' hk' => ?_, ?_, ?_⟩, r2⟩
  · by_cases e1 : a' = a
    · subst e1
      rw [hkey] at hk'
      cases hk'
      have hm : a' ∈ (if a' ∈ S then S else a' :: S) := by
        split
        · assumption
        · exact List.mem_cons_self ..
      rw [atKey_put_same hT.isMap (K.key hkey), has_put_same hT.isMap (K.key hkey)]
      simp [hm]
    · have hne : kl' ≠ kl := fun e2 => e1 (hinj _ _ (K.inj hk' (e2 ▸ hkey)))
      have hm : decide (a' ∈ (if a ∈ S then S else a :: S)) = decide (a' ∈ S) := by
        by_cases e2 : a ∈ S
        · rw [if_pos e2]
        · rw [if_neg e2]; simp [e1]
      rw [atKey_put_other hne, has_put_other hne, hm]
      exact h2 a' kl' hk'
  · rw [size_put hT, (h2 a kl hkey).2]
    by_cases e2 : a ∈ S
    · simp [e2, h3]
    · simp [e2, h3]
  · by_cases e2 : a ∈ S
    · rw [if_pos e2]; exact h4
    · rw [if_neg e2]; exact List.nodup_cons.2 ⟨e2, h4⟩
end

/-! ### The two keys of this program -/
theorem laidOut : laidOutB Try.prog = true := by kernel_rfl
theorem rowPl : (26 : TypeId) < Try.prog.types.size := of_decide_eq_true (by kernel_rfl)
theorem rowPr : (74 : TypeId) < Try.prog.types.size := of_decide_eq_true (by kernel_rfl)
theorem lawPl : Keyed Try.prog 26 := Keyed.of_law (deep_law_laid laidOut (m := 3) (by omega) rowPl (by kernel_rfl) (by rw [Try.underlying26]))
theorem lawPr : Keyed Try.prog 74 := Keyed.of_law (deep_law_laid laidOut (m := 4) (by omega) rowPr (by kernel_rfl) (by rw [Try.underlying74]))
def evPl (p : Pt) : Value := .agg #[.int .i64 p.1, .int .i64 p.2]
def evPr (p : Pt × Pt) : Value := .agg #[.int .i64 p.1.1, .int .i64 p.1.2, .int .i64 p.2.1, .int .i64 p.2.2]
theorem evPl_inj (x y : Pt) (h : evPl x = evPl y) : x = y := by
  unfold evPl at h
  simp at h
  exact Prod.ext h.1 h.2
theorem evPr_inj (x y : Pt × Pt) (h : evPr x = evPr y) : x = y := by
  unfold evPr at h
  simp at h
  obtain ⟨h1, h2, h3, h4⟩ := h
  exact Prod.ext (Prod.ext h1 h2) (Prod.ext h3 h4)
def Wf64 (a : Int) : Prop := (Lit.int .i64 a).wf = true
theorem cellsPl : Try.prog.cellsOf 26 = 2 := by kernel_rfl
theorem cellsInt : Try.prog.cellsOf 3 = 1 := by kernel_rfl
theorem cellsPr : Try.prog.cellsOf 74 = 4 := by kernel_rfl
theorem typesSz : ∃ m, Try.prog.types.size + 1 = m + 3 := ⟨Try.prog.types.size - 2, by
  have : 3 ≤ Try.prog.types.size := of_decide_eq_true (by kernel_rfl)
  omega⟩
theorem litsPl {p : Pt} (h1 : Wf64 p.1) (h2 : Wf64 p.2) (m : Nat) : Try.prog.keyLits (m + 2) 26 [.int .i64 p.1, .int .i64 p.2] = some [.int .i64 p.1, .int .i64 p.2] := by
  unfold Wf64 at h1 h2
  unfold Program.keyLits
  rw [Try.underlying26]
  simp [cellsPl, cellsInt, Program.keyLits, Try.underlying3, h1, h2]
theorem keyPl {p : Pt} (h1 : Wf64 p.1) (h2 : Wf64 p.2) : ∃ kl, keyOf Try.prog 26 (evPl p) = some kl := by
  obtain ⟨m, hm⟩ := typesSz
  have hk : Try.prog.keyType 26 = true := by kernel_rfl
  have hf : (evPl p).formed Try.prog 26 = true := by simp [evPl, Value.formed, Try.underlying26, cellsPl]
  have hl := litsPl h1 h2 (m + 1)
  unfold keyOf
  rw [Try.underlying26]
  simp only [hk, hf, hm]
  simp [evPl, Value.cells, hl]
theorem keyPr {p : Pt × Pt} (h1 : Wf64 p.1.1) (h2 : Wf64 p.1.2) (h3 : Wf64 p.2.1) (h4 : Wf64 p.2.2) : ∃ kl, keyOf Try.prog 74 (evPr p) = some kl := by
  obtain ⟨m, hm⟩ := typesSz
  have hk : Try.prog.keyType 74 = true := by kernel_rfl
  have hf : (evPr p).formed Try.prog 74 = true := by simp [evPr, Value.formed, Try.underlying74, cellsPr]
  have l1 := litsPl (p := p.1) h1 h2 m
  have l2 := litsPl (p := p.2) h3 h4 m
  have hl : Try.prog.keyLits (m + 3) 74 [.int .i64 p.1.1, .int .i64 p.1.2, .int .i64 p.2.1, .int .i64 p.2.2] = some [.int .i64 p.1.1, .int .i64 p.1.2, .int .i64 p.2.1, .int .i64 p.2.2] := by
    unfold Program.keyLits
    rw [Try.underlying74]
    simp [cellsPr, cellsPl, List.range_succ, l1, l2]
  unfold keyOf
  rw [Try.underlying74]
  simp only [hk, hf, hm]
  simp [evPr, Value.cells, hl]
theorem wf_inG {p : Pt} (h : InG p) : Wf64 p.1 ∧ Wf64 p.2 := by
  obtain ⟨h1, h2, h3, h4⟩ := h
  exact ⟨WalkArith.wf_i64 (by omega), WalkArith.wf_i64 (by omega)⟩
end Go.Proofs.Ytfigooilhnahfaa
/- Whether cells are a route. -/
namespace Go.Proofs.Ytfigooilhnahfaa
open Go.RowKit Go.Maps

/-- from the k-th cell on -/
def jFrom (l : List Pt) : Nat → Nat → Bool
  | 0, _ => true
  | n + 1, k => if pt l k ∈ l.take k then false else if k ≠ 0 ∧ awayI (pt l (k - 1)) (pt l k) ≠ 1 then false else jFrom l n (k + 1)
def joinedB (l : List Pt) : Bool := jFrom l l.length 0

theorem setStep {l : List Pt} {k : Nat} (hk : k < l.length) {S : List Pt} (h : ∀ x, x ∈ S ↔ x ∈ l.take k) : ∀ x, x ∈ (if pt l k ∈ S then S else pt l k :: S) ↔ x ∈ l.take (k + 1) := by
  intro x
  have e : l.take (k + 1) = l.take k ++ [pt l k] := by
    rw [List.take_succ_eq_append_getElem hk]
    congr 2
    unfold pt
    rw [List.getD_eq_getElem?_getD, List.getElem?_eq_getElem hk]; simp
  rw [e, List.mem_append, ← h x]
  by_cases hm : pt l k ∈ S
  · rw [if_pos hm]
    constructor
    · exact .inl
    · rintro (h1 | h1)
      · exact h1
      · simp at h1; subst h1; exact hm
  · rw [if_neg hm, List.mem_cons]
    constructor
    · rintro (h1 | h1)
      · exact .inr (by simp [h1])
      · exact .inl h1
    · rintro (h1 | h1)
      · exact .inr h1
      · simp at h1; exact .inl h1

set_option maxHeartbeats 2000000 in
set_option maxRecDepth 100000 in
theorem joined_any (l : List Pt) (a : Option Addr) (cap : Nat) (w : World) (hl : l.length ≤ 4096) (hin : ∀ i, i < l.length → InG (pt l i)) (hcl : Cells2 w a l) :
    Calls Try.prog 68 #[.slice a l.length cap] w fun e w' => e = .returned (.bool (joinedB l)) ∧ Ext w w' := by
  have HL : Hid (Cells2 w a l) := hcl
  have HIN := Lib.hid hin
  have hmm := @run_makeMap Try.prog
  clear hcl hin
  go_enter Try.func68, Try.ntmps68
  go_wp2
  have H : Ext w (w.alloc (.map #[] 0)) := (Ext.refl _).alloc _
  have M0 : Hid (SetAt Try.prog 26 4 evPl (w.alloc (.map #[] 0)) w.heap.size 0 ([] : List Pt)) := SetAt.made _ _ _ _ _
  clear hmm
  go_loopw [9] (fun i wr => ∃ k : Nat, k ≤ l.length ∧ i = .int .i64 k ∧ Hid (joinedB l = jFrom l (l.length - k) k) ∧ Ext w wr ∧ Hid (∃ S, SetAt Try.prog 26 4 evPl wr w.heap.size k S ∧ ∀ x, x ∈ S ↔ x ∈ l.take k)) (fun i _ => l.length - (intOf i).toNat)
  case atStart => exact ⟨0, Nat.zero_le _, rfl, by show _ = _; rw [Nat.sub_zero]; rfl, H, ⟨[], M0.out, fun x => by simp⟩⟩
  case round =>
    obtain ⟨k, hk, rfl, hn, he, hs⟩ := hrel
    by_cases hlt : k < l.length
    · obtain ⟨b, off, ha, e1, e2⟩ := HL.out.ext he k hlt
      subst ha
      obtain ⟨S, hS1, hS2⟩ := hs.out
      have z3 := cell_lt e1
      dsimp only at z3
      by_cases hmem : pt l k ∈ l.take k
      · go_wp2
        have E4 : Ext wr ((( wr).alloc (.cells #[.int .i64 (pt l k).1, .int .i64 (pt l k).2] 26))) := (Ext.refl _).alloc _
        have c1 : ((( wr).alloc (.cells #[.int .i64 (pt l k).1, .int .i64 (pt l k).2] 26))).cell? ⟨wr.heap.size, 0, none⟩ = some (.int .i64 (pt l k).1) := by go_simp
        have c2 : ((( wr).alloc (.cells #[.int .i64 (pt l k).1, .int .i64 (pt l k).2] 26))).cell? ⟨wr.heap.size, 1, none⟩ = some (.int .i64 (pt l k).2) := by go_simp
        have e3 := E4.cell e1
        have e4 := E4.cell e2
        have S4 := hS1.ext E4
        obtain ⟨kl, hkl⟩ := keyPl (wf_inG (HIN.out k hlt)).1 (wf_inG (HIN.out k hlt)).2
        have hlook : ∀ n, (Instr.lookup 98 (.map (some w.heap.size)) (.agg #[.int .i64 ((pt l k)).1, .int .i64 ((pt l k)).2]) false).run Try.prog (((( wr).alloc (.cells #[.int .i64 (pt l k).1, .int .i64 (pt l k).2] 26))).drewN n) = .ok (.bool true) (((( wr).alloc (.cells #[.int .i64 (pt l k).1, .int .i64 (pt l k).2] 26))).drewN n) := fun n => by
          have := (S4.ext ((Ext.refl _).drewN n)).lookup lawPl Try.underlying98 Try.underlying4 (by kernel_rfl) hkl
          have hm : pt l k ∈ S := (hS2 _).2 hmem
          simp only [hm, decide_true] at this
          exact this
        have HE4 := Lib.hid (he.trans E4)
        have HM := Lib.hid hmem
        clear hmem S4 hS1 hS2 hkl hs e1 e2
        generalize ((( wr).alloc (.cells #[.int .i64 (pt l k).1, .int .i64 (pt l k).2] 26))) = W at hlook c1 c2 e3 e4 E4 HE4 ⊢
        go_quiet (fail)
        go_wp2
        go_ret
        refine ⟨ret_bool ?_, HE4.out.drewN _⟩
        rw [hn.out, show l.length - k = (l.length - (k + 1)) + 1 from by omega]
        unfold jFrom
        rw [if_pos HM.out]
      · have E4 : Ext wr ((( wr).alloc (.cells #[.int .i64 (pt l k).1, .int .i64 (pt l k).2] 26))) := (Ext.refl _).alloc _
        have c1 : ((( wr).alloc (.cells #[.int .i64 (pt l k).1, .int .i64 (pt l k).2] 26))).cell? ⟨wr.heap.size, 0, none⟩ = some (.int .i64 (pt l k).1) := by go_simp
        have c2 : ((( wr).alloc (.cells #[.int .i64 (pt l k).1, .int .i64 (pt l k).2] 26))).cell? ⟨wr.heap.size, 1, none⟩ = some (.int .i64 (pt l k).2) := by go_simp
        have e3 := E4.cell e1
        have e4 := E4.cell e2
        have S4 := hS1.ext E4
        obtain ⟨kl, hkl⟩ := keyPl (wf_inG (HIN.out k hlt)).1 (wf_inG (HIN.out k hlt)).2
        have hlook0 : ∀ w', Ext ((( wr).alloc (.cells #[.int .i64 (pt l k).1, .int .i64 (pt l k).2] 26))) w' → (Instr.lookup 98 (.map (some w.heap.size)) (.agg #[.int .i64 ((pt l k)).1, .int .i64 ((pt l k)).2]) false).run Try.prog w' = .ok (.bool false) w' := fun w' hw' => by
          have := (S4.ext hw').lookup lawPl Try.underlying98 Try.underlying4 (by kernel_rfl) hkl
          have hm : ¬ pt l k ∈ S := fun h => hmem ((hS2 _).1 h)
          simp only [hm, decide_false] at this
          exact this
        have HLK := Lib.hid hlook0
        have HE4 := Lib.hid (he.trans E4)
        have HM := Lib.hid hmem
        have HS4 := Lib.hid S4
        have HS2 := Lib.hid hS2
        have HKL := Lib.hid hkl
        clear hmem S4 hS1 hS2 hkl hs hlook0
        by_cases hk0 : k = 0
        · have hd : decide (0 < k) = false := by simp; omega
          have HK0 := Lib.hid hk0
          clear hk0
          go_wp2_with fail
          generalize ((( wr).alloc (.cells #[.int .i64 (pt l k).1, .int .i64 (pt l k).2] 26))) = W at HLK c1 c2 e3 e4 E4 HE4 HS4 ⊢
          have hlook : ∀ n, (Instr.lookup 98 (.map (some w.heap.size)) (.agg #[.int .i64 ((pt l k)).1, .int .i64 ((pt l k)).2]) false).run Try.prog (W.drewN n) = .ok (.bool false) (W.drewN n) := fun n => HLK.out _ ((Ext.refl _).drewN n)
          go_quiet (fail)
          clear hlook
          have EN : Ext W (W.drewN nq) := (Ext.refl _).drewN _
          have c1 := EN.cell c1
          have c2 := EN.cell c2
          have S5 := Lib.hid (HS4.out.ext EN)
          have HE5 := Lib.hid (HE4.out.trans EN)
          generalize W.drewN nq = W5 at EN c1 c2 S5 HE5 ⊢
          obtain ⟨S5a, hS5, hS5b⟩ := (show ∃ S, SetAt Try.prog 26 4 evPl W5 w.heap.size k S ∧ ∀ x, x ∈ S ↔ x ∈ l.take k from ⟨_, S5.out, HS2.out⟩)
          obtain ⟨w6, hup, hS6, hg6⟩ := hS5.update (t := 98) lawPl Try.underlying98 Try.underlying4 (by unfold maxLen; omega) evPl_inj HKL.out
          have HS6 : Hid (∃ S, SetAt Try.prog 26 4 evPl w6 w.heap.size (k + 1) S ∧ ∀ x, x ∈ S ↔ x ∈ l.take (k + 1)) := ⟨_, hS6, fun x => by have h0 := setStep hlt hS5b x; split at h0 <;> split <;> first | exact h0 | contradiction⟩
          have HG6 := Lib.hid hg6
          unfold evPl at hup
          clear hS5 hS5b hS6 hg6
          go_wp2
          refine ⟨⟨k + 1, by omega, by go_num, ?_, HE5.out.grown HG6.out HE5.out.size (fun j hj => by cases hj; exact Nat.le_refl _), HS6⟩, by simp [intOf]; omega⟩
          show _ = _
          rw [hn.out, show l.length - k = (l.length - (k + 1)) + 1 from by omega]
          conv => lhs; unfold jFrom
          rw [if_neg HM.out, if_neg (fun h => h.1 HK0.out)]
        · have hd : decide (0 < k) = true := by simp; omega
          obtain ⟨b', off', ha', f1, f2⟩ := HL.out.ext (he.trans E4) (k - 1) (by omega)
          cases ha'
          have hk1 : 0 < k := by omega
          have q1 : ((k : Int) - 1).toNat = k - 1 := by omega
          have q2 : (1 : Int) ≤ (k : Int) := by omega
          have q3 : 1 ≤ k := by omega
          have q4 : (k : Int) - 1 < (l.length : Int) := by omega
          have q5 : 0 ≤ (k : Int) - 1 := by omega
          have q6 : IntKind.i64.wrap ((k : Int) - 1) = (k : Int) - 1 := IntWalk.i64_in _ (by omega)
          have i1 := Lib.hid (HIN.out (k - 1) (by omega))
          have i2 := Lib.hid (HIN.out k hlt)
          have HK0 := Lib.hid hk0
          clear hk0
          go_wp2_with fail
          have zW : wr.heap.size < ((( wr).alloc (.cells #[.int .i64 (pt l k).1, .int .i64 (pt l k).2] 26))).heap.size := by simp
          generalize ((( wr).alloc (.cells #[.int .i64 (pt l k).1, .int .i64 (pt l k).2] 26))) = W at HLK c1 c2 e3 e4 E4 HE4 HS4 f1 f2 zW ⊢
          have zb := cell_lt f1
          dsimp only at zb
          have hlook : (Instr.lookup 98 (.map (some w.heap.size)) (.agg #[.int .i64 ((pt l k)).1, .int .i64 ((pt l k)).2]) false).run Try.prog W.drew = .ok (.bool false) W.drew := HLK.out _ (Ext.refl _).drew
          by_cases hdist : awayI (pt l (k - 1)) (pt l k) = 1
          · have HD := Lib.hid hdist
            go_region_held3 (fun w' => Sees W w') ((repeat (first | exact Sees.refl _ | assumption | apply Sees.drew | apply Sees.alloc | (refine Sees.ext ?_ (by assumption))))) (first | (go_at_call 81; refine (away_any (pt l (k - 1)) (pt l k) _ i1.out i2.out).mono ?_; rintro e w' ⟨rfl, hE2⟩))
            have hSS := (show Sees W _ by assumption).2.2
            have c1 := hSS.cell c1
            have c2 := hSS.cell c2
            have S5 := Lib.hid (HS4.out.ext hSS)
            have HE5 := Lib.hid (HE4.out.trans hSS)
            clear hlook
            clear e3 e4 f1 f2 hSS
            generalize w' = W5 at c1 c2 S5 HE5 ⊢
            obtain ⟨S5a, hS5, hS5b⟩ := (show ∃ S, SetAt Try.prog 26 4 evPl W5 w.heap.size k S ∧ ∀ x, x ∈ S ↔ x ∈ l.take k from ⟨_, S5.out, HS2.out⟩)
            obtain ⟨w6, hup, hS6, hg6⟩ := hS5.update (t := 98) lawPl Try.underlying98 Try.underlying4 (by unfold maxLen; omega) evPl_inj HKL.out
            have HS6 : Hid (∃ S, SetAt Try.prog 26 4 evPl w6 w.heap.size (k + 1) S ∧ ∀ x, x ∈ S ↔ x ∈ l.take (k + 1)) := ⟨_, hS6, fun x => by have h0 := setStep hlt hS5b x; split at h0 <;> split <;> first | exact h0 | contradiction⟩
            have HG6 := Lib.hid hg6
            unfold evPl at hup
            clear hS5 hS5b hS6 hg6
            go_wp2
            refine ⟨⟨k + 1, by omega, by go_num, ?_, HE5.out.grown HG6.out HE5.out.size (fun j hj => by cases hj; exact Nat.le_refl _), HS6⟩, by simp [intOf]; omega⟩
            show _ = _
            rw [hn.out, show l.length - k = (l.length - (k + 1)) + 1 from by omega]
            conv => lhs; unfold jFrom
            rw [if_neg HM.out, if_neg (fun h => h.2 HD.out)]
          · have hd1 : (awayI (pt l (k - 1)) (pt l k) == 1) = false := by simpa using hdist
            have HD := Lib.hid hdist
            clear hdist
            go_region_held3 (fun w' => Sees W w') ((repeat (first | exact Sees.refl _ | assumption | apply Sees.drew | apply Sees.alloc | (refine Sees.ext ?_ (by assumption))))) (first | (go_at_call 81; refine (away_any (pt l (k - 1)) (pt l k) _ i1.out i2.out).mono ?_; rintro e w' ⟨rfl, hE2⟩))
            have hSS := (show Sees W _ by assumption).2.2
            go_wp2
            go_ret
            refine ⟨ret_bool ?_, HE4.out.trans hSS⟩
            rw [hn.out, show l.length - k = (l.length - (k + 1)) + 1 from by omega]
            unfold jFrom
            rw [if_neg HM.out, if_pos ⟨HK0.out, HD.out⟩]
    · go_wp2
      go_ret
      exact ⟨ret_bool (by rw [hn.out, show l.length - k = 0 from by omega]; rfl), he⟩
end Go.Proofs.Ytfigooilhnahfaa
/- Verify. -/
namespace Go.Proofs.Ytfigooilhnahfaa
open Go.RowKit Go.Maps

theorem listed_ok {g : Gr} {l : List Pt} (h : listedErr g l = 0) : Right g ∧ l ≠ [] ∧ l.length ≤ 4096 ∧ ∀ p ∈ l, opn g p = true := by
  unfold listedErr at h
  split at h
  · rename_i h1; exact absurd h h1
  · rename_i h1
    split at h
    · omega
    · rename_i h2
      split at h
      · omega
      · rename_i h3
        exact ⟨right_of_chk (by simpa using h1), h2, by omega, cells_ok h⟩
theorem pt_mem {l : List Pt} {i : Nat} (h : i < l.length) : pt l i ∈ l := by
  unfold pt; rw [List.getD_eq_getElem?_getD, List.getElem?_eq_getElem h]; simp
def verV (g : Gr) (l : List Pt) : Bool := if listedErr g l ≠ 0 then false else joinedB l && decide (dst g (pt l (l.length - 1)) (pt l 0) = (l.length : Int) - 1)

set_option maxHeartbeats 1000000 in
set_option maxRecDepth 100000 in
theorem Verify_any (g : Gr) (l : List Pt) (ga : Option Addr) (gc : Nat) (a : Option Addr) (cap : Nat) (w : World) (hg : g.bl.length ≤ maxLen) (hc : Cells2 w ga g.bl) (hl : l.length ≤ maxLen) (hcl : Cells2 w a l) :
    Calls Try.prog 32 #[.agg #[.int .i64 g.rows, .int .i64 g.cols, .slice ga g.bl.length gc], .slice a l.length cap] w fun e w' => e = .returned (.tuple #[.bool (verV g l), .int .i64 (listedErr g l)]) ∧ Ext w w' := by
  have HC : Hid (Cells2 w ga g.bl) := hc
  have HL : Hid (Cells2 w a l) := hcl
  have HG := Lib.hid hg
  have HM := Lib.hid hl
  clear hc hcl hg hl
  have E0 : Ext w (((w).alloc (.cells #[.int .i64 g.rows, .int .i64 g.cols, .slice ga g.bl.length gc] 33))) := (Ext.refl _).alloc _
  have a1 : (((w).alloc (.cells #[.int .i64 g.rows, .int .i64 g.cols, .slice ga g.bl.length gc] 33))).cell? ⟨w.heap.size, 0, none⟩ = some (.int .i64 g.rows) := by go_simp
  have a2 : (((w).alloc (.cells #[.int .i64 g.rows, .int .i64 g.cols, .slice ga g.bl.length gc] 33))).cell? ⟨w.heap.size, 1, none⟩ = some (.int .i64 g.cols) := by go_simp
  have a3 : (((w).alloc (.cells #[.int .i64 g.rows, .int .i64 g.cols, .slice ga g.bl.length gc] 33))).cell? ⟨w.heap.size, 2, none⟩ = some (.slice ga g.bl.length gc) := by go_simp
  by_cases h0 : listedErr g l = 0
  · obtain ⟨hr, hne, hlen, ho⟩ := listed_ok h0
    have HR := Lib.hid hr
    have HIN : Hid (∀ i, i < l.length → inside g (pt l i) = true) := fun i hi => opn_inside (ho _ (pt_mem hi))
    have hpos : 0 < l.length := List.length_pos_iff.2 hne
    have hv : Hid (verV g l = (joinedB l && decide (dst g (pt l (l.length - 1)) (pt l 0) = (l.length : Int) - 1))) := by
      show _ = _
      unfold verV
      rw [if_neg (by simp [h0])]
    have H0 := Lib.hid h0
    have HLEN := Lib.hid hlen
    clear hr ho h0 hne
    rw [H0.out]
    go_enter Try.func32, Try.ntmps32
    go_wp2_with fail
    refine (listed_any g l ga gc a cap _ HG.out (HC.out.ext E0) HM.out (HL.out.ext E0)).mono ?_
    rintro e w1 ⟨rfl, hE⟩
    rw [H0.out]
    have b1 := hE.cell a1
    have b2 := hE.cell a2
    have b3 := hE.cell a3
    have E1 : Ext w w1 := E0.trans hE
    clear hE E0 a1 a2 a3
    go_wp2_with fail
    refine (joined_any l a cap _ HLEN.out (fun i hi => inG_of HR.out (HIN.out i hi)) (HL.out.ext E1)).mono ?_
    rintro e w2 ⟨rfl, hE⟩
    have d1 := hE.cell b1
    have d2 := hE.cell b2
    have d3 := hE.cell b3
    have E2 : Ext w w2 := E1.trans hE
    clear hE E1 b1 b2 b3
    cases hj : joinedB l
    · have HJ := Lib.hid hj
      clear hj
      go_wp2
      go_ret2
      refine ⟨?_, E2⟩
      rw [hv.out, HJ.out]
      rfl
    · have HJ := Lib.hid hj
      clear hj
      obtain ⟨b, off, ha, e1, e2⟩ := HL.out.ext E2 0 hpos
      obtain ⟨b', off', ha', f1, f2⟩ := HL.out.ext E2 (l.length - 1) (by omega)
      subst ha
      cases ha'
      simp only [Nat.zero_mul, Nat.add_zero] at e1 e2
      have q0 : IntKind.i64.wrap ((l.length : Int) - 1) = (l.length : Int) - 1 := IntWalk.i64_in _ (by have := HLEN.out; omega)
      have q1 : ((l.length : Int) - 1).toNat = l.length - 1 := by omega
      have q2 : 0 ≤ (l.length : Int) - 1 := by omega
      have q3 : (1 : Int) ≤ (l.length : Int) := by omega
      have q4 : 1 ≤ l.length := by omega
      have q5 : (0 : Int) < (l.length : Int) := by omega
      go_wp2_with fail
      have zb := cell_lt f1
      dsimp only at zb
      have HLAST : Hid (inside g (pt l (l.length - 1)) = true) := HIN.out _ (by omega)
      obtain ⟨r1, r2, r3, r4⟩ := inG_of HR.out (HIN.out 0 hpos)
      go_region
      · have E3 : Ext w2 (((w2.alloc (.cells #[.int .i64 (pt l 0).1, .int .i64 (pt l 0).2] 26)).alloc (.cells #[.int .i64 (pt l (l.length - 1)).1, .int .i64 (pt l (l.length - 1)).2] 26)).drew) := (((Ext.refl _).alloc _).alloc _).drew
        have g1 := E3.cell d1
        have g2 := E3.cell d2
        have g3 := E3.cell d3
        have p1 : (((w2.alloc (.cells #[.int .i64 (pt l 0).1, .int .i64 (pt l 0).2] 26)).alloc (.cells #[.int .i64 (pt l (l.length - 1)).1, .int .i64 (pt l (l.length - 1)).2] 26)).drew).cell? ⟨w2.heap.size, 0, none⟩ = some (.int .i64 (pt l 0).1) := by go_simp
        have p2 : (((w2.alloc (.cells #[.int .i64 (pt l 0).1, .int .i64 (pt l 0).2] 26)).alloc (.cells #[.int .i64 (pt l (l.length - 1)).1, .int .i64 (pt l (l.length - 1)).2] 26)).drew).cell? ⟨w2.heap.size, 1, none⟩ = some (.int .i64 (pt l 0).2) := by go_simp
        have p3 : (((w2.alloc (.cells #[.int .i64 (pt l 0).1, .int .i64 (pt l 0).2] 26)).alloc (.cells #[.int .i64 (pt l (l.length - 1)).1, .int .i64 (pt l (l.length - 1)).2] 26)).drew).cell? ⟨w2.heap.size + 1, 0, none⟩ = some (.int .i64 (pt l (l.length - 1)).1) := by go_simp
        have p4 : (((w2.alloc (.cells #[.int .i64 (pt l 0).1, .int .i64 (pt l 0).2] 26)).alloc (.cells #[.int .i64 (pt l (l.length - 1)).1, .int .i64 (pt l (l.length - 1)).2] 26)).drew).cell? ⟨w2.heap.size + 1, 1, none⟩ = some (.int .i64 (pt l (l.length - 1)).2) := by go_simp
        have E4 := E2.trans E3
        clear d1 d2 d3 E3 E2 e1 e2 f1 f2
        generalize (((w2.alloc (.cells #[.int .i64 (pt l 0).1, .int .i64 (pt l 0).2] 26)).alloc (.cells #[.int .i64 (pt l (l.length - 1)).1, .int .i64 (pt l (l.length - 1)).2] 26)).drew) = W at g1 g2 g3 p1 p2 p3 p4 E4 ⊢
        have z1 := cell_lt g1
        have z2 := cell_lt p1
        have z3 := cell_lt p3
        dsimp only at z1 z2 z3
        go_wp2_with fail
        refine wp_region_held_drew (S := fun w' => Sees W w') (by kernel_rfl) (by repeat (first | exact Sees.refl _ | assumption | apply Sees.drew)) (fun hHeld => ?_)
        ((refine wpAnyH_take (i := 0) (oi := ?_) (v := ?_) ?_ (by kernel_rfl) (by kernel_rfl) (by kernel_rfl) ?_ ?_ (by assumption) ?_; rotate_left 2; (focus ((simp only [List.getElem?_toArray, List.getElem?_cons_zero]; exact rfl))); (focus (exact fun _ _ _ h => h)); (focus (refine Or.inl ⟨by rfl, ?_⟩; intro w hSw; (try dsimp only at hSw); (first | (go_simp; done) | (go_simp; with_reducible rfl)))); (try simp only [Act.put, List.setIfInBounds_toArray, List.set_cons_zero, List.set_cons_succ])); (refine wpAnyH_take (i := 1) (oi := ?_) (v := ?_) ?_ (by kernel_rfl) (by kernel_rfl) (by kernel_rfl) ?_ ?_ (by assumption) ?_; rotate_left 2; (focus ((simp only [List.getElem?_toArray, List.getElem?_cons_succ, List.getElem?_cons_zero]; exact rfl))); (focus (exact fun _ _ _ h => h)); (focus (refine Or.inl ⟨by rfl, ?_⟩; intro w hSw; (try dsimp only at hSw); (first | (go_simp; done) | (go_simp; with_reducible rfl)))); (try simp only [Act.put, List.setIfInBounds_toArray, List.set_cons_zero, List.set_cons_succ])); (refine wpAnyH_take (i := 3) (oi := ?_) (v := ?_) ?_ (by kernel_rfl) (by kernel_rfl) (by kernel_rfl) ?_ ?_ (by assumption) ?_; rotate_left 2; (focus ((simp only [List.getElem?_toArray, List.getElem?_cons_succ, List.getElem?_cons_zero]; exact rfl))); (focus (exact fun _ _ _ h => h)); (focus (refine Or.inl ⟨by rfl, ?_⟩; intro w hSw; (try dsimp only at hSw); (first | (go_simp; done) | (go_simp; with_reducible rfl)))); (try simp only [Act.put, List.setIfInBounds_toArray, List.set_cons_zero, List.set_cons_succ])); (refine wpAnyH_take (i := 4) (oi := ?_) (v := ?_) ?_ (by kernel_rfl) (by kernel_rfl) (by kernel_rfl) ?_ ?_ (by assumption) ?_; rotate_left 2; (focus ((simp only [List.getElem?_toArray, List.getElem?_cons_succ, List.getElem?_cons_zero]; exact rfl))); (focus (exact fun _ _ _ h => h)); (focus (refine Or.inl ⟨by rfl, ?_⟩; intro w hSw; (try dsimp only at hSw); (first | (go_simp; done) | (go_simp; with_reducible rfl)))); (try simp only [Act.put, List.setIfInBounds_toArray, List.set_cons_zero, List.set_cons_succ])); (refine wpAnyH_take (i := 5) (oi := ?_) (v := ?_) ?_ (by kernel_rfl) (by kernel_rfl) (by kernel_rfl) ?_ ?_ (by assumption) ?_; rotate_left 2; (focus ((simp only [List.getElem?_toArray, List.getElem?_cons_succ, List.getElem?_cons_zero]; exact rfl))); (focus (exact fun _ _ _ h => h)); (focus (refine Or.inl ⟨by rfl, ?_⟩; intro w hSw; (try dsimp only at hSw); (first | (go_simp; done) | (go_simp; with_reducible rfl)))); (try simp only [Act.put, List.setIfInBounds_toArray, List.set_cons_zero, List.set_cons_succ])); (refine wpAnyH_take (i := 6) (oi := ?_) (v := ?_) ?_ (by kernel_rfl) (by kernel_rfl) (by kernel_rfl) ?_ ?_ (by assumption) ?_; rotate_left 2; (focus ((simp only [List.getElem?_toArray, List.getElem?_cons_succ, List.getElem?_cons_zero]; exact rfl))); (focus (exact fun _ _ _ h => h)); (focus (refine Or.inl ⟨by rfl, ?_⟩; intro w hSw; (try dsimp only at hSw); (first | (go_simp; done) | (go_simp; with_reducible rfl)))); (try simp only [Act.put, List.setIfInBounds_toArray, List.set_cons_zero, List.set_cons_succ])); (refine wpAnyH_take (i := 11) (oi := ?_) (v := ?_) ?_ (by kernel_rfl) (by kernel_rfl) (by kernel_rfl) ?_ ?_ (by assumption) ?_; rotate_left 2; (focus ((simp only [List.getElem?_toArray, List.getElem?_cons_succ, List.getElem?_cons_zero]; exact rfl))); (focus (exact fun _ _ _ h => h)); (focus (refine Or.inl ⟨by rfl, ?_⟩; intro w hSw; (try dsimp only at hSw); (first | (go_simp; done) | (go_simp; with_reducible rfl)))); (try simp only [Act.put, List.setIfInBounds_toArray, List.set_cons_zero, List.set_cons_succ])); (refine wpAnyH_take (i := 12) (oi := ?_) (v := ?_) ?_ (by kernel_rfl) (by kernel_rfl) (by kernel_rfl) ?_ ?_ (by assumption) ?_; rotate_left 2; (focus ((simp only [List.getElem?_toArray, List.getElem?_cons_succ, List.getElem?_cons_zero]; exact rfl))); (focus (exact fun _ _ _ h => h)); (focus (refine Or.inl ⟨by rfl, ?_⟩; intro w hSw; (try dsimp only at hSw); (first | (go_simp; done) | (go_simp; with_reducible rfl)))); (try simp only [Act.put, List.setIfInBounds_toArray, List.set_cons_zero, List.set_cons_succ])); (refine wpAnyH_take (i := 13) (oi := ?_) (v := ?_) ?_ (by kernel_rfl) (by kernel_rfl) (by kernel_rfl) ?_ ?_ (by assumption) ?_; rotate_left 2; (focus ((simp only [List.getElem?_toArray, List.getElem?_cons_succ, List.getElem?_cons_zero]; exact rfl))); (focus (exact fun _ _ _ h => h)); (focus (refine Or.inl ⟨by rfl, ?_⟩; intro w hSw; (try dsimp only at hSw); (first | (go_simp; done) | (go_simp; with_reducible rfl)))); (try simp only [Act.put, List.setIfInBounds_toArray, List.set_cons_zero, List.set_cons_succ])))
        (refine wpAnyH_ready (rs := [2]) (by kernel_rfl) (by simp) ?_; refine AllReadyH.cons (o := ?_) ?_ (fun K hK => ?_) AllReadyH.nil; rotate_left; (focus ((simp only [List.getElem?_toArray, List.getElem?_cons_succ, List.getElem?_cons_zero]; exact rfl))); go_simp; go_at_call 49; refine (distances_any g (pt l (l.length - 1)) ga gc _ HR.out HLAST.out (HC.out.ext (E4.trans (by exact (show Sees W _ by assumption).2.2)))).mono ?_; rintro e w' ⟨tb, rfl, hT, hE2⟩; have c1 := (hT (pt l 0) ⟨r1, r2, r3, r4⟩).1; go_wp2_with fail; refine hK.out _ _ (by repeat (first | exact Sees.refl _ | assumption | apply Sees.drew | (refine Sees.ext ?_ (by assumption)))) (fun hHeld => ?_); clear hK K; (try simp only [Act.put, List.setIfInBounds_toArray, List.set_cons_zero, List.set_cons_succ]))
        ((refine wpAnyH_take (i := 7) (oi := ?_) (v := ?_) ?_ (by kernel_rfl) (by kernel_rfl) (by kernel_rfl) ?_ ?_ (by assumption) ?_; rotate_left 2; (focus ((simp only [List.getElem?_toArray, List.getElem?_cons_succ, List.getElem?_cons_zero]; exact rfl))); (focus (exact fun _ _ _ h => h)); (focus (refine Or.inl ⟨by rfl, ?_⟩; intro w hSw; (try dsimp only at hSw); (first | (go_simp; done) | (go_simp; with_reducible rfl)))); (try simp only [Act.put, List.setIfInBounds_toArray, List.set_cons_zero, List.set_cons_succ])); (refine wpAnyH_take (i := 8) (oi := ?_) (v := ?_) ?_ (by kernel_rfl) (by kernel_rfl) (by kernel_rfl) ?_ ?_ (by assumption) ?_; rotate_left 2; (focus ((simp only [List.getElem?_toArray, List.getElem?_cons_succ, List.getElem?_cons_zero]; exact rfl))); (focus (exact fun _ _ _ h => h)); (focus (refine Or.inl ⟨by rfl, ?_⟩; intro w hSw; (try dsimp only at hSw); (first | (go_simp; done) | (go_simp; with_reducible rfl)))); (try simp only [Act.put, List.setIfInBounds_toArray, List.set_cons_zero, List.set_cons_succ])); (refine wpAnyH_take (i := 9) (oi := ?_) (v := ?_) ?_ (by kernel_rfl) (by kernel_rfl) (by kernel_rfl) ?_ ?_ (by assumption) ?_; rotate_left 2; (focus ((simp only [List.getElem?_toArray, List.getElem?_cons_succ, List.getElem?_cons_zero]; exact rfl))); (focus (exact fun _ _ _ h => h)); (focus (refine Or.inl ⟨by rfl, ?_⟩; intro w hSw; (try dsimp only at hSw); (first | (go_simp; done) | (go_simp; with_reducible rfl)))); (try simp only [Act.put, List.setIfInBounds_toArray, List.set_cons_zero, List.set_cons_succ])))
        (refine wpAnyH_ready (rs := [10]) (by kernel_rfl) (by simp) ?_; refine AllReadyH.cons (o := ?_) ?_ (fun K hK => ?_) AllReadyH.nil; rotate_left; (focus ((simp only [List.getElem?_toArray, List.getElem?_cons_succ, List.getElem?_cons_zero]; exact rfl))); go_simp; refine hK.out _ _ (by repeat (first | exact Sees.refl _ | assumption | apply Sees.drew | (refine Sees.ext ?_ (by assumption)))) (fun hHeld => ?_); clear hK K; (try simp only [Act.put, List.setIfInBounds_toArray, List.set_cons_zero, List.set_cons_succ]))
        ((refine wpAnyH_take (i := 14) (oi := ?_) (v := ?_) ?_ (by kernel_rfl) (by kernel_rfl) (by kernel_rfl) ?_ ?_ (by assumption) ?_; rotate_left 2; (focus ((simp only [List.getElem?_toArray, List.getElem?_cons_succ, List.getElem?_cons_zero]; exact rfl))); (focus (exact fun _ _ _ h => h)); (focus (refine Or.inl ⟨by rfl, ?_⟩; intro w hSw; (try dsimp only at hSw); (first | (go_simp; done) | (go_simp; with_reducible rfl)))); (try simp only [Act.put, List.setIfInBounds_toArray, List.set_cons_zero, List.set_cons_succ])); (refine wpAnyH_take (i := 15) (oi := ?_) (v := ?_) ?_ (by kernel_rfl) (by kernel_rfl) (by kernel_rfl) ?_ ?_ (by assumption) ?_; rotate_left 2; (focus ((simp only [List.getElem?_toArray, List.getElem?_cons_succ, List.getElem?_cons_zero]; exact rfl))); (focus (exact fun _ _ _ h => h)); (focus (refine Or.inl ⟨by rfl, ?_⟩; intro w hSw; (try dsimp only at hSw); (first | (go_simp; done) | (go_simp; with_reducible rfl)))); (try simp only [Act.put, List.setIfInBounds_toArray, List.set_cons_zero, List.set_cons_succ])); (refine wpAnyH_take (i := 16) (oi := ?_) (v := ?_) ?_ (by kernel_rfl) (by kernel_rfl) (by kernel_rfl) ?_ ?_ (by assumption) ?_; rotate_left 2; (focus ((simp only [List.getElem?_toArray, List.getElem?_cons_succ, List.getElem?_cons_zero]; exact rfl))); (focus (exact fun _ _ _ h => h)); (focus (refine Or.inl ⟨by rfl, ?_⟩; intro w hSw; (try dsimp only at hSw); (first | (go_simp; done) | (go_simp; with_reducible rfl)))); (try simp only [Act.put, List.setIfInBounds_toArray, List.set_cons_zero, List.set_cons_succ])))
        refine wpAnyH_done (by kernel_rfl) ?_ _
        have hS := (show Sees W _ by assumption).2.2
        go_wp2
        go_ret2
        refine ⟨?_, E4.trans hS⟩
        rw [hv.out, HJ.out]
        rfl
      · have E3 : Ext w2 (((w2.alloc (.cells #[.int .i64 (pt l (l.length - 1)).1, .int .i64 (pt l (l.length - 1)).2] 26)).alloc (.cells #[.int .i64 (pt l 0).1, .int .i64 (pt l 0).2] 26)).drew) := (((Ext.refl _).alloc _).alloc _).drew
        have g1 := E3.cell d1
        have g2 := E3.cell d2
        have g3 := E3.cell d3
        have p1 : (((w2.alloc (.cells #[.int .i64 (pt l (l.length - 1)).1, .int .i64 (pt l (l.length - 1)).2] 26)).alloc (.cells #[.int .i64 (pt l 0).1, .int .i64 (pt l 0).2] 26)).drew).cell? ⟨w2.heap.size + 1, 0, none⟩ = some (.int .i64 (pt l 0).1) := by go_simp
        have p2 : (((w2.alloc (.cells #[.int .i64 (pt l (l.length - 1)).1, .int .i64 (pt l (l.length - 1)).2] 26)).alloc (.cells #[.int .i64 (pt l 0).1, .int .i64 (pt l 0).2] 26)).drew).cell? ⟨w2.heap.size + 1, 1, none⟩ = some (.int .i64 (pt l 0).2) := by go_simp
        have p3 : (((w2.alloc (.cells #[.int .i64 (pt l (l.length - 1)).1, .int .i64 (pt l (l.length - 1)).2] 26)).alloc (.cells #[.int .i64 (pt l 0).1, .int .i64 (pt l 0).2] 26)).drew).cell? ⟨w2.heap.size, 0, none⟩ = some (.int .i64 (pt l (l.length - 1)).1) := by go_simp
        have p4 : (((w2.alloc (.cells #[.int .i64 (pt l (l.length - 1)).1, .int .i64 (pt l (l.length - 1)).2] 26)).alloc (.cells #[.int .i64 (pt l 0).1, .int .i64 (pt l 0).2] 26)).drew).cell? ⟨w2.heap.size, 1, none⟩ = some (.int .i64 (pt l (l.length - 1)).2) := by go_simp
        have E4 := E2.trans E3
        clear d1 d2 d3 E3 E2 e1 e2 f1 f2
        generalize (((w2.alloc (.cells #[.int .i64 (pt l (l.length - 1)).1, .int .i64 (pt l (l.length - 1)).2] 26)).alloc (.cells #[.int .i64 (pt l 0).1, .int .i64 (pt l 0).2] 26)).drew) = W at g1 g2 g3 p1 p2 p3 p4 E4 ⊢
        have z1 := cell_lt g1
        have z2 := cell_lt p1
        have z3 := cell_lt p3
        dsimp only at z1 z2 z3
        go_wp2_with fail
        refine wp_region_held_drew (S := fun w' => Sees W w') (by kernel_rfl) (by repeat (first | exact Sees.refl _ | assumption | apply Sees.drew)) (fun hHeld => ?_)
        ((refine wpAnyH_take (i := 0) (oi := ?_) (v := ?_) ?_ (by kernel_rfl) (by kernel_rfl) (by kernel_rfl) ?_ ?_ (by assumption) ?_; rotate_left 2; (focus ((simp only [List.getElem?_toArray, List.getElem?_cons_zero]; exact rfl))); (focus (exact fun _ _ _ h => h)); (focus (refine Or.inl ⟨by rfl, ?_⟩; intro w hSw; (try dsimp only at hSw); (first | (go_simp; done) | (go_simp; with_reducible rfl)))); (try simp only [Act.put, List.setIfInBounds_toArray, List.set_cons_zero, List.set_cons_succ])); (refine wpAnyH_take (i := 1) (oi := ?_) (v := ?_) ?_ (by kernel_rfl) (by kernel_rfl) (by kernel_rfl) ?_ ?_ (by assumption) ?_; rotate_left 2; (focus ((simp only [List.getElem?_toArray, List.getElem?_cons_succ, List.getElem?_cons_zero]; exact rfl))); (focus (exact fun _ _ _ h => h)); (focus (refine Or.inl ⟨by rfl, ?_⟩; intro w hSw; (try dsimp only at hSw); (first | (go_simp; done) | (go_simp; with_reducible rfl)))); (try simp only [Act.put, List.setIfInBounds_toArray, List.set_cons_zero, List.set_cons_succ])); (refine wpAnyH_take (i := 3) (oi := ?_) (v := ?_) ?_ (by kernel_rfl) (by kernel_rfl) (by kernel_rfl) ?_ ?_ (by assumption) ?_; rotate_left 2; (focus ((simp only [List.getElem?_toArray, List.getElem?_cons_succ, List.getElem?_cons_zero]; exact rfl))); (focus (exact fun _ _ _ h => h)); (focus (refine Or.inl ⟨by rfl, ?_⟩; intro w hSw; (try dsimp only at hSw); (first | (go_simp; done) | (go_simp; with_reducible rfl)))); (try simp only [Act.put, List.setIfInBounds_toArray, List.set_cons_zero, List.set_cons_succ])); (refine wpAnyH_take (i := 4) (oi := ?_) (v := ?_) ?_ (by kernel_rfl) (by kernel_rfl) (by kernel_rfl) ?_ ?_ (by assumption) ?_; rotate_left 2; (focus ((simp only [List.getElem?_toArray, List.getElem?_cons_succ, List.getElem?_cons_zero]; exact rfl))); (focus (exact fun _ _ _ h => h)); (focus (refine Or.inl ⟨by rfl, ?_⟩; intro w hSw; (try dsimp only at hSw); (first | (go_simp; done) | (go_simp; with_reducible rfl)))); (try simp only [Act.put, List.setIfInBounds_toArray, List.set_cons_zero, List.set_cons_succ])); (refine wpAnyH_take (i := 5) (oi := ?_) (v := ?_) ?_ (by kernel_rfl) (by kernel_rfl) (by kernel_rfl) ?_ ?_ (by assumption) ?_; rotate_left 2; (focus ((simp only [List.getElem?_toArray, List.getElem?_cons_succ, List.getElem?_cons_zero]; exact rfl))); (focus (exact fun _ _ _ h => h)); (focus (refine Or.inl ⟨by rfl, ?_⟩; intro w hSw; (try dsimp only at hSw); (first | (go_simp; done) | (go_simp; with_reducible rfl)))); (try simp only [Act.put, List.setIfInBounds_toArray, List.set_cons_zero, List.set_cons_succ])); (refine wpAnyH_take (i := 6) (oi := ?_) (v := ?_) ?_ (by kernel_rfl) (by kernel_rfl) (by kernel_rfl) ?_ ?_ (by assumption) ?_; rotate_left 2; (focus ((simp only [List.getElem?_toArray, List.getElem?_cons_succ, List.getElem?_cons_zero]; exact rfl))); (focus (exact fun _ _ _ h => h)); (focus (refine Or.inl ⟨by rfl, ?_⟩; intro w hSw; (try dsimp only at hSw); (first | (go_simp; done) | (go_simp; with_reducible rfl)))); (try simp only [Act.put, List.setIfInBounds_toArray, List.set_cons_zero, List.set_cons_succ])); (refine wpAnyH_take (i := 11) (oi := ?_) (v := ?_) ?_ (by kernel_rfl) (by kernel_rfl) (by kernel_rfl) ?_ ?_ (by assumption) ?_; rotate_left 2; (focus ((simp only [List.getElem?_toArray, List.getElem?_cons_succ, List.getElem?_cons_zero]; exact rfl))); (focus (exact fun _ _ _ h => h)); (focus (refine Or.inl ⟨by rfl, ?_⟩; intro w hSw; (try dsimp only at hSw); (first | (go_simp; done) | (go_simp; with_reducible rfl)))); (try simp only [Act.put, List.setIfInBounds_toArray, List.set_cons_zero, List.set_cons_succ])); (refine wpAnyH_take (i := 12) (oi := ?_) (v := ?_) ?_ (by kernel_rfl) (by kernel_rfl) (by kernel_rfl) ?_ ?_ (by assumption) ?_; rotate_left 2; (focus ((simp only [List.getElem?_toArray, List.getElem?_cons_succ, List.getElem?_cons_zero]; exact rfl))); (focus (exact fun _ _ _ h => h)); (focus (refine Or.inl ⟨by rfl, ?_⟩; intro w hSw; (try dsimp only at hSw); (first | (go_simp; done) | (go_simp; with_reducible rfl)))); (try simp only [Act.put, List.setIfInBounds_toArray, List.set_cons_zero, List.set_cons_succ])); (refine wpAnyH_take (i := 13) (oi := ?_) (v := ?_) ?_ (by kernel_rfl) (by kernel_rfl) (by kernel_rfl) ?_ ?_ (by assumption) ?_; rotate_left 2; (focus ((simp only [List.getElem?_toArray, List.getElem?_cons_succ, List.getElem?_cons_zero]; exact rfl))); (focus (exact fun _ _ _ h => h)); (focus (refine Or.inl ⟨by rfl, ?_⟩; intro w hSw; (try dsimp only at hSw); (first | (go_simp; done) | (go_simp; with_reducible rfl)))); (try simp only [Act.put, List.setIfInBounds_toArray, List.set_cons_zero, List.set_cons_succ])))
        (refine wpAnyH_ready (rs := [2]) (by kernel_rfl) (by simp) ?_; refine AllReadyH.cons (o := ?_) ?_ (fun K hK => ?_) AllReadyH.nil; rotate_left; (focus ((simp only [List.getElem?_toArray, List.getElem?_cons_succ, List.getElem?_cons_zero]; exact rfl))); go_simp; go_at_call 49; refine (distances_any g (pt l (l.length - 1)) ga gc _ HR.out HLAST.out (HC.out.ext (E4.trans (by exact (show Sees W _ by assumption).2.2)))).mono ?_; rintro e w' ⟨tb, rfl, hT, hE2⟩; have c1 := (hT (pt l 0) ⟨r1, r2, r3, r4⟩).1; go_wp2_with fail; refine hK.out _ _ (by repeat (first | exact Sees.refl _ | assumption | apply Sees.drew | (refine Sees.ext ?_ (by assumption)))) (fun hHeld => ?_); clear hK K; (try simp only [Act.put, List.setIfInBounds_toArray, List.set_cons_zero, List.set_cons_succ]))
        ((refine wpAnyH_take (i := 7) (oi := ?_) (v := ?_) ?_ (by kernel_rfl) (by kernel_rfl) (by kernel_rfl) ?_ ?_ (by assumption) ?_; rotate_left 2; (focus ((simp only [List.getElem?_toArray, List.getElem?_cons_succ, List.getElem?_cons_zero]; exact rfl))); (focus (exact fun _ _ _ h => h)); (focus (refine Or.inl ⟨by rfl, ?_⟩; intro w hSw; (try dsimp only at hSw); (first | (go_simp; done) | (go_simp; with_reducible rfl)))); (try simp only [Act.put, List.setIfInBounds_toArray, List.set_cons_zero, List.set_cons_succ])); (refine wpAnyH_take (i := 8) (oi := ?_) (v := ?_) ?_ (by kernel_rfl) (by kernel_rfl) (by kernel_rfl) ?_ ?_ (by assumption) ?_; rotate_left 2; (focus ((simp only [List.getElem?_toArray, List.getElem?_cons_succ, List.getElem?_cons_zero]; exact rfl))); (focus (exact fun _ _ _ h => h)); (focus (refine Or.inl ⟨by rfl, ?_⟩; intro w hSw; (try dsimp only at hSw); (first | (go_simp; done) | (go_simp; with_reducible rfl)))); (try simp only [Act.put, List.setIfInBounds_toArray, List.set_cons_zero, List.set_cons_succ])); (refine wpAnyH_take (i := 9) (oi := ?_) (v := ?_) ?_ (by kernel_rfl) (by kernel_rfl) (by kernel_rfl) ?_ ?_ (by assumption) ?_; rotate_left 2; (focus ((simp only [List.getElem?_toArray, List.getElem?_cons_succ, List.getElem?_cons_zero]; exact rfl))); (focus (exact fun _ _ _ h => h)); (focus (refine Or.inl ⟨by rfl, ?_⟩; intro w hSw; (try dsimp only at hSw); (first | (go_simp; done) | (go_simp; with_reducible rfl)))); (try simp only [Act.put, List.setIfInBounds_toArray, List.set_cons_zero, List.set_cons_succ])))
        (refine wpAnyH_ready (rs := [10]) (by kernel_rfl) (by simp) ?_; refine AllReadyH.cons (o := ?_) ?_ (fun K hK => ?_) AllReadyH.nil; rotate_left; (focus ((simp only [List.getElem?_toArray, List.getElem?_cons_succ, List.getElem?_cons_zero]; exact rfl))); go_simp; refine hK.out _ _ (by repeat (first | exact Sees.refl _ | assumption | apply Sees.drew | (refine Sees.ext ?_ (by assumption)))) (fun hHeld => ?_); clear hK K; (try simp only [Act.put, List.setIfInBounds_toArray, List.set_cons_zero, List.set_cons_succ]))
        ((refine wpAnyH_take (i := 14) (oi := ?_) (v := ?_) ?_ (by kernel_rfl) (by kernel_rfl) (by kernel_rfl) ?_ ?_ (by assumption) ?_; rotate_left 2; (focus ((simp only [List.getElem?_toArray, List.getElem?_cons_succ, List.getElem?_cons_zero]; exact rfl))); (focus (exact fun _ _ _ h => h)); (focus (refine Or.inl ⟨by rfl, ?_⟩; intro w hSw; (try dsimp only at hSw); (first | (go_simp; done) | (go_simp; with_reducible rfl)))); (try simp only [Act.put, List.setIfInBounds_toArray, List.set_cons_zero, List.set_cons_succ])); (refine wpAnyH_take (i := 15) (oi := ?_) (v := ?_) ?_ (by kernel_rfl) (by kernel_rfl) (by kernel_rfl) ?_ ?_ (by assumption) ?_; rotate_left 2; (focus ((simp only [List.getElem?_toArray, List.getElem?_cons_succ, List.getElem?_cons_zero]; exact rfl))); (focus (exact fun _ _ _ h => h)); (focus (refine Or.inl ⟨by rfl, ?_⟩; intro w hSw; (try dsimp only at hSw); (first | (go_simp; done) | (go_simp; with_reducible rfl)))); (try simp only [Act.put, List.setIfInBounds_toArray, List.set_cons_zero, List.set_cons_succ])); (refine wpAnyH_take (i := 16) (oi := ?_) (v := ?_) ?_ (by kernel_rfl) (by kernel_rfl) (by kernel_rfl) ?_ ?_ (by assumption) ?_; rotate_left 2; (focus ((simp only [List.getElem?_toArray, List.getElem?_cons_succ, List.getElem?_cons_zero]; exact rfl))); (focus (exact fun _ _ _ h => h)); (focus (refine Or.inl ⟨by rfl, ?_⟩; intro w hSw; (try dsimp only at hSw); (first | (go_simp; done) | (go_simp; with_reducible rfl)))); (try simp only [Act.put, List.setIfInBounds_toArray, List.set_cons_zero, List.set_cons_succ])))
        refine wpAnyH_done (by kernel_rfl) ?_ _
        have hS := (show Sees W _ by assumption).2.2
        go_wp2
        go_ret2
        refine ⟨?_, E4.trans hS⟩
        rw [hv.out, HJ.out]
        rfl
  · have hv : Hid (verV g l = false) := by
      show _ = _
      unfold verV
      rw [if_pos h0]
    have hb : (listedErr g l != 0) = true := by simp [h0]
    have hb2 : (listedErr g l == 0) = false := by simp [h0]
    clear h0
    go_enter Try.func32, Try.ntmps32
    go_wp2_with fail
    refine (listed_any g l ga gc a cap _ HG.out (HC.out.ext E0) HM.out (HL.out.ext E0)).mono ?_
    rintro e w1 ⟨rfl, hE⟩
    go_wp2
    go_ret2
    rw [hv.out]
    exact ⟨rfl, E0.trans hE⟩
end Go.Proofs.Ytfigooilhnahfaa
/- The reference's neighbours. -/
namespace Go.Proofs.Ytfigooilhnahfaa
open Go.RowKit

theorem near_step {g : Gr} {p : Pt} {k : Nat} (hk : k < 4) : ((nbs p).take (k + 1)).filter (opn g) = ((nbs p).take k).filter (opn g) ++ (if opn g (pt (nbs p) k) = true then [pt (nbs p) k] else []) := by
  have hl : k < (nbs p).length := hk
  rw [List.take_succ_eq_append_getElem hl, List.filter_append]
  congr 1
  have e : (nbs p)[k] = pt (nbs p) k := by unfold pt; rw [List.getD_eq_getElem?_getD, List.getElem?_eq_getElem hl]; simp
  rw [e]
  by_cases h : opn g (pt (nbs p) k) = true <;> simp [h]

set_option maxHeartbeats 2000000 in
set_option maxRecDepth 100000 in
theorem Near_any (g : Gr) (p : Pt) (ga : Option Addr) (gc : Nat) (w : World) (hg : g.bl.length ≤ maxLen) (hp : InG p) (hc : Cells2 w ga g.bl) :
    Calls Try.prog 73 #[.agg #[.int .i64 g.rows, .int .i64 g.cols, .slice ga g.bl.length gc], .agg #[.int .i64 p.1, .int .i64 p.2]] w fun e w' => ∃ v, e = .returned v ∧ Owns w' v (near g p) ∧ (∀ b, v.ownBlock = some b → w.heap.size ≤ b) ∧ Ext w w' := by
  have HC : Hid (Cells2 w ga g.bl) := hc
  have HG := Lib.hid hg
  have HP := Lib.hid hp
  obtain ⟨p1, p2, p3, p4⟩ := hp
  have x1 : IntKind.i64.wrap (p.1 - 1) = p.1 - 1 := IntWalk.i64_in _ (by omega)
  have x2 : IntKind.i64.wrap (p.2 - 1) = p.2 - 1 := IntWalk.i64_in _ (by omega)
  have x3 : IntKind.i64.wrap (p.1 + 1) = p.1 + 1 := IntWalk.i64_in _ (by omega)
  have x4 : IntKind.i64.wrap (p.2 + 1) = p.2 + 1 := IntWalk.i64_in _ (by omega)
  clear hc hg
  go_enter Try.func73, Try.ntmps73
  go_wp2
  obtain ⟨n, hn⟩ : ∃ n, n = w.heap.size := ⟨_, rfl⟩
  have E0 : Ext w (((( ((w).alloc (.cells #[.int .i64 g.rows, .int .i64 g.cols, .slice ga g.bl.length gc] 24))).alloc (.cells #[.int .i64 p.1, .int .i64 p.2] 26))).alloc (.cells #[.int .i64 (p.1 - 1), .int .i64 p.2, .int .i64 p.1, .int .i64 (p.2 - 1), .int .i64 p.1, .int .i64 (p.2 + 1), .int .i64 (p.1 + 1), .int .i64 p.2] 26)) := (((Ext.refl _).alloc _).alloc _).alloc _
  have g1 : (((( ((w).alloc (.cells #[.int .i64 g.rows, .int .i64 g.cols, .slice ga g.bl.length gc] 24))).alloc (.cells #[.int .i64 p.1, .int .i64 p.2] 26))).alloc (.cells #[.int .i64 (p.1 - 1), .int .i64 p.2, .int .i64 p.1, .int .i64 (p.2 - 1), .int .i64 p.1, .int .i64 (p.2 + 1), .int .i64 (p.1 + 1), .int .i64 p.2] 26)).cell? ⟨w.heap.size, 0, none⟩ = some (.int .i64 g.rows) := by clear hn; go_simp
  have g2 : (((( ((w).alloc (.cells #[.int .i64 g.rows, .int .i64 g.cols, .slice ga g.bl.length gc] 24))).alloc (.cells #[.int .i64 p.1, .int .i64 p.2] 26))).alloc (.cells #[.int .i64 (p.1 - 1), .int .i64 p.2, .int .i64 p.1, .int .i64 (p.2 - 1), .int .i64 p.1, .int .i64 (p.2 + 1), .int .i64 (p.1 + 1), .int .i64 p.2] 26)).cell? ⟨w.heap.size, 1, none⟩ = some (.int .i64 g.cols) := by clear hn; go_simp
  have g3 : (((( ((w).alloc (.cells #[.int .i64 g.rows, .int .i64 g.cols, .slice ga g.bl.length gc] 24))).alloc (.cells #[.int .i64 p.1, .int .i64 p.2] 26))).alloc (.cells #[.int .i64 (p.1 - 1), .int .i64 p.2, .int .i64 p.1, .int .i64 (p.2 - 1), .int .i64 p.1, .int .i64 (p.2 + 1), .int .i64 (p.1 + 1), .int .i64 p.2] 26)).cell? ⟨w.heap.size, 2, none⟩ = some (.slice ga g.bl.length gc) := by clear hn; go_simp
  have zW : (((( ((w).alloc (.cells #[.int .i64 g.rows, .int .i64 g.cols, .slice ga g.bl.length gc] 24))).alloc (.cells #[.int .i64 p.1, .int .i64 p.2] 26))).alloc (.cells #[.int .i64 (p.1 - 1), .int .i64 p.2, .int .i64 p.1, .int .i64 (p.2 - 1), .int .i64 p.1, .int .i64 (p.2 + 1), .int .i64 (p.1 + 1), .int .i64 p.2] 26)).heap.size = n + 3 := by rw [hn]; simp
  have HN : Hid (Cells2 (((( ((w).alloc (.cells #[.int .i64 g.rows, .int .i64 g.cols, .slice ga g.bl.length gc] 24))).alloc (.cells #[.int .i64 p.1, .int .i64 p.2] 26))).alloc (.cells #[.int .i64 (p.1 - 1), .int .i64 p.2, .int .i64 p.1, .int .i64 (p.2 - 1), .int .i64 p.1, .int .i64 (p.2 + 1), .int .i64 (p.1 + 1), .int .i64 p.2] 26)) (some ⟨w.heap.size + 1 + 1, 0, none⟩) (nbs p)) := fun i hi => by
    have : i = 0 ∨ i = 1 ∨ i = 2 ∨ i = 3 := by simp [nbs] at hi; omega
    clear hn zW
    rcases this with rfl | rfl | rfl | rfl <;> exact ⟨_, 0, rfl, by simp only [nbs, pt]; go_simp, by simp only [nbs, pt]; go_simp⟩
  rw [← hn] at g1 g2 g3 HN ⊢
  have z0 : w.heap.size ≤ n := by omega
  clear hn
  generalize (((( ((w).alloc (.cells #[.int .i64 g.rows, .int .i64 g.cols, .slice ga g.bl.length gc] 24))).alloc (.cells #[.int .i64 p.1, .int .i64 p.2] 26))).alloc (.cells #[.int .i64 (p.1 - 1), .int .i64 p.2, .int .i64 p.1, .int .i64 (p.2 - 1), .int .i64 p.1, .int .i64 (p.2 + 1), .int .i64 (p.1 + 1), .int .i64 p.2] 26)) = W at E0 g1 g2 g3 zW HN ⊢
  have HCW := Lib.hid (HC.out.ext E0)
  have HBL : Hid (g.bl ≠ [] → ∀ b off, ga = some ⟨b, off, none⟩ → b < W.heap.size) := fun hne b off hb => HCW.out.lt hne hb
  clear HC x1 x2 x3 x4
  go_loopw [5, 34] (fun v i wr => ∃ (k : Nat) (N : List Pt) (av : Option Addr) (cv : Nat), k ≤ 4 ∧ i = .int .i64 k ∧ v = .slice av N.length cv ∧ Hid (N = ((nbs p).take k).filter (opn g)) ∧ Hid (Owns wr (.slice av N.length cv) N) ∧ Hid (∀ b, (Value.slice av N.length cv).ownBlock = some b → W.heap.size ≤ b) ∧ Hid (Below W.heap.size W wr)) (fun _ i _ => 4 - (intOf i).toNat)
  case atStart => exact ⟨0, [], none, 0, by omega, rfl, rfl, rfl, Owns.nil _, fun b hb => (by cases hb), Below.refl _ _⟩
  case round =>
    obtain ⟨k, N, av, cv, hk, rfl, rfl, hN, hO, hV, hB⟩ := hrel
    have zwr : W.heap.size ≤ wr.heap.size := hB.out.size
    by_cases hlt : k < 4
    · have hlt' : (k : Int) < 4 := by omega
      have d1 : wr.cell? ⟨n, 0, none⟩ = some (.int .i64 g.rows) := (hB.out.cell (p := ⟨n, 0, none⟩) (by show n < _; omega)).trans g1
      have d2 : wr.cell? ⟨n, 1, none⟩ = some (.int .i64 g.cols) := (hB.out.cell (p := ⟨n, 1, none⟩) (by show n < _; omega)).trans g2
      have d3 : wr.cell? ⟨n, 2, none⟩ = some (.slice ga g.bl.length gc) := (hB.out.cell (p := ⟨n, 2, none⟩) (by show n < _; omega)).trans g3
      obtain ⟨nb, no, hnb, e1, e2⟩ := HN.out k hlt
      cases hnb
      simp only [Nat.zero_add] at e1 e2
      have e1 : wr.cell? ⟨n + 1 + 1, k * 2, none⟩ = some (.int .i64 (pt (nbs p) k).1) := (hB.out.cell (p := ⟨n + 1 + 1, k * 2, none⟩) (by show n + 1 + 1 < _; omega)).trans e1
      have e2 : wr.cell? ⟨n + 1 + 1, k * 2 + 1, none⟩ = some (.int .i64 (pt (nbs p) k).2) := (hB.out.cell (p := ⟨n + 1 + 1, k * 2 + 1, none⟩) (by show n + 1 + 1 < _; omega)).trans e2
      have HCr : Hid (Cells2 wr ga g.bl) := Cells2.kept (Kd := fun k => k < W.heap.size) (n := 0) ⟨hB.out.size, fun k o hk ho _ => by rw [hB.out.block k hk]; exact ho⟩ (fun b off hb hne => HBL.out hne b off hb) HCW.out
      have hst := near_step (g := g) (p := p) hlt
      generalize pt (nbs p) k = q at e1 e2 hst
      have HST := Lib.hid hst
      clear hst
      have zn : n < wr.heap.size := by omega
      go_wp2_with fail
      refine (Cell_any g q _ _).mono ?_
      rintro e w1 ⟨rfl, hE⟩
      have EE : Ext wr w1 := ((Ext.refl _).alloc _).trans hE
      have q1 : w1.cell? ⟨wr.heap.size, 0, none⟩ = some (.int .i64 q.1) := hE.cell (by go_simp)
      have q2 : w1.cell? ⟨wr.heap.size, 1, none⟩ = some (.int .i64 q.2) := hE.cell (by go_simp)
      have d1 := EE.cell d1
      have d2 := EE.cell d2
      have d3 := EE.cell d3
      have HC1 := Lib.hid (HCr.out.ext EE)
      have HO1 := Lib.hid (hO.out.ext EE)
      have HB1 := Lib.hid (hB.out.trans (EE.mono zwr))
      have z1 : wr.heap.size < w1.heap.size := cell_lt q1
      have zn1 : n < w1.heap.size := by omega
      clear hE EE hO hB HCr e1 e2
      have hlenN : N.length ≤ 4 := by
        rw [hN.out]
        refine Nat.le_trans (List.length_filter_le _ _) ?_
        simp; omega
      cases hin : inside g q
      · have HST2 : Hid (((nbs p).take (k + 1)).filter (opn g) = ((nbs p).take k).filter (opn g)) := by
          show _ = _
          rw [HST.out, if_neg (by unfold opn; rw [hin]; simp), List.append_nil]
        have HIN := Lib.hid hin
        clear hin
        go_wp2
        exact ⟨⟨k + 1, N, av, cv, by omega, by go_num, rfl, by show _ = _; rw [HST2.out]; exact hN.out, HO1.out, hV.out, HB1.out⟩, by simp [intOf]; omega⟩
      · have HIN := Lib.hid hin
        clear hin
        go_wp2_with fail
        refine (Has_any g.bl q ga gc _ HG.out HC1.out).mono ?_
        rintro e w2 ⟨rfl, hE⟩
        have q1 := hE.cell q1
        have q2 := hE.cell q2
        have HO2 := Lib.hid (HO1.out.ext hE)
        have zh2 : w1.heap.size ≤ w2.heap.size := hE.size
        have HB2 := Lib.hid (HB1.out.trans (hE.mono (by omega)))
        clear hE HO1 HB1 d1 d2 d3
        by_cases hm : q ∈ g.bl
        · have HST2 : Hid (((nbs p).take (k + 1)).filter (opn g) = ((nbs p).take k).filter (opn g)) := by
            show _ = _
            rw [HST.out, if_neg (by unfold opn blk; simp [hm]), List.append_nil]
          have hd : decide (q ∈ g.bl) = true := by simp [hm]
          rw [hd]
          clear hm hd
          go_wp2
          exact ⟨⟨k + 1, N, av, cv, by omega, by go_num, rfl, by show _ = _; rw [HST2.out]; exact hN.out, HO2.out, hV.out, HB2.out⟩, by simp [intOf]; omega⟩
        · have HST2 : Hid (((nbs p).take (k + 1)).filter (opn g) = ((nbs p).take k).filter (opn g) ++ [q]) := by
            show _ = _
            rw [HST.out, if_pos (by unfold opn blk; simp [hm, HIN.out])]
          have hd : decide (q ∈ g.bl) = false := by simp [hm]
          rw [hd]
          clear hm hd
          obtain ⟨i0, hi, hi0, hi1, hi2⟩ := info_parts infoPl
          go_wp2_with (at_builtin; refine wpList_append1 _ rfl _ _ 22 rfl 26 i0 (.agg #[.int .i64 0, .int .i64 0]) 2 16 Try.underlying22 hi hi0 hi1 hi2 rfl (by decide) (.slice av N.length cv) _ _ rfl (HO2.out.ext ((Ext.refl _).alloc _)) ⟨w2.heap.size, 0, none⟩ 1 1 (by decide) [.int .i64 q.1, .int .i64 q.2] rfl rfl (cell_two_new _ _ _ _) ?c1 ?c2 ?c3 ?c4)
          case c1 => intro u hu; simp at hu; rcases hu with rfl | rfl <;> rfl
          case c2 => unfold maxLen; omega
          case c3 => omega
          case c4 =>
            intro v' w5 hown5 hend5
            have O5 := owns_succ hown5
            obtain ⟨av', cv', rfl, _, hbk⟩ := O5.reads
            have HO5 := Lib.hid O5
            have HEND := Lib.hid hend5
            clear hown5 hend5 O5 hbk
            go_wp2
            refine ⟨⟨k + 1, N ++ [q], av', cv', by omega, by go_num, by first | rfl | (rw [List.length_append, List.length_singleton]), by show _ = _; rw [HST2.out, hN.out], HO5.out, fun b hb => ?_, (HB2.out.alloc (by omega) _).trans (HEND.out.below (by simp; omega) (fun b hb => hV.out b hb))⟩, by simp [intOf]; omega⟩
            rcases HEND.out with ⟨h1, _, _⟩ | ⟨h1, _⟩
            · rw [h1] at hb; exact hV.out b hb
            · rw [h1] at hb
              have hb' : b = (w2.alloc (.cells #[.int .i64 q.1, .int .i64 q.2] 26)).heap.size := by cases hb; rfl
              simp at hb'
              omega
    · have hk4 : k = 4 := by omega
      subst hk4
      go_wp2
      go_ret
      have hNN : N = near g p := hN.out
      refine ⟨_, rfl, by rw [← hNN]; exact hO.out, fun b hb => Nat.le_trans E0.size (hV.out b hb), Below.trans E0 (hB.out.mono (by omega))⟩
end Go.Proofs.Ytfigooilhnahfaa
/- The queue of the reference, in plain Lean: it visits the cells as the waves do. -/
namespace Go.Proofs.Ytfigooilhnahfaa

theorem addN_fst_next (qs : List Pt) : ∀ (seen a b : List Pt), (addN seen a qs).1 = (addN seen b qs).1 := by
  induction qs with
  | nil => intro seen a b; rfl
  | cons q qs ih =>
    intro seen a b
    unfold addN
    split
    · exact ih _ _ _
    · exact ih _ _ _
theorem addN_snd_next (qs : List Pt) : ∀ (seen a : List Pt), (addN seen a qs).2 = a ++ (addN seen [] qs).2 := by
  induction qs with
  | nil => intro seen a; simp [addN]
  | cons q qs ih =>
    intro seen a
    unfold addN
    split
    · exact ih _ _
    · rw [ih _ (a ++ [q]), ih _ ([] ++ [q]), List.append_assoc]; simp

/-- the state of the queue ahead of its i-th cell: the cells visited sn -/
structure QI (g : Gr) (p : Pt) (n : Nat) (pre A B seen0 nx : List Pt) (i : Nat) (Wv sn : List Pt) : Prop where
  wv : WV g p seen0 (A ++ B) n
  wi : WI g seen0 (A ++ B)
  e1 : (expand g seen0 [] A).1 = sn
  e2 : (expand g seen0 [] A).2 = nx
  eq : Wv = pre ++ (A ++ B) ++ nx
  ln : i = pre.length + A.length
  sz : pre.length + (A ++ B).length = seen0.length
  sb : ∀ q ∈ pre, q ∈ seen0
def QInv (g : Gr) (p : Pt) (i : Nat) (Wv sn : List Pt) : Prop := ∃ n pre A B seen0 nx, QI g p n pre A B seen0 nx i Wv sn
theorem QInv.start {g : Gr} {p : Pt} (hp : inside g p = true) : QInv g p 0 [p] [p] :=
  ⟨0, [], [], [p], [p], [], wv0 g p, ⟨by simp, fun q hq => by simp at hq; subst hq; exact hp, fun q hq => hq⟩, rfl, rfl, rfl, rfl, rfl, fun q hq => by cases hq⟩
theorem QI.wi2 {g : Gr} {p : Pt} {n : Nat} {pre A B seen0 nx : List Pt} {i : Nat} {Wv sn : List Pt} (h : QI g p n pre A B seen0 nx i Wv sn) : WI g sn nx ∧ sn.length = seen0.length + nx.length := by
  have h1 := expand_inv A seen0 [] ⟨h.wi.nd, h.wi.ins, fun q hq => by cases hq⟩
  rw [h.e1, h.e2] at h1
  exact ⟨h1.1, by have := h1.2; simp at this; exact this⟩
/-- where cells are left, one may suppose that the wave at hand is not through -/
theorem QInv.norm {g : Gr} {p : Pt} {i : Nat} {Wv sn : List Pt} (h : QInv g p i Wv sn) (hi : i < Wv.length) : ∃ n pre A c B seen0 nx, QI g p n pre A (c :: B) seen0 nx i Wv sn := by
  obtain ⟨n, pre, A, B, seen0, nx, hq⟩ := h
  cases B with
  | cons c B => exact ⟨n, pre, A, c, B, seen0, nx, hq⟩
  | nil =>
    cases nx with
    | nil =>
      exfalso
      have h1 := hq.eq
      have h2 := hq.ln
      rw [h1] at hi
      simp at hi
      omega
    | cons c nx =>
      have h1 := hq.wv.step
      rw [List.append_nil, hq.e1, hq.e2] at h1
      refine ⟨n + 1, pre ++ A, [], c, nx, sn, [], h1, hq.wi2.1, rfl, rfl, ?_, ?_, ?_, ?_⟩
      · rw [hq.eq]; simp
      · rw [hq.ln]; simp
      · have h2 := hq.sz
        have h3 := hq.wi2.2
        simp at h2 h3 ⊢
        omega
      · intro q hq2
        rw [← hq.e1, (expand_mem g A seen0 [] q).1]
        rcases List.mem_append.1 hq2 with h4 | h4
        · exact .inl (hq.sb q h4)
        · exact .inl (hq.wi.sub q (List.mem_append_left _ h4))
theorem QI.at {g : Gr} {p : Pt} {n : Nat} {pre A B seen0 nx : List Pt} {c : Pt} {i : Nat} {Wv sn : List Pt} (h : QI g p n pre A (c :: B) seen0 nx i Wv sn) : pt Wv i = c := by
  rw [h.eq, h.ln]
  unfold pt
  rw [List.getD_eq_getElem?_getD]
  simp [List.append_assoc]
theorem QI.cur {g : Gr} {p : Pt} {n : Nat} {pre A B seen0 nx : List Pt} {c : Pt} {i : Nat} {Wv sn : List Pt} (h : QI g p n pre A (c :: B) seen0 nx i Wv sn) : IsD g p c n := (h.wv.n c).1 (by simp)
theorem QI.seen {g : Gr} {p : Pt} {n : Nat} {pre A B seen0 nx : List Pt} {i : Nat} {Wv sn : List Pt} (h : QI g p n pre A B seen0 nx i Wv sn) {x : Pt} (hx : x ∈ sn) : ∃ m, IsD g p x m := by
  rw [← h.e1, (expand_mem g A seen0 [] x).1, h.wv.s] at hx
  rcases hx with ⟨m, _, h2⟩ | ⟨r, h1, h2⟩
  · obtain ⟨k, _, h3⟩ := h2.isD
    exact ⟨k, h3⟩
  · have hr := (h.wv.n r).1 (List.mem_append_left _ h1)
    obtain ⟨k, _, h3⟩ := (Walk.cons hr.w h2).isD
    exact ⟨k, h3⟩
theorem QI.fresh {g : Gr} {p : Pt} {n : Nat} {pre A B seen0 nx : List Pt} {c : Pt} {i : Nat} {Wv sn : List Pt} (h : QI g p n pre A (c :: B) seen0 nx i Wv sn) {x : Pt} (hx : x ∈ near g c) (hn : x ∉ sn) : IsD g p x (n + 1) := by
  refine ⟨.cons h.cur.w hx, fun m hm hw => hn ?_⟩
  rw [← h.e1, (expand_mem g A seen0 [] x).1, h.wv.s]
  exact .inl ⟨m, by omega, hw⟩
theorem QI.next {g : Gr} {p : Pt} {n : Nat} {pre A B seen0 nx : List Pt} {c : Pt} {i : Nat} {Wv sn : List Pt} (h : QI g p n pre A (c :: B) seen0 nx i Wv sn) :
    QI g p n pre (A ++ [c]) B seen0 (addN sn nx (near g c)).2 (i + 1) (Wv ++ (addN sn [] (near g c)).2) (addN sn [] (near g c)).1 := by
  have hw := h.wv
  have hi := h.wi
  rw [show A ++ c :: B = A ++ [c] ++ B by simp] at hw hi
  refine ⟨hw, hi, ?_, ?_, ?_, ?_, ?_, h.sb⟩
  · rw [expand_snoc, h.e1, h.e2]; exact addN_fst_next _ _ _ _
  · rw [expand_snoc, h.e1, h.e2]
  · rw [h.eq, addN_snd_next (near g c) sn nx]; simp
  · rw [h.ln]; simp; omega
  · have := h.sz; simp at this ⊢; omega

section
variable {g : Gr} {p : Pt} {i : Nat} {Wv sn : List Pt}
theorem QInv.step (h : QInv g p i Wv sn) (hi : i < Wv.length) : QInv g p (i + 1) (Wv ++ (addN sn [] (near g (pt Wv i))).2) (addN sn [] (near g (pt Wv i))).1 := by
  obtain ⟨n, pre, A, c, B, seen0, nx, hq⟩ := h.norm hi
  rw [hq.at]
  exact ⟨_, _, _, _, _, _, hq.next⟩
theorem QInv.wi (h : QInv g p i Wv sn) : sn.Nodup ∧ (∀ q ∈ sn, inside g q = true) ∧ Wv.length = sn.length ∧ ∀ q ∈ Wv, q ∈ sn := by
  obtain ⟨n, pre, A, B, seen0, nx, hq⟩ := h
  refine ⟨hq.wi2.1.nd, hq.wi2.1.ins, ?_, ?_⟩
  · have h1 := hq.wi2.2
    have h2 := hq.sz
    rw [hq.eq]
    simp at h2 ⊢
    omega
  · intro q hq2
    rw [hq.eq] at hq2
    rcases List.mem_append.1 hq2 with h4 | h4
    · rw [← hq.e1, (expand_mem g A seen0 [] q).1]
      rcases List.mem_append.1 h4 with h4 | h4
      · exact .inl (hq.sb q h4)
      · exact .inl (hq.wi.sub q h4)
    · exact hq.wi2.1.sub q h4
theorem QInv.val (h : QInv g p i Wv sn) (hr : Right g) (hp : inside g p = true) (hi : i < Wv.length) : 0 ≤ dst g p (pt Wv i) ∧ ∀ x ∈ near g (pt Wv i), x ∉ sn → dst g p x = dst g p (pt Wv i) + 1 := by
  obtain ⟨n, pre, A, c, B, seen0, nx, hq⟩ := h.norm hi
  rw [hq.at]
  have h1 := dst_of hr hp hq.cur
  refine ⟨by omega, fun x hx hn => ?_⟩
  rw [dst_of hr hp (hq.fresh hx hn), h1]
  omega
theorem QInv.pos (h : QInv g p i Wv sn) (hr : Right g) (hp : inside g p = true) {x : Pt} (hx : x ∈ sn) : 0 ≤ dst g p x := by
  obtain ⟨n, pre, A, B, seen0, nx, hq⟩ := h
  obtain ⟨m, hm⟩ := hq.seen hx
  rw [dst_of hr hp hm]
  omega
theorem QInv.done (h : QInv g p i Wv sn) (hi : i = Wv.length) {x : Pt} (hx : x ∉ sn) : dst g p x = -1 := by
  obtain ⟨n, pre, A, B, seen0, nx, hq⟩ := h
  have h1 := hq.eq
  have h2 := hq.ln
  have h3 : B = [] ∧ nx = [] := by
    rw [h1] at hi
    simp at hi
    exact ⟨List.eq_nil_of_length_eq_zero (by omega), List.eq_nil_of_length_eq_zero (by omega)⟩
  obtain ⟨rfl, rfl⟩ := h3
  have hs := hq.wv.step
  rw [List.append_nil, hq.e1, hq.e2] at hs
  refine dst_none fun k hk => ?_
  by_cases hkn : k ≤ n + 1
  · exact hx ((hs.s x).2 ⟨k, hkn, hk.w⟩)
  · obtain ⟨r, hr⟩ := IsD.down (m := n + 1) (n := k - (n + 1)) (by rw [show n + 1 + (k - (n + 1)) = k by omega]; exact hk)
    have := (hs.n r).2 hr
    cases this
end
end Go.Proofs.Ytfigooilhnahfaa
