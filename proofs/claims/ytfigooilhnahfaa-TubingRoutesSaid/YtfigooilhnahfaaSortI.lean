/- slices.SortFunc over the sizes of the parts: in descending order. -/
import Derived.Test.YtfigooilhnahfaaOwnI
import Derived.Test.YtfigooilhnahfaaShelf
import Derived.Lib.SortBridge
namespace Go.Proofs.Ytfigooilhnahfaa
open Go.RowKit Go.Shelf Go.Sort

abbrev Sm := { n : Int // 0 ≤ n ∧ n ≤ 1000000 }
instance : Inhabited Sm := ⟨⟨0, by decide⟩⟩
def encS (x : Sm) : Value := .int .i64 x.1
def cfS (x y : Sm) : Int := y.1 - x.1
theorem Parts1_any (x y : Sm) (w : World) : Calls Try.prog 63 #[encS x, encS y] w fun e w' => e = .returned (.int .i64 (cfS x y)) ∧ w' = w := by
  obtain ⟨x, hx1, hx2⟩ := x
  obtain ⟨y, hy1, hy2⟩ := y
  show Calls Try.prog 63 #[.int .i64 x, .int .i64 y] w fun e w' => e = .returned (.int .i64 (y - x)) ∧ w' = w
  have q0 : IntKind.i64.wrap (y - x) = y - x := IntWalk.i64_in _ (by omega)
  go_enter Try.func63, Try.ntmps63
  go_wp2
  go_ret
  exact ⟨rfl, rfl⟩
theorem ltS (x y : Sm) : ltOf cfS x y = decide (y.1 < x.1) := by
  unfold ltOf cfS
  by_cases h : y.1 < x.1
  · simp [h]; omega
  · simp [h]; omega
theorem swoS : SWO (ltOf cfS) where
  irrefl x := by rw [ltS]; simp
  trans x y z h1 h2 := by rw [ltS] at *; simp at *; omega
  ntrans x y z h1 h2 := by rw [ltS] at *; simp at *; omega
theorem totS (x y : Sm) (h1 : ltOf cfS x y = false) (h2 : ltOf cfS y x = false) : x = y := by
  rw [ltS] at *
  simp at h1 h2
  exact Subtype.ext (by omega)
theorem toSm {l : List Int} (h : ∀ x ∈ l, 0 ≤ x ∧ x ≤ 1000000) : ∃ d : List Sm, d.map (·.1) = l := by
  induction l with
  | nil => exact ⟨[], rfl⟩
  | cons a l ih =>
    obtain ⟨d, hd⟩ := ih (fun x hx => h x (List.mem_cons_of_mem _ hx))
    exact ⟨⟨a, h a (List.mem_cons_self ..)⟩ :: d, by simp [hd]⟩

set_option maxHeartbeats 1000000 in
theorem SortFunc_any (l : List Int) (h : ∀ x ∈ l, 0 ≤ x ∧ x ≤ 1000000) (v : Value) (w : World) (ho : OwnsI w v l) (hlen : l.length ≤ 4096) :
    Calls Try.prog 62 #[v, .func (.func 63) #[] #[]] w fun e w' => e = .returned (.tuple #[]) ∧
      (∃ a cap, v = .slice a l.length cap ∧ CellsI w' a (l.mergeSort fun x y => decide (y ≤ x))) ∧ (∀ n, n ≤ w.heap.size → (∀ b, v.ownBlock = some b → n ≤ b) → Below n w w') ∧ Chg (fun k => v.ownBlock = some k) w w' := by
  obtain ⟨a, cap, hv, hc, hb⟩ := ho.reads
  rcases hb with rfl | ⟨b, rfl, hvb, hb⟩
  · subst hv
    refine (Try.slices_SortFunc_none (α := Sm) a cap (.func (.func 63) #[] #[]) w).mono ?_
    rintro e w' ⟨rfl, rfl⟩
    exact ⟨rfl, ⟨a, cap, rfl, by simpa using CellsI.nil _ _⟩, fun n _ _ => Below.refl _ _, Chg.refl _ _⟩
  · obtain ⟨d, rfl⟩ := toSm h
    subst hv
    have hbw : b < w.heap.size := ho.lt hvb
    have eg : ∀ args w, (callFunc 63 args).run Try.prog w = .ok (.enter 63 args) w := enters_of Try.func63 (by kernel_rfl) rfl
    have hH : Holds encS w b 0 d.toArray := fun j hj => by
      have hj' : j < (d.map (·.1)).length := by simpa using hj
      obtain ⟨h1, h2⟩ := hb j hj'
      rw [Nat.zero_add]
      refine ⟨?_, h2⟩
      rw [h1]
      have hj2 : j < d.length := by simpa using hj
      simp [encS, List.getD, hj2]
    have key := Try.slices_SortFunc_total encS (fun _ => rfl) cfS swoS 63 #[] b 0 cap d.toArray w eg (CmpReads.lays fun m os dk _ x y => (Parts1_any x y _).mono fun e w' ⟨h1, h2⟩ => ⟨h1, 0, h2⟩) hH hbw (by simp at hlen ⊢; omega) totS
    have hsz : d.toArray.size = (d.map (·.1)).length := by simp
    rw [hsz] at key
    refine key.mono ?_
    rintro e w' ⟨rfl, n, os, rfl⟩
    have hms : ((d.toArray.toList.mergeSort fun x y => !(ltOf cfS) y x)).map (·.1) = (d.map (·.1)).mergeSort fun x y => decide (y ≤ x) := by
      refine List.map_mergeSort fun x _ y _ => ?_
      rw [ltS]
      by_cases hxy : y.1 ≤ x.1
      · simp [hxy]
      · simp [hxy]; omega
    have hl : (d.toArray.toList.mergeSort fun x y => !(ltOf cfS) y x).length = d.toArray.size := by simp
    have hw := Lib.sorted_world encS w b 0 n d.toArray (d.toArray.toList.mergeSort fun x y => !(ltOf cfS) y x) os hH hl
    refine ⟨rfl, ⟨_, cap, rfl, ?_⟩, ?_, ?_⟩
    · intro i hi
      refine ⟨b, 0, rfl, ?_⟩
      rw [← hms] at hi ⊢
      unfold sortWorld
      rw [hw]
      have hc2 := Lib.cells_sorted_ints (W := w) (b := b) (off := 0) (q := n) (zs := d.map (·.1)) (n := (d.map (·.1)).length) (ys := (d.toArray.toList.mergeSort fun x y => !(ltOf cfS) y x).map (·.1)) (os := os) (Nat.le_refl _) (by simp) (fun j hj => by rw [Nat.zero_add]; exact (hb j hj).1)
      have := hc2 i (by simpa using hi)
      rw [List.drop_length, List.append_nil] at this
      have e : (d.toArray.toList.mergeSort fun x y => !(ltOf cfS) y x).map encS = ((d.toArray.toList.mergeSort fun x y => !(ltOf cfS) y x).map (·.1)).map (Value.int .i64) := by rw [List.map_map]; rfl
      rw [e]
      exact this
    · intro m hm hmb
      unfold sortWorld
      rw [hw]
      have hbm := hmb b hvb
      have h1 : Below m w (w.drewN n) := ((Ext.refl w).drewN n).mono hm
      have h2 : ∀ (vs : List Value) (o : Nat) (A : World), Below m A (A.setCells b o vs) := by
        intro vs
        induction vs with
        | nil => intro o A; exact Below.refl _ _
        | cons v vs ih => intro o A; exact (Below.setCell (p := ⟨b, o, none⟩) (Below.refl m A) hbm v).trans (ih _ _)
      refine (h1.trans (h2 _ _ _)).trans ⟨rfl, rfl, rfl, by simp [grow], fun k hk => ?_⟩
      have hz : m ≤ ((w.drewN n).setCells b 0 (List.map encS (d.toArray.toList.mergeSort fun x y => !ltOf cfS y x))).heap.size := Nat.le_trans hm (h1.trans (h2 _ _ _)).size
      exact heap_grow_old _ os (by omega)
    · unfold sortWorld
      rw [hw]
      have h2 : ∀ (vs : List Value) (o : Nat) (A : World), Chg (fun k => (Value.slice (some ⟨b, 0, none⟩) (d.map (·.1)).length cap).ownBlock = some k) A (A.setCells b o vs) := by
        intro vs
        induction vs with
        | nil => intro o A; exact Chg.refl _ _
        | cons v vs ih => intro o A; exact (Chg.setCell (B := fun k => (Value.slice (some ⟨b, 0, none⟩) (d.map (·.1)).length cap).ownBlock = some k) ⟨b, o, none⟩ v rfl).trans (ih _ _)
      refine ((Chg.ext ((Ext.refl w).drewN n)).trans (h2 _ _ _)).trans ⟨by simp [grow], fun k hk _ => heap_grow_old _ os hk⟩
end Go.Proofs.Ytfigooilhnahfaa
