/- Steps of the proof: GNed, GRn1, GRn2, GRng, QCut, QTextS, QRead, QNum, QStpR, QPrsR, QOf, QParsed, QAlike, QParts, QAwakeS, QAwake. No conditions. -/
import Derived.Laws.EntriesVeiled
import Derived.Test.YtdolibeceijnnaaDoorZGL1
import Derived.Test.YtdolibeceijnnaaDoorZGL2
import Derived.Test.YtdolibeceijnnaaDoorZGL3
namespace Go.Proofs.YtdolibeceijnnaaDoor
open Go.RowKit
set_option maxHeartbeats 8000000 in
set_option maxRecDepth 100000 in
theorem needed_any (n : Int) (l : List Stp) (a : Option Addr) (cap : Nat) (x y : Nat) (w : World) (hxy : x ≤ y) (hy : y ≤ 200) (h : SeqG w a l) :
    Calls Tryd.prog 38 #[.agg #[.int .i64 n, .slice a l.length cap], .int .i64 x, .int .i64 y] w fun r w' => r = .returned (.int .i64 ((needS (okF (cyc l)) y (y - x) x : Nat) : Int)) ∧ Ext w w' := by
  have HH := Lib.hid h
  have HOK := Lib.hid (okF_her (cyc l))
  clear h
  generalize hokd : okF (cyc l) = ok at HOK
  have HD := Lib.hid hokd
  clear hokd
  go_enter Tryd.func38, Tryd.ntmps38
  go_wp2_with fail
  have E1 : Ext w (w.alloc (.cells #[.int .i64 n, .slice a l.length cap] 24)) := extA
  have c0 : ((w.alloc (.cells #[.int .i64 n, .slice a l.length cap] 24))).cell? ⟨w.heap.size, 0, none⟩ = some (.int .i64 n) := by go_simp
  have c1 : ((w.alloc (.cells #[.int .i64 n, .slice a l.length cap] 24))).cell? ⟨w.heap.size, 1, none⟩ = some (.slice a l.length cap) := by go_simp
  obtain ⟨bs, hbs⟩ : ∃ bs, bs = w.heap.size := ⟨_, rfl⟩
  rw [← hbs] at c0 c1 ⊢
  clear hbs
  replace HH := Lib.hid (HH.out.ext E1)
  generalize (w.alloc (.cells #[.int .i64 n, .slice a l.length cap] 24)) = W at E1 c0 c1 HH ⊢
  go_wp2
  go_loopw [1, 7] (fun f v wr => ∃ c k : Nat, x ≤ c ∧ c ≤ y ∧ k ≤ c ∧ f = .int .i64 c ∧ v = .int .i64 k ∧ Hid (∀ m, Greedy ok c y m → Greedy ok x y (k + m)) ∧ Ext W wr) (fun f _ _ => y - (intOf f).toNat)
  case atStart => exact ⟨x, 0, Nat.le_refl _, hxy, Nat.zero_le _, rfl, rfl, fun m hm => by rw [Nat.zero_add]; exact hm, Ext.refl _⟩
  case round =>
    obtain ⟨c, k, hxc, hcy, hkc, rfl, rfl, hg, he⟩ := hrel
    by_cases hlt : c < y
    · go_wp2
      go_loopw [8] (fun s w2 => ∃ e : Nat, 1 ≤ e ∧ c + e ≤ y ∧ s = .int .i64 e ∧ Hid (ok c (c + e) = true) ∧ Ext wr w2) (fun s _ => y - (c + (intOf s).toNat))
      case atStart => exact ⟨1, Nat.le_refl _, by omega, rfl, HOK.out.one c, Ext.refl _⟩
      case round =>
        obtain ⟨e, he1, hey, rfl, hoke, he2⟩ := hrel
        have F := he.trans he2
        have u1 : IntKind.i64.wrap ((c : Int) + (e : Int)) = ((c + e : Nat) : Int) := by rw [IntWalk.i64_in _ (by omega)]; omega
        by_cases hl2 : c + e < y
        · have d0 := F.cell c0
          have d1 := F.cell c1
          have u2 : IntKind.i64.wrap ((e : Int) + 1) = ((e + 1 : Nat) : Int) := by rw [IntWalk.i64_in _ (by omega)]; omega
          have HON := Lib.hid (fun W' hs => once_any n l a cap c (e + 1) W' (by omega) (by omega) hs)
          rw [HD.out] at HON
          obtain ⟨q, hq⟩ : ∃ q, ok c (c + (e + 1)) = q := ⟨_, rfl⟩
          rw [hq] at HON
          have HQ := Lib.hid hq
          clear hq
          go_wp2_with fail
          refine (HON.out _ (HH.out.ext F)).mono ?_
          rintro r w3 ⟨⟨m, rfl⟩, hE⟩
          have F3 := F.trans hE
          cases q
          · go_wp2
            have u3 : IntKind.i64.wrap ((k : Int) + 1) = ((k + 1 : Nat) : Int) := by rw [IntWalk.i64_in _ (by omega)]; omega
            refine ⟨⟨c + e, k + 1, by omega, hey, by omega, by first | rfl | exact congrArg _ (by first | exact u1 | omega), by first | rfl | exact congrArg _ (by first | exact u3 | omega), fun m2 hm2 => ?_, F3⟩, by simp [intOf]; omega⟩
            have := hg.out (m2 + 1) (.cons (by omega) hoke.out (.inr ⟨hl2, HQ.out⟩) hm2)
            rwa [show k + (m2 + 1) = k + 1 + m2 by omega] at this
          · go_wp2
            refine ⟨⟨e + 1, by omega, by omega, by first | rfl | exact congrArg _ (by first | exact u2 | omega), HQ.out, he2.trans hE⟩, by simp [intOf]; omega⟩
        · have hce : c + e = y := by omega
          have u3 : IntKind.i64.wrap ((k : Int) + 1) = ((k + 1 : Nat) : Int) := by rw [IntWalk.i64_in _ (by omega)]; omega
          go_wp2
          refine ⟨⟨c + e, k + 1, by omega, hey, by omega, by first | rfl | exact congrArg _ (by first | exact u1 | omega), by first | rfl | exact congrArg _ (by first | exact u3 | omega), fun m2 hm2 => ?_, F⟩, by simp [intOf]; omega⟩
          have := hg.out (m2 + 1) (.cons (by omega) hoke.out (.inl hce) hm2)
          rwa [show k + (m2 + 1) = k + 1 + m2 by omega] at this
    · have hce : c = y := by omega
      subst hce
      have h1 := hg.out 0 (.nil _)
      have h2 := (need_greedy HOK.out (c - x) x (Nat.le_refl _) hxy).same HOK.out h1
      have HN := Lib.hid h2
      clear h1 h2
      go_wp2
      go_ret
      refine ⟨?_, E1.trans he⟩
      rw [HN.out, Nat.add_zero]
      rfl
end Go.Proofs.YtdolibeceijnnaaDoor
namespace Go.Proofs.YtdolibeceijnnaaDoor
open Go.RowKit
set_option maxHeartbeats 2000000 in
set_option maxRecDepth 100000 in
theorem CloneI_any (l : List Int) (eb eo ec : Nat) (w : World) (hn : l.length ≤ 100) (h0 : 0 < l.length) (he : CellsI w (some ⟨eb, eo, none⟩) l) :
    Calls Tryd.prog 39 #[.slice (some ⟨eb, eo, none⟩) l.length ec] w fun e w' => ∃ v, e = .returned v ∧ OwnsI w' v l ∧ (∀ b, v.ownBlock = some b → w.heap.size ≤ b) ∧ Ext w w' := by
  have HE := Lib.hid he
  clear he
  obtain ⟨i0, hi, hi0, hi1, hi2⟩ := info_parts infoInt
  have heq : ∀ w' : World, (binOp .eql 27 (.slice (some ⟨eb, eo, none⟩) l.length ec) (.slice none 0 0)).run Tryd.prog w' = .ok (.bool false) w' := fun w' => Lib.run_eql_slice_nil (P := Tryd.prog) w' 27 3 (some ⟨eb, eo, none⟩) l.length ec 0 0 Tryd.underlying27
  go_enter Tryd.func39, Tryd.ntmps39
  have E1 : Ext w (w.alloc (.cells #[] 3)) := extA
  have hown : (w.alloc (.cells #[] 3)).ownsRow 0 3 1 (.slice (some ⟨w.heap.size, 0, none⟩) 0 0) 0 [] :=
    World.ownsRow_made (w := w) (base := 0) (e := 3) (size := 1) #[] 0 (Nat.zero_le _) (Nat.zero_le _) rfl
  have ez : (w.alloc (.cells #[] 3)).heap.size = w.heap.size + 1 := by simp
  go_wp2_with (at_builtin; refine wpList_append1 _ rfl _ _ 27 rfl 3 i0 (.int .i64 0) 1 8 Tryd.underlying27 hi hi0 hi1 hi2 rfl (by decide) (.slice (some ⟨w.heap.size, 0, none⟩) 0 0) 0 [] rfl hown ⟨eb, eo, none⟩ l.length ec h0 (l.map (Value.int .i64)) rfl ?c0 ?c1 ?c2 ?c3 ?c4 ?c5)
  case c0 => simp
  case c1 =>
    intro j u hu
    have hj : j < l.length := by have := (List.getElem?_eq_some_iff.1 hu).1; simpa using this
    obtain ⟨b, off, h1, h2⟩ := HE.out.ext E1 j hj
    cases h1
    rw [Addr.add_lit, h2]
    simp [hj] at hu
    simp [List.getD, hj, hu]
  case c2 => intro u hu; simp at hu; obtain ⟨x, _, rfl⟩ := hu; rfl
  case c3 => unfold maxLen; omega
  case c4 => omega
  case c5 =>
    intro v' w5 hown5 hend5
    have O5 : Hid (OwnsI w5 v' l) := by
      show OwnsI _ _ _
      unfold OwnsI
      simpa using hown5
    have F5 : Ext w w5 := E1.trans' (hend5.below (n := w.heap.size) (by rw [ez]; omega) (fun b hb => by cases hb; exact Nat.le_refl _)) (Nat.le_refl _)
    have G5 : Hid (∀ b, v'.ownBlock = some b → w.heap.size ≤ b) := hend5.ge (n := w.heap.size) (by rw [ez]; omega) (fun b hb => by cases hb; exact Nat.le_refl _)
    clear hown5 hend5 hown E1 ez
    go_wp2
    go_ret
    exact ⟨_, rfl, O5.out, G5.out, F5⟩
theorem run_appI (w : World) (v : Value) (N : List Int) (x : Int) (hO : OwnsI w v N) (hl : N.length ≤ 100) (a : Addr) (c : Nat) (hx : w.cell? a = some (.int .i64 x)) :
    ∃ v' w', (Builtin.append_ #[27, 27] 27 #[v, .slice (some a) 1 c]).run Tryd.prog w = .ok v' w' ∧ OwnsI w' v' (N ++ [x]) ∧ AppEnd w w' v v' ∧ (∀ C, v'.ownBlock = v.ownBlock → OwnsI C v' (N ++ [x]) → OwnsI C v N) := by
  obtain ⟨i, hi, hz, hsize, hby⟩ := info_parts infoInt
  have hnews : ∀ j u, ([.int .i64 x] : List Value)[j]? = some u → w.cell? (a.add j) = some u := fun j u hu => by
    cases j with
    | zero => simp at hu; subst hu; rw [← hx]; cases a; simp [Addr.add]
    | succ j => simp at hu
  have h1 : ∀ u ∈ ([.int .i64 x] : List Value), u.oneCell' = true := fun u hu => by simp at hu; subst hu; rfl
  obtain ⟨v', w', hr, h2, h3⟩ := run_append1 (P := Tryd.prog) w 27 27 3 i (.int .i64 0) 1 8 Tryd.underlying27 hi hz hsize hby rfl (by decide) v N.length _ hO a 1 c (by decide) [.int .i64 x] rfl hnews h1 (by unfold maxLen; omega) (by omega)
  refine ⟨v', w', hr, ownsI_succ h2, h3, fun C hb hC => ?_⟩
  rcases hO.2 with ⟨rfl, h0⟩ | ⟨g, cap, cur, rfl, hbg, hg, hnc, hcm, hcs, htake⟩
  · 
    have hN : N = [] := List.eq_nil_of_length_eq_zero h0
    subst hN
    exact OwnsI.nil C
  · by_cases hroom : N.length + 1 ≤ cap
    · have hfit : N.length * i.size + ([.int .i64 x] : List Value).length ≤ cur.size := by rw [hsize, hcs]; simp; omega
      have hq := run_append_room (P := Tryd.prog) w 27 27 3 i Tryd.underlying27 hi g N.length cap cur hg a 1 c [.int .i64 x] (by rw [hsize]; rfl) hnews h1 hroom hfit
      rw [hr] at hq
      injection hq with e1 e2
      subst e1
      obtain ⟨c1, c2⟩ := hC
      refine ⟨by simp, ?_⟩
      rcases c2 with ⟨hv, _⟩ | ⟨g', cap', cur', hv, hbg', hg', hnc', hcm', hcs', ht'⟩
      · cases hv
      · injection hv with q1 q2 q3
        subst q3
        injection q1 with q1
        injection q1 with q1
        subst q1
        refine .inr ⟨g, cap, cur', rfl, Nat.zero_le _, hg', hnc, hcm', hcs', ?_⟩
        have h9 : (cur'.toList.take (N.length + 1)).take N.length = ((N ++ [x]).map (Value.int .i64)).take N.length := by
          rw [← ht']
          simp
        rw [List.take_take, Nat.min_eq_left (Nat.le_succ _), List.map_append, List.take_left' (by simp)] at h9
        simpa using h9
    · exfalso
      rcases h3 with ⟨_, _, hgr⟩ | ⟨hb2, _⟩
      · have holds : ∀ j u, (N.map (Value.int .i64))[j]? = some u → w.cell? ((⟨g, 0, none⟩ : Addr).add j) = some u := World.ownsRow.cells hO (g := g) rfl
        have hq := run_append_grow (P := Tryd.prog) w 27 27 3 i (.int .i64 0) Tryd.underlying27 hi hz ⟨g, 0, none⟩ N.length cap (N.map (Value.int .i64)) (by rw [hsize]; simp) holds a 1 c [.int .i64 x] (by rw [hsize]; rfl) hnews (by omega) (by omega) (growslice_fits (by omega) (by rw [hby]; omega))
        rw [hr] at hq
        injection hq with e1 e2
        subst e1
        have hlt := rowLt hO (b := g) rfl
        simp [Value.ownBlock] at hb
        omega
      · rw [hb2] at hb
        have hlt := rowLt hO (b := g) rfl
        simp [Value.ownBlock] at hb
        omega
end Go.Proofs.YtdolibeceijnnaaDoor
namespace Go.Proofs.YtdolibeceijnnaaDoor
open Go.RowKit
def walkV (sb nb fb bb kb : Nat) : Value := .func (.func 37) #[] #[.pointer (some ⟨sb, 0, none⟩), .pointer (some ⟨nb, 0, none⟩), .pointer (some ⟨fb, 0, none⟩), .pointer (some ⟨bb, 0, none⟩), .pointer (some ⟨kb, 0, none⟩)]
structure EnvR (V : World) (n : Int) (l : List Stp) (a : Option Addr) (cap r sb nb fb bb kb : Nat) : Prop where
  s0 : V.cell? ⟨sb, 0, none⟩ = some (.int .i64 n)
  s1 : V.cell? ⟨sb, 1, none⟩ = some (.slice a l.length cap)
  n0 : V.cell? ⟨nb, 0, none⟩ = some (.int .i64 l.length)
  f0 : V.cell? ⟨fb, 0, none⟩ = some (.int .i64 r)
  seq : SeqG V a l
  top : V.heap.size ≤ bb
  kb : bb < kb
  r64 : r ≤ 64
structure StR (V w : World) (sb nb fb bb kb : Nat) : Prop where
  ext : Ext V w
  kk : w.cell? ⟨kb, 0, none⟩ = some (walkV sb nb fb bb kb)
  bc : ∃ u, w.cell? ⟨bb, 0, none⟩ = some u
  bf : w.frozen? ⟨bb, 0, none⟩ = false
theorem StR.below {V A B : World} {sb nb fb bb kb m : Nat} (h : StR V A sb nb fb bb kb) (hV : V.heap.size ≤ bb) (hb : bb < kb) (k : Below m A B) (hm : kb < m) : StR V B sb nb fb bb kb := by
  obtain ⟨u, hu⟩ := h.bc
  exact ⟨h.ext.trans' k (by omega), cellB k hm h.kk, ⟨u, cellB k (by show bb < m; omega) hu⟩, by
    rw [← h.bf]; exact World.frozen?_of_block (w := A) (a := ⟨bb, 0, none⟩) (Below.block k bb (by omega))⟩
theorem StR.put {V A : World} {sb nb fb bb kb : Nat} (h : StR V A sb nb fb bb kb) (hV : V.heap.size ≤ bb) (hb : bb < kb) (v : Value) : StR V (A.setCell ⟨bb, 0, none⟩ v) sb nb fb bb kb := by
  obtain ⟨u, hu⟩ := h.bc
  refine ⟨h.ext.set hV _, ?_, ⟨v, ?_⟩, by rw [World.frozen?_setCell]; exact h.bf⟩
  · rw [World.cell?_setCell_other _ _ _ _ (fun e => by simp only [Addr.mk.injEq] at e; omega)]; exact h.kk
  · rw [World.cell?_setCell_same _ _ _ hu]
def BestAt (w : World) (bb kb : Nat) (xs : List Nat) : Prop := ∃ v, w.cell? ⟨bb, 0, none⟩ = some v ∧ OwnsI w v (intsN xs) ∧ ∀ g, v.ownBlock = some g → kb < g
theorem BestAt.ext {A B : World} {bb kb : Nat} {xs : List Nat} (h : BestAt A bb kb xs) (k : Ext A B) : BestAt B bb kb xs := by
  obtain ⟨v, h1, h2, h3⟩ := h
  exact ⟨v, k.cell h1, h2.ext k, h3⟩
def WPost (V : World) (sb nb fb bb kb : Nat) (v : Value) (xs : List Nat) (R : Option (List Nat)) (w : World) (e : Ending) (w' : World) : Prop :=
  e = .returned (.bool R.isSome) ∧ StR V w' sb nb fb bb kb ∧ OwnsI w' v (intsN xs) ∧ (∀ ys, R = some ys → BestAt w' bb kb ys) ∧ Chg (fun g => g = bb ∨ v.ownBlock = some g) w w'
theorem wpost_none {V : World} {sb nb fb bb kb : Nat} {v : Value} {xs : List Nat} {R : Option (List Nat)} {w w' : World} (hR : R = none) (h1 : StR V w' sb nb fb bb kb) (h2 : OwnsI w' v (intsN xs)) (h3 : Chg (fun g => g = bb ∨ v.ownBlock = some g) w w') : WPost V sb nb fb bb kb v xs R w (.returned (.bool false)) w' :=
  ⟨by rw [hR]; rfl, h1, h2, fun ys hy => (by rw [hR] at hy; cases hy), h3⟩
theorem wpost_some {V : World} {sb nb fb bb kb : Nat} {v : Value} {xs ys : List Nat} {R : Option (List Nat)} {w w' : World} (hR : R = some ys) (h1 : StR V w' sb nb fb bb kb) (h2 : OwnsI w' v (intsN xs)) (hb : BestAt w' bb kb ys) (h3 : Chg (fun g => g = bb ∨ v.ownBlock = some g) w w') : WPost V sb nb fb bb kb v xs R w (.returned (.bool true)) w' :=
  ⟨by rw [hR]; rfl, h1, h2, fun zs hy => (by rw [hR] at hy; cases hy; exact hb), h3⟩
theorem chg_app {w A B C : World} {v v4 : Value} {bb : Nat} (h : Ext w A) (k : AppEnd A B v v4) (c : Chg (fun g => g = bb ∨ v4.ownBlock = some g) B C) : Chg (fun g => g = bb ∨ v.ownBlock = some g) w C := by
  obtain ⟨k1, k2, k3⟩ := k.chg
  refine ⟨Nat.le_trans h.size (Nat.le_trans k2 c.1), fun g hg hn => ?_⟩
  have hgA : g < A.heap.size := Nat.lt_of_lt_of_le hg h.size
  rw [c.2 g (Nat.lt_of_lt_of_le hgA k2) (fun e => ?_), k1 g hgA (fun e => hn (.inr e)), Below.block h g hg]
  rcases e with e | e
  · exact hn (.inl e)
  · rcases k3 g e with e | e
    · exact hn (.inr e)
    · omega
theorem own_back {A B C : World} {v v4 : Value} {N M : List Int} {bb : Nat} (hO : OwnsI A v N) (k : AppEnd A B v v4) (hb : ∀ g, v.ownBlock = some g → bb < g) (hold : v4.ownBlock = v.ownBlock → OwnsI C v4 M → OwnsI C v N) (h4 : OwnsI C v4 M) (c : Chg (fun g => g = bb ∨ v4.ownBlock = some g) B C) : OwnsI C v N := by
  by_cases he : v4.ownBlock = v.ownBlock
  · exact hold he h4
  · obtain ⟨k1, k2, k3⟩ := k.chg
    rcases k with ⟨h1, _, _⟩ | ⟨h1, hE⟩
    · exact absurd h1 he
    · refine rowSame (hO.ext hE) fun g hg => c.2 g (Nat.lt_of_lt_of_le (rowLt hO hg) hE.size) (fun e => ?_)
      have h2 := rowLt hO hg
      have h3 := hb g hg
      rcases e with e | e
      · omega
      · rw [h1] at e; cases e; omega
set_option maxHeartbeats 16000000 in
set_option maxRecDepth 100000 in
theorem walk_any {V : World} {n : Int} {l : List Stp} {a : Option Addr} {cap r sb nb fb bb kb : Nat} (hE : EnvR V n l a cap r sb nb fb bb kb) : ∀ (f : Nat) (xs : List Nat) (v : Value) (w : World),
    StR V w sb nb fb bb kb → OwnsI w v (intsN xs) → (∀ g, v.ownBlock = some g → kb < g) → 0 < xs.length → xs.length ≤ xs.getLastD 0 + 1 → xs.headD 0 ≤ xs.getLastD 0 → xs.getLastD 0 < l.length → l.length - xs.getLastD 0 ≤ f →
    Calls Tryd.prog 37 #[v, .pointer (some ⟨sb, 0, none⟩), .pointer (some ⟨nb, 0, none⟩), .pointer (some ⟨fb, 0, none⟩), .pointer (some ⟨bb, 0, none⟩), .pointer (some ⟨kb, 0, none⟩)] w
      (WPost V sb nb fb bb kb v xs (wlkS (okF (cyc l)) l.length r f xs) w) := by
  intro f
  induction f with
  | zero => intro xs v w _ _ _ _ _ _ h1 h2; omega
  | succ f ih =>
    intro xs v w hs ho hvb hx0 hxl hhd hlt hf
    have IH := Lib.hid ih
    have HE := Lib.hid hE
    have HS := Lib.hid hs
    have HO := Lib.hid ho
    have HVB := Lib.hid hvb
    obtain ⟨R, hR⟩ : ∃ R, R = wlkS (okF (cyc l)) l.length r (f + 1) xs := ⟨_, rfl⟩
    rw [← hR]
    have HOK := Lib.hid (okF_her (cyc l))
    generalize hokd : okF (cyc l) = ok at HOK hR
    have HD := Lib.hid hokd
    unfold wlkS at hR
    have HR := Lib.hid hR
    have hl64 := hE.seq.len
    have hl0 := hE.seq.pos
    clear ih hs ho hvb hR hokd
    obtain ⟨last, hla⟩ : ∃ last, last = xs.getLastD 0 := ⟨_, rfl⟩
    obtain ⟨hd, hhdd⟩ : ∃ hd, hd = xs.headD 0 := ⟨_, rfl⟩
    rw [← hla] at hlt hf hhd hxl HR
    rw [← hhdd] at hhd HR
    obtain ⟨i0, hi, hi0, hi1, hi2⟩ := info_parts infoInt
    obtain ⟨va, vc, hv, hvc, hvr⟩ := HO.out.reads
    rw [intsN_len] at hv
    obtain ⟨L, hL⟩ : ∃ L, L = xs.length := ⟨_, rfl⟩
    rw [← hL] at hv hx0 hxl HR
    obtain ⟨p, hp⟩ : ∃ p, p + 1 = L := ⟨L - 1, by omega⟩
    have hpL : p < L := by omega
    have hL64 : L ≤ 64 := by omega
    obtain ⟨vb, vo, hva, e1⟩ := hvc p (by rw [intsN_len]; omega)
    obtain ⟨_, _, hva2, e0⟩ := hvc 0 (by rw [intsN_len]; omega)
    rw [hva] at hva2
    cases hva2
    have hxe : xs.getD p 0 = last := by
      rw [hla, show p = xs.length - 1 by omega, List.getLastD_eq_getLast?, List.getLast?_eq_getElem?, List.getD_eq_getElem?_getD]
    have hxh : xs.getD 0 0 = hd := by rw [hhdd]; cases xs <;> rfl
    rw [intsN_get, hxe] at e1
    rw [intsN_get, hxh, Nat.add_zero] at e0
    have HV := Lib.hid hv
    have HLA := Lib.hid hla
    have HHD := Lib.hid hhdd
    have HL := Lib.hid hL
    subst hv
    subst hva
    clear hvc hvr hxe hxh hla hhdd hL
    have s0 := HS.out.ext.cell HE.out.s0
    have s1 := HS.out.ext.cell HE.out.s1
    have n0 := HS.out.ext.cell HE.out.n0
    have f0 := HS.out.ext.cell HE.out.f0
    have z0 := cell_lt s0
    have z1 := cell_lt n0
    have z2 := cell_lt f0
    have z3 := cell_lt e1
    dsimp only at z0 z1 z2 z3
    have u2 : IntKind.i64.wrap ((L : Int) - 1) = (p : Int) := by rw [IntWalk.i64_in _ (by omega)]; omega
    have u3 : IntKind.i64.wrap ((hd : Int) + (l.length : Int)) = ((hd + l.length : Nat) : Int) := by rw [IntWalk.i64_in _ (by omega)]; omega
    have HND := Lib.hid (fun W' hs => needed_any n l a cap last (hd + l.length) W' (by omega) (by omega) hs)
    rw [HD.out] at HND
    obtain ⟨N, hN⟩ : ∃ N, N = needS ok (hd + l.length) (hd + l.length - last) last := ⟨_, rfl⟩
    rw [← hN] at HND HR
    have hN2 : N ≤ 200 := by
      have h1 := need_greedy HOK.out (b := hd + l.length) (hd + l.length - last) last (Nat.le_refl _) (by omega)
      have h2 : ∀ {a b k : Nat}, Greedy ok a b k → k ≤ b - a := by
        intro a b k h
        induction h with
        | nil => omega
        | cons g1 g2 g3 g4 ih => have := g4.div.le; omega
      have := h2 h1
      omega
    clear hN
    have u4 : IntKind.i64.wrap ((p : Int) + (N : Int)) = ((p + N : Nat) : Int) := by rw [IntWalk.i64_in _ (by omega)]; omega
    go_enter Tryd.func37, Tryd.ntmps37
    go_wp2
    go_region_held3 (fun w' => Sees w w') ((repeat (first | exact Sees.refl _ | assumption | apply Sees.drew | apply Sees.alloc | (refine Sees.ext ?_ (by assumption))))) (first | (go_at_call 38; refine (HND.out _ (HE.out.seq.ext (HS.out.ext.trans (by exact (show Sees w _ by assumption).2.2)))).mono ?_; rintro e w' ⟨rfl, hE⟩))
    have F := (show Sees w _ by assumption).2.2
    generalize w' = w1 at F ⊢
    by_cases hrn : r < p + N
    · have HRN : Hid (R = none) := by show _ = _; rw [HR.out, if_pos (by omega)]
      go_wp2
      go_ret
      exact wpost_none HRN.out (HS.out.below HE.out.top HE.out.kb F (cell_lt HS.out.kk)) (HO.out.ext F) (Chg.ext F)
    have HR2 : Hid (R = if xs.length = r then some xs else tryS ok last (fun k => wlkS ok l.length r f (xs ++ [k])) (l.length - (last + 1)) (last + 1)) := by
      show _ = _
      rw [HR.out, if_neg (by omega), HL.out]
    clear HR
    have S1 : Hid (StR V w1 sb nb fb bb kb) := HS.out.below HE.out.top HE.out.kb F (cell_lt HS.out.kk)
    have O1 := Lib.hid (HO.out.ext F)
    have f0 := F.cell f0
    have n0 := F.cell n0
    have e1 := F.cell e1
    by_cases hLr : L = r
    · have HRS : Hid (R = some xs) := by show _ = _; rw [HR2.out, if_pos (by have := HL.out; omega)]
      subst hLr
      obtain ⟨u, hu⟩ := S1.out.bc
      have hbf := S1.out.bf
      have hcl := CloneI_any (intsN xs) vb vo vc w1 (by rw [intsN_len]; have := HL.out; omega) (by rw [intsN_len]; have := HL.out; omega)
      rw [intsN_len, ← HL.out] at hcl
      have HCL := Lib.hid hcl
      clear hcl
      obtain ⟨_, _, hq, hqc, _⟩ := O1.out.reads
      injection hq with q1 q2 q3
      subst q1
      have HQC := Lib.hid hqc
      have z4 := cell_lt hu
      clear hqc q2 q3
      go_wp2_with fail
      refine (HCL.out HQC.out).mono ?_
      rintro e w2 ⟨v2, rfl, hO2, hb2, hE2⟩
      have hu2 := hE2.cell hu
      have hbf2 := (Below.frozen (p := ⟨bb, 0, none⟩) hE2 (cell_lt hu)).trans hbf
      have z5 := cell_lt hu2
      dsimp only at z5
      have HO2 := Lib.hid hO2
      have HB2 := Lib.hid hb2
      obtain ⟨wa, wc, rfl, _, _⟩ := hO2.reads
      clear hO2 hb2 hu hbf
      go_wp2
      go_ret
      have S2 : StR V w2 sb nb fb bb kb := S1.out.below HE.out.top HE.out.kb hE2 (cell_lt S1.out.kk)
      have hc2 : Chg (fun g => g = bb) w2 (w2.setCell ⟨bb, 0, none⟩ (.slice wa (intsN xs).length wc)) := Chg.setCell (B := fun g => g = bb) ⟨bb, 0, none⟩ _ rfl
      have hkk := cell_lt S1.out.kk
      have hbk := HE.out.kb
      refine wpost_some HRS.out (S2.put HE.out.top HE.out.kb _) ?_ ⟨.slice wa (intsN xs).length wc, World.cell?_setCell_same _ _ _ hu2, ?_, ?_⟩ ?_
      · exact rowSame (O1.out.ext hE2) fun g hg => hc2.2 g (rowLt (O1.out.ext hE2) hg) (by have := HVB.out g hg; omega)
      · exact rowSame HO2.out fun g hg => hc2.2 g (rowLt HO2.out hg) (by have := HB2.out g hg; dsimp only at hkk; omega)
      · intro g hg; have := HB2.out g hg; dsimp only at hkk; omega
      · exact (Chg.ext (F.trans hE2)).trans (hc2.mono fun g hg => .inl hg)
    have HT : Hid (R = tryS ok last (fun k => wlkS ok l.length r f (xs ++ [k])) (l.length - (last + 1)) (last + 1)) := by
      show _ = _
      rw [HR2.out, if_neg (by have := HL.out; omega)]
    clear HR2
    obtain ⟨G, hG⟩ : ∃ G, G = fun k => wlkS ok l.length r f (xs ++ [k]) := ⟨_, rfl⟩
    rw [← hG] at HT
    have HG := Lib.hid hG
    clear hG
    have hne : ((L : Int) == (r : Int)) = false := beq_eq_false_iff_ne.2 (by omega)
    have u5 : IntKind.i64.wrap ((last : Int) + 1) = ((last + 1 : Nat) : Int) := by rw [IntWalk.i64_in _ (by omega)]; omega
    go_wp2
    go_loopw [9] (fun s wr => ∃ k : Nat, last + 1 ≤ k ∧ k ≤ l.length ∧ s = .int .i64 k ∧ Hid (R = tryS ok last G (l.length - k) k ∧ StR V wr sb nb fb bb kb ∧ OwnsI wr (.slice (some ⟨vb, vo, none⟩) L vc) (intsN xs) ∧ Chg (fun g => g = bb ∨ (Value.slice (some ⟨vb, vo, none⟩) L vc).ownBlock = some g) w wr)) (fun s _ => l.length - (intOf s).toNat)
    case atStart => exact ⟨last + 1, Nat.le_refl _, by omega, rfl, HT.out, S1.out, O1.out, Chg.ext F⟩
    case round =>
      clear s0 s1 n0 f0 e0 e1 z0 z1 z2 z3 u2 u3 u4 hne
      obtain ⟨k, hk1, hk2, rfl, hst⟩ := hrel
      have n0 := hst.out.2.1.ext.cell HE.out.n0
      by_cases hk : k < l.length
      · have s0 := hst.out.2.1.ext.cell HE.out.s0
        have s1 := hst.out.2.1.ext.cell HE.out.s1
        have HON := Lib.hid (fun W' hs => once_any n l a cap last (k - last) W' (by omega) (by omega) hs)
        rw [show last + (k - last) = k by omega, HD.out] at HON
        have u6 : IntKind.i64.wrap ((k : Int) - (last : Int)) = ((k - last : Nat) : Int) := by rw [IntWalk.i64_in _ (by omega)]; omega
        obtain ⟨q, hq⟩ : ∃ q, ok last k = q := ⟨_, rfl⟩
        rw [hq] at HON
        have HQ := Lib.hid hq
        clear hq
        go_wp2_with fail
        refine (HON.out _ (HE.out.seq.ext hst.out.2.1.ext)).mono ?_
        rintro e w2 ⟨⟨m, rfl⟩, hE2⟩
        have ST : Hid (R = tryS ok last G (l.length - k) k ∧ StR V w2 sb nb fb bb kb ∧ OwnsI w2 (.slice (some ⟨vb, vo, none⟩) L vc) (intsN xs) ∧ Chg (fun g => g = bb ∨ (Value.slice (some ⟨vb, vo, none⟩) L vc).ownBlock = some g) w w2) :=
          ⟨hst.out.1, hst.out.2.1.below HE.out.top HE.out.kb hE2 (cell_lt hst.out.2.1.kk), hst.out.2.2.1.ext hE2, hst.out.2.2.2.trans (Chg.ext hE2)⟩
        clear s0 s1 n0 hst hE2 HON
        cases q
        · have HRN : Hid (R = none) := by
            show _ = _
            rw [ST.out.1, show l.length - k = (l.length - k - 1) + 1 by omega]
            unfold tryS
            rw [if_neg (by rw [HQ.out]; simp)]
          go_wp2
          go_ret
          exact wpost_none HRN.out ST.out.2.1 ST.out.2.2.1 ST.out.2.2.2
        · have htry : R = match G k with | some x => some x | none => tryS ok last G (l.length - (k + 1)) (k + 1) := by
            rw [ST.out.1, show l.length - k = (l.length - (k + 1)) + 1 by omega]
            conv => lhs; unfold tryS
            rw [if_pos HQ.out]
            cases G k <;> rfl
          obtain ⟨R2, hR2⟩ : ∃ R2, R2 = G k := ⟨_, rfl⟩
          rw [← hR2] at htry
          have HTY := Lib.hid htry
          have HIH : Hid (∀ (v4 : Value) (w4 : World), StR V w4 sb nb fb bb kb → OwnsI w4 v4 (intsN (xs ++ [k])) → (∀ g, v4.ownBlock = some g → kb < g) → Calls Tryd.prog 37 #[v4, .pointer (some ⟨sb, 0, none⟩), .pointer (some ⟨nb, 0, none⟩), .pointer (some ⟨fb, 0, none⟩), .pointer (some ⟨bb, 0, none⟩), .pointer (some ⟨kb, 0, none⟩)] w4 (WPost V sb nb fb bb kb v4 (xs ++ [k]) R2 w4)) := by
            intro v4 w4 h1 h2 h3
            have hgl : (xs ++ [k]).getLastD 0 = k := by simp
            have hgh : (xs ++ [k]).headD 0 = hd := by
              rw [HHD.out]
              cases hxs : xs with
              | nil => have := HL.out; rw [hxs] at this; simp at this; omega
              | cons => rfl
            have := IH.out (xs ++ [k]) v4 w4 h1 h2 h3 (by simp) (by rw [hgl, List.length_append, List.length_singleton]; have := HL.out; omega) (by rw [hgl, hgh]; omega) (by rw [hgl]; exact hk) (by rw [hgl]; omega)
            rw [hR2, HG.out]
            rwa [HD.out] at this
          clear htry hR2
          go_wp2
          refine wp_region_heldE 5 (fun w' => w'.cell? ⟨kb, 0, none⟩ = some (walkV sb nb fb bb kb)) (by kernel_rfl) ?_
          have ED : Ext w2 w2.drew := extA
          have hS : w2.drew.cell? ⟨kb, 0, none⟩ = some (walkV sb nb fb bb kb) := ED.cell ST.out.2.1.kk
          have zk := cell_lt hS
          dsimp only at zk
          generalize w2.drew = W2 at ED hS zk ⊢
          (refine eTk 0 ?_)
          ((refine ePu 1 ?_); (refine ePu 2 ?_))
          have E3 : Ext W2 (W2.alloc (.cells #[.int .i64 (k : Int)] 3)) := extA
          (refine wpAnyE_one (i := 3) (o := ?_) ?_ (by kernel_rfl) (fun K hK => ?_); rotate_left; (focus ((simp only [List.getElem?_toArray, List.getElem?_cons_succ, List.getElem?_cons_zero]; exact rfl))); go_simp; refine hK.out _ _ ?_ (fun hHeld => ?_); rotate_left; clear hK K; (try simp only [Act.put, List.setIfInBounds_toArray, List.set_cons_zero, List.set_cons_succ]))
          rotate_left
          · exact E3.cell hS
          have hkk := cell_lt ST.out.2.1.kk
          dsimp only at hkk
          have hbk := HE.out.kb
          have EW : Ext w2 (W2.alloc (.cells #[.int .i64 (k : Int)] 3)) := ED.trans E3
          have OW := ST.out.2.2.1.ext EW
          have hcx : (W2.alloc (.cells #[.int .i64 (k : Int)] 3)).cell? ⟨W2.heap.size, 0, none⟩ = some (.int .i64 (k : Int)) := by go_simp
          obtain ⟨v4, w4, hr4, hO4, hend4, hold4⟩ := run_appI _ _ (intsN xs) (k : Int) OW (by rw [intsN_len]; have := HL.out; omega) ⟨W2.heap.size, 0, none⟩ 1 hcx
          have hO4' : OwnsI w4 v4 (intsN (xs ++ [k])) := by unfold intsN at hO4 ⊢; rw [List.map_append]; exact hO4
          have hesz := EW.size
          have B4 := hend4.below (n := kb + 1) (by omega) (fun g hg => HVB.out g hg)
          have hge4 := hend4.ge (n := kb + 1) (by omega) (fun g hg => HVB.out g hg)
          have S4 : StR V w4 sb nb fb bb kb := (ST.out.2.1.below HE.out.top HE.out.kb EW (cell_lt ST.out.2.1.kk)).below HE.out.top HE.out.kb B4 (Nat.lt_succ_self _)
          have HR4 := Lib.hid hr4
          have HO4 := Lib.hid hO4'
          have HW4 := Lib.hid (And.intro OW (And.intro hend4 hold4))
          have HS4 := Lib.hid S4
          have HGE := Lib.hid hge4
          have HEW := Lib.hid EW
          clear hr4 hO4 hO4' hend4 hold4 OW S4 hge4 B4 hcx hesz
          (refine wpAnyE_one (i := 4) (o := ?_) ?_ (by kernel_rfl) (fun K hK => ?_); rotate_left; (focus ((simp only [List.getElem?_toArray, List.getElem?_cons_succ, List.getElem?_cons_zero]; exact rfl))); refine step_append_run rfl _ _ 27 27 rfl (.slice (some ⟨vb, vo, none⟩) L vc) (.slice (some ⟨W2.heap.size, 0, none⟩) 1 1) rfl rfl _ _ HR4.out ?_; refine hK.out _ _ ?_ (fun hHeld => ?_); rotate_left; clear hK K; (try simp only [Act.put, List.setIfInBounds_toArray, List.set_cons_zero, List.set_cons_succ]))
          rotate_left
          · exact HS4.out.kk
          (refine wpAnyE_free (i := 5) (o := ?_) ?_ (by kernel_rfl) (by kernel_rfl) (fun K hK => ?_); rotate_left; (focus ((simp only [List.getElem?_toArray, List.getElem?_cons_succ, List.getElem?_cons_zero]; exact rfl))); go_simp; refine (HIH.out _ _ HS4.out HO4.out (fun g hg => HGE.out g hg)).mono ?_; rintro e w5 ⟨rfl, hs5, ho5, hb5, hc5⟩; go_wp2_with fail; refine hK.out _ _ ?_; clear hK K; (try simp only [Act.put, List.setIfInBounds_toArray, List.set_cons_zero, List.set_cons_succ]))
          refine wpAnyE_done (by kernel_rfl) ?_ _
          have S5 := Lib.hid hs5
          have OB := Lib.hid (own_back HW4.out.1 HW4.out.2.1 (bb := bb) (fun g hg => by have := HVB.out g hg; omega) (fun h1 h2 => HW4.out.2.2 w5 h1 (by have h3 := h2; unfold intsN at h3 ⊢; rw [List.map_append] at h3; exact h3)) ho5 hc5)
          have HB5 := Lib.hid hb5
          have HC5 := Lib.hid (ST.out.2.2.2.trans (chg_app HEW.out HW4.out.2.1 hc5))
          clear hs5 ho5 hb5 hc5
          cases R2 with
          | none =>
            go_wp2
            refine ⟨⟨k + 1, by omega, by omega, by go_num, HTY.out, S5.out, OB.out, HC5.out⟩, by simp [intOf]; omega⟩
          | some ys =>
            have HRS : Hid (R = some ys) := HTY
            go_wp2
            go_ret
            exact wpost_some HRS.out S5.out OB.out (HB5.out ys rfl) HC5.out
      · have HRN : Hid (R = none) := by
          show _ = _
          rw [hst.out.1, show l.length - k = 0 by omega]
          rfl
        go_wp2
        go_ret
        exact wpost_none HRN.out hst.out.2.1 hst.out.2.2.1 hst.out.2.2.2
end Go.Proofs.YtdolibeceijnnaaDoor
namespace Go.Proofs.YtdolibeceijnnaaDoor
open Go.RowKit
theorem seqG_of {w : World} {n : Int} {l : List Stp} {a : Option Addr} (hk : ckSeq (n, l) = 0) (hc : CellsP w a l) (hG : GBits w) : SeqG w a l := by
  have h := ckSeq_right hk
  refine ⟨hc, fun x hx y hy => ?_, h.len.1, h.len.2, hG⟩
  have h1 := (h.fine x hx).2 y hy
  have h2 := h.act
  unfold In at h1
  omega
def elseO (R S : Option (List Nat)) : Option (List Nat) := match R with
  | some x => some x
  | none => S
theorem first_succ (g : Nat → Option (List Nat)) (c k : Nat) : firstS g (c + 1) k = elseO (g k) (firstS g c (k + 1)) := by
  conv => lhs; unfold firstS
  cases g k <;> rfl
set_option maxHeartbeats 8000000 in
set_option maxRecDepth 100000 in
theorem Fewest_any (n : Int) (l : List Stp) (a : Option Addr) (cap : Nat) (w : World) (hk : ckSeq (n, l) = 0) (hG : GBits w) (hc : CellsP w a l) :
    Calls Tryd.prog 12 #[.agg #[.int .i64 n, .slice a l.length cap]] w (IntsPost (intsN (longS (okF (cyc l)) l.length 0)) 0 w) := by
  have HS := Lib.hid (seqG_of hk hc hG)
  have HCK := Lib.hid (fun W h => Check_any n l a cap W (by have := (ckSeq_right hk).len; unfold maxLen; omega) h)
  rw [hk] at HCK
  have HLN := Lib.hid (fun W h => longest_any n l a cap 0 W (by omega) h)
  clear hk hG hc
  generalize longS (okF (cyc l)) l.length 0 = L at HLN ⊢
  go_enter Tryd.func12, Tryd.ntmps12
  go_wp2_with fail
  have E1 : Ext w (w.alloc (.cells #[.int .i64 n, .slice a l.length cap] 24)) := extA
  have c0 : ((w.alloc (.cells #[.int .i64 n, .slice a l.length cap] 24))).cell? ⟨w.heap.size, 0, none⟩ = some (.int .i64 n) := by go_simp
  have c1 : ((w.alloc (.cells #[.int .i64 n, .slice a l.length cap] 24))).cell? ⟨w.heap.size, 1, none⟩ = some (.slice a l.length cap) := by go_simp
  obtain ⟨bs, hbs⟩ : ∃ bs, bs = w.heap.size := ⟨_, rfl⟩
  rw [← hbs] at c0 c1 ⊢
  clear hbs
  generalize (w.alloc (.cells #[.int .i64 n, .slice a l.length cap] 24)) = W at E1 c0 c1 ⊢
  refine (HCK.out _ (HS.out.ext E1).cells).mono ?_
  rintro e w1 ⟨rfl, hE⟩
  have F1 := E1.trans hE
  have c0 := hE.cell c0
  have c1 := hE.cell c1
  go_wp2_with fail
  refine (HLN.out _ (HS.out.ext F1)).mono ?_
  rintro e w2 ⟨v, rfl, hO, hb, hE2⟩
  obtain ⟨ra, rc, rfl, hrc, hrl⟩ := hO.reads
  go_wp2
  go_ret2
  exact ⟨ra, rc, rfl, hrc, hrl, F1.trans hE2⟩
set_option maxHeartbeats 16000000 in
set_option maxRecDepth 100000 in
theorem Ring_any (n : Int) (l : List Stp) (a : Option Addr) (cap : Nat) (w : World) (hk : ckSeq (n, l) = 0) (hG : GBits w) (hc : CellsP w a l) :
    Calls Tryd.prog 13 #[.agg #[.int .i64 n, .slice a l.length cap]] w (IntsPost (intsN (ringS (okF (cyc l)) l.length)) 0 w) := by
  have HS := Lib.hid (seqG_of hk hc hG)
  have HCK := Lib.hid (fun W h => Check_any n l a cap W (by have := (ckSeq_right hk).len; unfold maxLen; omega) h)
  rw [hk] at HCK
  have hl0 := HS.out.pos
  have hl64 := HS.out.len
  obtain ⟨RS, hRS⟩ : ∃ RS, RS = ringS (okF (cyc l)) l.length := ⟨_, rfl⟩
  rw [← hRS]
  have HRS := Lib.hid hRS
  clear hk hG hc hRS
  go_enter Tryd.func13, Tryd.ntmps13
  go_wp2_with fail
  have E1 : Ext w (w.alloc (.cells #[.int .i64 n, .slice a l.length cap] 24)) := extA
  have c0 : ((w.alloc (.cells #[.int .i64 n, .slice a l.length cap] 24))).cell? ⟨w.heap.size, 0, none⟩ = some (.int .i64 n) := by go_simp
  have c1 : ((w.alloc (.cells #[.int .i64 n, .slice a l.length cap] 24))).cell? ⟨w.heap.size, 1, none⟩ = some (.slice a l.length cap) := by go_simp
  obtain ⟨bs, hbs⟩ : ∃ bs, bs = w.heap.size := ⟨_, rfl⟩
  rw [← hbs] at c0 c1 ⊢
  clear hbs
  generalize (w.alloc (.cells #[.int .i64 n, .slice a l.length cap] 24)) = W at E1 c0 c1 ⊢
  refine (HCK.out _ (HS.out.ext E1).cells).mono ?_
  rintro e w1 ⟨rfl, hE⟩
  have F1 := E1.trans hE
  have c0 := hE.cell c0
  have c1 := hE.cell c1
  have z1 := cell_lt c1
  dsimp only at z1
  clear hE E1 HCK
  go_wp2
  have E2 : Ext w1 (w1.alloc (.cells #[.int .i64 l.length] 3)) := extA
  have E3 : Ext (w1.alloc (.cells #[.int .i64 l.length] 3)) ((w1.alloc (.cells #[.int .i64 l.length] 3)).alloc (.cells #[.int .i64 l.length] 3)) := extA
  have n0 : ((w1.alloc (.cells #[.int .i64 l.length] 3))).cell? ⟨w1.heap.size, 0, none⟩ = some (.int .i64 l.length) := by go_simp
  have f0 : (((w1.alloc (.cells #[.int .i64 l.length] 3)).alloc (.cells #[.int .i64 l.length] 3))).cell? ⟨w1.heap.size + 1, 0, none⟩ = some (.int .i64 l.length) := by go_simp
  have ff : (((w1.alloc (.cells #[.int .i64 l.length] 3)).alloc (.cells #[.int .i64 l.length] 3))).frozen? ⟨w1.heap.size + 1, 0, none⟩ = false := by go_simp
  have hva : ((w1.alloc (.cells #[.int .i64 l.length] 3))).heap.size = w1.heap.size + 1 := Array.size_push _
  obtain ⟨nb, hnb⟩ : ∃ nb, nb = w1.heap.size := ⟨_, rfl⟩
  obtain ⟨fb, hfb⟩ : ∃ fb, fb = nb + 1 := ⟨_, rfl⟩
  rw [← hnb, ← hfb] at hva f0 ff
  rw [← hnb] at n0
  rw [← hnb, ← hfb]
  generalize ((w1.alloc (.cells #[.int .i64 l.length] 3)).alloc (.cells #[.int .i64 l.length] 3)) = VB at E3 f0 ff ⊢
  generalize (w1.alloc (.cells #[.int .i64 l.length] 3)) = VA at E2 E3 n0 hva ⊢
  have F2 := F1.trans E2
  have s0 := E2.cell c0
  have s1 := E2.cell c1
  have HVA := Lib.hid (Nat.le_of_eq hva)
  have HS2 := Lib.hid (HS.out.ext F2)
  clear c0 c1 z1 hva E2 F1 hnb hfb
  go_loopw [21] (fun s wr => ∃ k m : Nat, k ≤ l.length ∧ s = .int .i64 k ∧ m ≤ 64 ∧ Hid (fewS (okF (cyc l)) l.length (l.length - k) k m = minS (okF (cyc l)) l.length) ∧ Ext VA wr ∧ wr.cell? ⟨fb, 0, none⟩ = some (.int .i64 m) ∧ wr.frozen? ⟨fb, 0, none⟩ = false) (fun s _ => l.length - (intOf s).toNat)
  case atStart => exact ⟨0, l.length, Nat.zero_le _, rfl, hl64, rfl, E3, f0, ff⟩
  case round =>
    clear f0 ff E3
    obtain ⟨k, m, hk, rfl, hm, hfw, he, f0, ff⟩ := hrel
    have d0 := he.cell s0
    have d1 := he.cell s1
    have zf := cell_lt f0
    have zs := cell_lt d0
    dsimp only at zf zs
    by_cases hlt : k < l.length
    · have hfw2 : fewS (okF (cyc l)) l.length (l.length - (k + 1)) (k + 1) (min m (longS (okF (cyc l)) l.length k).length) = minS (okF (cyc l)) l.length := by
        have h1 := hfw.out
        rw [show l.length - k = (l.length - (k + 1)) + 1 by omega] at h1
        exact h1
      have HLN := Lib.hid (fun W h => longest_any n l a cap k W (by omega) h)
      have hlen : (longS (okF (cyc l)) l.length k).length ≤ 64 := Nat.le_trans (long_len (okF_her _) hl0) hl64
      obtain ⟨L, hL⟩ : ∃ L, L = longS (okF (cyc l)) l.length k := ⟨_, rfl⟩
      rw [← hL] at HLN hfw2 hlen
      have HFW := Lib.hid hfw2
      clear hL hfw hfw2
      go_wp2
      refine wp_region_heldE 6 (fun w' => w'.cell? ⟨fb, 0, none⟩ = some (.int .i64 m) ∧ w'.frozen? ⟨fb, 0, none⟩ = false ∧ w'.cell? ⟨bs, 0, none⟩ = some (.int .i64 n) ∧ w'.cell? ⟨bs, 1, none⟩ = some (.slice a l.length cap)) (by kernel_rfl) ?_
      have ED : Ext wr wr.drew := extA
      have hS : wr.drew.cell? ⟨fb, 0, none⟩ = some (.int .i64 m) ∧ wr.drew.frozen? ⟨fb, 0, none⟩ = false ∧ wr.drew.cell? ⟨bs, 0, none⟩ = some (.int .i64 n) ∧ wr.drew.cell? ⟨bs, 1, none⟩ = some (.slice a l.length cap) := ⟨ED.cell f0, by rw [← ff]; rfl, ED.cell d0, ED.cell d1⟩
      have zf := cell_lt hS.1
      dsimp only at zf
      clear f0 ff d0 d1 zs
      generalize wr.drew = W2 at ED hS zf ⊢
      ((refine eTk 0 ?_); (refine eTk 1 ?_))
      (refine ePu 2 ?_)
      (refine wpAnyE_one (i := 3) (o := ?_) ?_ (by kernel_rfl) (fun K hK => ?_); rotate_left; (focus ((simp only [List.getElem?_toArray, List.getElem?_cons_succ, List.getElem?_cons_zero]; exact rfl))); go_simp; refine (HLN.out _ (HS2.out.ext (he.trans ED))).mono ?_; rintro e w3 ⟨v, rfl, hO, hvb, hE3⟩; obtain ⟨ra, rc, rfl, _, _⟩ := hO.reads; rw [intsN_len]; go_wp2_with fail; refine hK.out _ _ ?_ (fun hHeld => ?_); rotate_left; clear hK K; (try simp only [Act.put, List.setIfInBounds_toArray, List.set_cons_zero, List.set_cons_succ]))
      rotate_left
      · exact ⟨hE3.cell hS.1, (Below.frozen (p := ⟨fb, 0, none⟩) hE3 zf).trans hS.2.1, hE3.cell hS.2.2.1, hE3.cell hS.2.2.2⟩
      have F3 := he.trans (ED.trans hE3)
      ((refine ePu 4 ?_); (refine ePu 5 ?_))
      have hH : w3.cell? ⟨fb, 0, none⟩ = some (.int .i64 m) ∧ w3.frozen? ⟨fb, 0, none⟩ = false ∧ w3.cell? ⟨bs, 0, none⟩ = some (.int .i64 n) ∧ w3.cell? ⟨bs, 1, none⟩ = some (.slice a l.length cap) := by assumption
      have zf3 := cell_lt hH.1
      dsimp only at zf3
      (refine wpAnyE_free (i := 6) (o := ?_) ?_ (by kernel_rfl) (by kernel_rfl) (fun K hK => ?_); rotate_left; (focus ((simp only [List.getElem?_toArray, List.getElem?_cons_succ, List.getElem?_cons_zero]; exact rfl))); go_simp; refine hK.out _ _ ?_; clear hK K; (try simp only [Act.put, List.setIfInBounds_toArray, List.set_cons_zero, List.set_cons_succ]))
      refine wpAnyE_done (by kernel_rfl) ?_ _
      go_wp2
      refine ⟨⟨k + 1, min m L.length, by omega, by go_num, by omega, HFW.out, F3.set (by have := HVA.out; omega) _, ?_, by rw [World.frozen?_setCell]; exact hH.2.1⟩, by simp [intOf]; omega⟩
      rw [World.cell?_setCell_same _ _ _ hH.1]
      congr 2
      (try split) <;> omega
    · have hke : k = l.length := by omega
      subst hke
      have hm0 : m = minS (okF (cyc l)) l.length := by
        have h1 := hfw.out
        rw [Nat.sub_self] at h1
        exact h1
      have HM := Lib.hid hm0
      clear hfw hm0 hlt
      have HSV := Lib.hid (HS2.out.ext he)
      have n0 := he.cell n0
      have F2 := F2.trans he
      have hkb : wr.heap.size < wr.heap.size + 1 := Nat.lt_succ_self _
      have HEN : Hid (∀ V bb kb, Ext wr V → V.heap.size ≤ bb → bb < kb → EnvR V n l a cap m bs nb fb bb kb) := fun V bb kb hV h1 h2 =>
        ⟨hV.cell d0, hV.cell d1, hV.cell n0, hV.cell f0, HSV.out.ext hV, h1, h2, hm⟩
      have zn := cell_lt n0
      dsimp only at zn
      clear he HS2 s0 s1 HVA HS
      go_wp2
      have EW : Ext wr ((wr.alloc (.cells #[.slice none 0 0] 27)).alloc (.cells #[walkV bs nb fb wr.heap.size (wr.heap.size + 1)] 73)) := extA
      have SW : Hid (StR wr ((wr.alloc (.cells #[.slice none 0 0] 27)).alloc (.cells #[walkV bs nb fb wr.heap.size (wr.heap.size + 1)] 73)) bs nb fb wr.heap.size (wr.heap.size + 1)) := ⟨EW, by go_simp, ⟨.slice none 0 0, by go_simp⟩, by go_simp⟩
      unfold walkV at SW
      obtain ⟨bb, hbb⟩ : ∃ bb, bb = wr.heap.size := ⟨_, rfl⟩
      rw [← hbb] at SW ⊢
      have HEV := Lib.hid (HEN.out wr bb (bb + 1) (Ext.refl _) (Nat.le_of_eq hbb.symm) (Nat.lt_succ_self _))
      have HBB := Lib.hid hbb
      clear hbb EW HEN f0 ff d0 d1 n0 zf zs zn hkb
      generalize ((wr.alloc (.cells #[.slice none 0 0] 27)).alloc (.cells #[.func (.func 37) #[] #[.pointer (some ⟨bs, 0, none⟩), .pointer (some ⟨nb, 0, none⟩), .pointer (some ⟨fb, 0, none⟩), .pointer (some ⟨bb, 0, none⟩), .pointer (some ⟨bb + 1, 0, none⟩)]] 73)) = VW at SW ⊢
      obtain ⟨G, hG⟩ : ∃ G, G = fun x => wlkS (okF (cyc l)) l.length m l.length [x] := ⟨_, rfl⟩
      have hfs : ∃ ys, firstS G l.length 0 = some ys ∧ RS = ys := by
        have h1 := HRS.out
        unfold ringS at h1
        rw [← HM.out, ← hG] at h1
        cases hx : firstS G l.length 0 with
        | some ys => rw [hx] at h1; exact ⟨ys, rfl, h1⟩
        | none =>
          rw [hx] at h1
          have h2 := ring_len (okF_her (cyc l)) (cyc_per l) hl0
          rw [← HRS.out, h1] at h2
          have h3 := (min_pos (okF_her (cyc l)) hl0).1
          simp at h2
          omega
      have HFS := Lib.hid hfs
      have HG := Lib.hid hG
      clear hfs hG
      generalize wr = W9 at *
      go_loopw [33] (fun s w2 => ∃ k : Nat, k ≤ l.length ∧ s = .int .i64 k ∧ Hid (firstS G (l.length - k) k = firstS G l.length 0 ∧ StR W9 w2 bs nb fb bb (bb + 1))) (fun s _ => l.length - (intOf s).toNat)
      case atStart => exact ⟨0, Nat.zero_le _, rfl, rfl, SW.out⟩
      case round =>
        obtain ⟨k, hk, rfl, hst⟩ := hrel
        clear SW
        by_cases hlt : k < l.length
        · have hkk := hst.out.2.kk
          have zk := cell_lt hkk
          dsimp only at zk
          unfold walkV at hkk
          have E3 : Ext wr (wr.alloc (.cells #[.int .i64 (k : Int)] 3)) := extA
          have O3 := Lib.hid (ownsI_one wr (k : Int))
          have S3 := Lib.hid (hst.out.2.below HEV.out.top HEV.out.kb E3 (cell_lt hst.out.2.kk))
          have hwk := walk_any HEV.out l.length [k] (.slice (some ⟨wr.heap.size, 0, none⟩) 1 1) _ S3.out O3.out (fun g hg => by cases hg; exact zk) (by simp) (by simp) (by simp) (by simpa using hlt) (by simp)
          obtain ⟨R, hR⟩ : ∃ R, R = G k := ⟨_, rfl⟩
          have hwR : wlkS (okF (cyc l)) l.length m l.length [k] = R := by rw [hR, HG.out]
          rw [hwR] at hwk
          have hfk : firstS G l.length 0 = elseO R (firstS G (l.length - (k + 1)) (k + 1)) := by
            rw [← hst.out.1, show l.length - k = (l.length - (k + 1)) + 1 by omega, first_succ, ← hR]
          have HFK := Lib.hid hfk
          have HWK := Lib.hid hwk
          clear hfk hwk hwR hR E3 O3 S3 hst
          go_wp2_with fail
          refine HWK.out.mono ?_
          rintro e w5 ⟨rfl, hs5, _, hb5, _⟩
          have S5 := Lib.hid hs5
          have HB5 := Lib.hid hb5
          clear hs5 hb5 HWK hkk zk
          cases R with
          | none =>
            go_wp2
            refine ⟨⟨k + 1, by omega, by go_num, HFK.out.symm, S5.out⟩, by simp [intOf]; omega⟩
          | some ys =>
            obtain ⟨zs, hz1, hz2⟩ := HFS.out
            have hzy : zs = ys := by have h1 := HFK.out; rw [hz1] at h1; exact Option.some.inj h1
            subst hzy
            obtain ⟨v, hv1, hv2, _⟩ := HB5.out zs rfl
            obtain ⟨ra, rc, rfl, hrc, hrl⟩ := hv2.reads
            have HRC := Lib.hid hrc
            have HX5 := Lib.hid (F2.trans S5.out.ext)
            clear hv2 hrc
            go_wp2
            go_ret2
            rw [hz2]
            exact ⟨ra, rc, rfl, HRC.out, hrl, HX5.out⟩
        · exfalso
          obtain ⟨zs, hz1, _⟩ := HFS.out
          have h1 := hst.out.1
          rw [hz1, show l.length - k = 0 by omega] at h1
          cases h1
end Go.Proofs.YtdolibeceijnnaaDoor
namespace Go.Proofs.YtdolibeceijnnaaDoor
open Go.RowKit
def cutGo (s by' : ByteArray) : Nat → Nat → Nat → List ByteArray
  | 0, _, f => [s.extract f s.size]
  | n + 1, i, f => if i + by'.size ≤ s.size then
      (if f ≤ i then (if (s.extract i (i + by'.size)).toList == by'.toList then s.extract f i :: cutGo s by' n (i + 1) (i + by'.size) else cutGo s by' n (i + 1) f) else cutGo s by' n (i + 1) f)
      else [s.extract f s.size]
def cutS (s by' : ByteArray) : List ByteArray := cutGo s by' (s.size + 1) 0 0
theorem infoStr : (Tryd.prog.info? 9).map (fun i => (i.zero, i.size, i.bytes)) = some (some (.string ByteArray.empty), 1, 16) := by kernel_rfl
def OwnsS (w : World) (v : Value) (l : List ByteArray) : Prop := w.ownsRow 0 9 1 v l.length (l.map Value.string)
theorem OwnsS.nil (w : World) : OwnsS w (.slice none 0 0) [] := World.ownsRow_nil w 0 _ _
theorem OwnsS.ext {A B : World} {v : Value} {l : List ByteArray} (h : OwnsS A v l) (k : Ext A B) : OwnsS B v l := rowExt h k
def str0 : ByteArray := ByteArray.empty
def CellsS (w : World) (a : Option Addr) (l : List ByteArray) : Prop := ∀ i, i < l.length → ∃ b off, a = some ⟨b, off, none⟩ ∧ w.cell? ⟨b, off + i, none⟩ = some (.string (l.getD i str0))
theorem CellsS.ext {w w' : World} {a : Option Addr} {l : List ByteArray} (h : CellsS w a l) (he : Ext w w') : CellsS w' a l := fun i hi => by
  obtain ⟨b, off, h1, h2⟩ := h i hi
  exact ⟨b, off, h1, he.cell h2⟩
theorem OwnsS.reads {A : World} {v : Value} {l : List ByteArray} (h : OwnsS A v l) : ∃ a cap, v = .slice a l.length cap ∧ CellsS A a l ∧ l.length ≤ maxLen ∧ ∀ b off, a = some ⟨b, off, none⟩ → l ≠ [] → v.ownBlock = some b := by
  obtain ⟨a, cap, hv, hm, hr⟩ := rowReads h
  refine ⟨a, cap, hv, fun i hi => ?_, hm, fun b off hb hne => ?_⟩
  rotate_left
  · have h0 : 0 < l.length := List.length_pos_iff.2 hne
    obtain ⟨b', hb', h3, _, _⟩ := hr 0 (.string (l.getD 0 str0)) (by rw [List.getElem?_map, List.getD_eq_getElem?_getD, List.getElem?_eq_getElem h0]; rfl)
    rw [hb] at hb'
    cases hb'
    exact h3
  obtain ⟨b, hb, _, h1, _⟩ := hr i (.string (l.getD i str0)) (by rw [List.getElem?_map, List.getD_eq_getElem?_getD, List.getElem?_eq_getElem hi]; rfl)
  exact ⟨b, 0, hb, by rw [Nat.zero_add]; exact h1⟩
theorem ownsS_succ {w : World} {v : Value} {l : List ByteArray} {x : ByteArray} (h : w.ownsRow 0 9 1 v (l.length + 1) (l.map Value.string ++ [.string x])) : OwnsS w v (l ++ [x]) := by
  unfold OwnsS
  rw [List.length_append, List.map_append]; exact h
def StrsPost (l : List ByteArray) (w : World) (e : Ending) (w' : World) : Prop := ∃ a c, e = .returned (.slice a l.length c) ∧ CellsS w' a l ∧ l.length ≤ maxLen ∧ (∀ b off, a = some ⟨b, off, none⟩ → l ≠ [] → w.heap.size ≤ b) ∧ Ext w w'
set_option maxHeartbeats 4000000 in
set_option maxRecDepth 100000 in
theorem Cut_any (s by' : ByteArray) (w : World) (hs : s.size ≤ 5000) (h0 : 0 < by'.size) (hb : by'.size ≤ 10) :
    Calls Tryd.prog 88 #[.string s, .string by'] w (StrsPost (cutS s by') w) := by
  obtain ⟨L, hL⟩ : ∃ L, L = cutS s by' := ⟨_, rfl⟩
  rw [← hL]
  have HL : Hid (cutGo s by' (s.size + 1) 0 0 = L) := hL.symm
  clear hL
  obtain ⟨i0, hi, hi0, hi1, hi2⟩ := info_parts infoStr
  go_enter Tryd.func88, Tryd.ntmps88
  go_wp2
  go_loopw [7, 5, 6] (fun i v fr wr => ∃ k f : Nat, k ≤ s.size ∧ f ≤ s.size ∧ i = .int .i64 k ∧ fr = .int .i64 f ∧ (∃ vv, v = vv ∧ ∃ P : List ByteArray, P.length ≤ k ∧ Hid (P ++ cutGo s by' (s.size - k + 1) k f = L) ∧ Hid (OwnsS wr vv P ∧ ∀ b, vv.ownBlock = some b → w.heap.size ≤ b)) ∧ Ext w wr) (fun i _ _ _ => s.size + 1 - (intOf i).toNat)
  case atStart => exact ⟨0, 0, by omega, by omega, rfl, rfl, ⟨_, rfl, [], by simp, HL, OwnsS.nil _, fun b hb => by cases hb⟩, Ext.refl _⟩
  case round =>
    obtain ⟨k, f, hk, hf, rfl, rfl, ⟨vv, hvv, P, hP, hz, hO⟩, he⟩ := hrel
    obtain rfl := hvv.symm
    have hsz := he.size
    have hz1 := hz.out
    unfold cutGo at hz1
    clear hz HL
    have hw1 : IntKind.i64.wrap ((k : Int) + (by'.size : Int)) = (k : Int) + (by'.size : Int) := IntWalk.i64_in _ (by omega)
    have hf2 : (f : Int) ≤ (s.size : Int) := by omega
    have hf3 : (0 : Int) ≤ (f : Int) := by omega
    have O2 := Lib.hid hO.out.1
    have OB := Lib.hid hO.out.2
    clear hO
    by_cases hle : k + by'.size ≤ s.size
    · have hle2 : (k : Int) + (by'.size : Int) ≤ (s.size : Int) := by omega
      have hfu : s.size - k = s.size - (k + 1) + 1 := by omega
      rw [if_pos hle, hfu] at hz1
      have ht2 : ((k : Int) + (by'.size : Int)).toNat = k + by'.size := by omega
      have hp2 : (0 : Int) ≤ (k : Int) + (by'.size : Int) := by omega
      have hp3 : (k : Int) ≤ (k : Int) + (by'.size : Int) := by omega
      by_cases hfk : f ≤ k
      · have hfk2 : (f : Int) ≤ (k : Int) := by omega
        rw [if_pos hfk] at hz1
        cases hq : ((s.extract k (k + by'.size)).toList == by'.toList)
        · rw [hq] at hz1
          simp only [Bool.false_eq_true, if_false] at hz1
          have HZ := Lib.hid hz1
          clear hz1
          go_wp2
          refine ⟨⟨k + 1, f, by omega, hf, by go_num, rfl, ⟨_, rfl, P, by omega, HZ, ⟨O2.out, OB.out⟩⟩, he⟩, by simp [intOf]; omega⟩
        · rw [hq] at hz1
          simp only [if_true] at hz1
          have HZ : Hid ((P ++ [s.extract f k]) ++ cutGo s by' (s.size - (k + 1) + 1) (k + 1) (k + by'.size) = L) := by show _ = _; rw [List.append_assoc]; exact hz1
          clear hz1
          have hks : (k : Int) ≤ (s.size : Int) := by omega
          go_wp2_with (at_builtin; refine wpList_append1 _ rfl _ _ 126 rfl 9 i0 (.string ByteArray.empty) 1 16 Tryd.underlying126 hi hi0 hi1 hi2 rfl (by decide) vv P.length (P.map Value.string) rfl ?ho ⟨wr.heap.size, 0, none⟩ 1 1 (by decide) [.string (s.extract f k)] rfl rfl ?hn ?c1 ?c2 ?c3 ?c4)
          case ho => exact O2.out.ext ((Ext.refl _).alloc _)
          case c1 => rfl
          case c2 => unfold maxLen; omega
          case c3 => omega
          case c4 =>
            intro v' w5 hown5 hend5
            have O5 : Hid (OwnsS w5 v' (P ++ [s.extract f k])) := ownsS_succ hown5
            have B5 : Ext w w5 := (he.trans ((Ext.refl _).alloc _)).trans' (hend5.below (n := w.heap.size) (by simp; omega) OB.out) (Nat.le_refl _)
            have OB5 : Hid (∀ b, v'.ownBlock = some b → w.heap.size ≤ b) := hend5.ge (n := w.heap.size) (by simp; omega) OB.out
            clear hown5 hend5 O2 OB
            go_wp2
            refine ⟨⟨k + 1, k + by'.size, by omega, by omega, by go_num, by go_num, ⟨v', rfl, P ++ [s.extract f k], by rw [List.length_append]; simp; omega, HZ, ⟨O5.out, OB5.out⟩⟩, B5⟩, by simp [intOf]; omega⟩
      · have hfk2 : ¬ ((f : Int) ≤ (k : Int)) := by omega
        rw [if_neg hfk] at hz1
        have HZ := Lib.hid hz1
        clear hz1
        go_wp2
        refine ⟨⟨k + 1, f, by omega, hf, by go_num, rfl, ⟨_, rfl, P, by omega, HZ, ⟨O2.out, OB.out⟩⟩, he⟩, by simp [intOf]; omega⟩
    · have hle2 : ¬ ((k : Int) + (by'.size : Int) ≤ (s.size : Int)) := by omega
      rw [if_neg hle] at hz1
      have HZ := Lib.hid hz1
      clear hz1
      go_wp2_with (at_builtin; refine wpList_append1 _ rfl _ _ 126 rfl 9 i0 (.string ByteArray.empty) 1 16 Tryd.underlying126 hi hi0 hi1 hi2 rfl (by decide) vv P.length (P.map Value.string) rfl ?ko ⟨wr.heap.size, 0, none⟩ 1 1 (by decide) [.string (s.extract f s.size)] rfl rfl ?kn ?k1 ?k2 ?k3 ?k4)
      case ko => exact O2.out.ext ((Ext.refl _).alloc _)
      case k1 => rfl
      case k2 => unfold maxLen; omega
      case k3 => omega
      case k4 =>
        intro v' w5 hown5 hend5
        have O5 : Hid (OwnsS w5 v' L) := by show OwnsS _ _ _; rw [← HZ.out]; exact ownsS_succ hown5
        have B5 : Ext w w5 := (he.trans ((Ext.refl _).alloc _)).trans' (hend5.below (n := w.heap.size) (by simp; omega) OB.out) (Nat.le_refl _)
        have OB5 : Hid (∀ b, v'.ownBlock = some b → w.heap.size ≤ b) := hend5.ge (n := w.heap.size) (by simp; omega) OB.out
        clear hown5 hend5 O2 OB
        obtain ⟨ra, rc, rfl, hrc, hrl, hrb⟩ := O5.out.reads
        have HRC := Lib.hid hrc
        have HRB := Lib.hid hrb
        clear hrc hrb
        go_wp2
        go_ret
        exact ⟨ra, rc, rfl, HRC.out, hrl, (fun b off hb hne => OB5.out b (HRB.out b off hb hne)), B5⟩
end Go.Proofs.YtdolibeceijnnaaDoor
namespace Go.Proofs.YtdolibeceijnnaaDoor
open Go.RowKit
abbrev Bts := List UInt8
def wrB (x : Int) (o : Bool) : Bts := [(65 + x.toNat).toUInt8, if o then 43 else 45]
def allStk : List Stk := [(0, false), (0, true), (1, false), (1, true), (2, false), (2, true), (3, false), (3, true), (4, false), (4, true), (5, false), (5, true)]
def readL (s : Bts) : Option Stk := allStk.find? fun x => wrB x.1 x.2 == s
def numGo : Bts → Int → Option Int
  | [], n => some n
  | c :: l, n => if c < 48 ∨ 57 < c then none else numGo l (10 * n + ((c.toNat : Int) - 48))
def numL (s : Bts) : Option Int := if s.length < 2 ∨ 7 < s.length ∨ s.getD 0 0 = 48 then none else numGo s 0
def stepW : List Bts → List Stk → Option Stp
  | [], P => some (P, 0)
  | y :: ys, P => match readL y with
    | some x => stepW ys (P ++ [x])
    | none => if ys.length = 0 ∧ P.length ≠ 0 then (match numL y with | some n => if n = 0 then none else some (P, n) | none => none) else none
def cutL (s b : Bts) : Nat → Nat → Nat → List Bts
  | 0, _, f => [(s.drop f).take (s.length - f)]
  | n + 1, i, f => if i + b.length ≤ s.length then
      (if f ≤ i then (if ((s.drop i).take b.length == b) then (s.drop f).take (i - f) :: cutL s b n (i + 1) (i + b.length) else cutL s b n (i + 1) f) else cutL s b n (i + 1) f)
      else [(s.drop f).take (s.length - f)]
def cutB (s b : Bts) : List Bts := cutL s b (s.length + 1) 0 0
def stepL (s : Bts) : Option Stp := (stepW (cutB s [32]) []).filter fun x => ckStep x = 0
def allSome {α : Type} : List (Option α) → Option (List α)
  | [] => some []
  | none :: _ => none
  | some x :: l => (allSome l).map (x :: ·)
def stepsL (l : List Bts) : Option (List Stp) := allSome (l.map stepL)
def parseL (s : Bts) : Option (List Stp) := (stepsL (cutB s [59, 32])).filter fun l => l.length ≤ 64 ∧ s.length ≤ 4096 ∧ s.length ≠ 0
def ofGo (l : List Stp) (m : Int) : Int := l.foldl (fun m x => x.1.foldl (fun m y => max m (y.1 + 1)) m) m
def ofS (l : List Stp) : Sq := (ofGo l 0, l)
def sqL (s : Bts) : Option Sq := ((parseL s).map ofS).filter fun q => ckSeq q = 0
theorem toL_len (s : ByteArray) : s.toList.length = s.size := by rw [ByteArray.toList_eq]; rfl
theorem toL_extract (s : ByteArray) (i j : Nat) : (s.extract i j).toList = (s.toList.drop i).take (j - i) := by
  rw [ByteArray.toList_eq, ByteArray.toList_eq]
  simp [ByteArray.data_extract, Array.toList_extract]
theorem cutGo_map (s b : ByteArray) (n i f : Nat) : (cutGo s b n i f).map ByteArray.toList = cutL s.toList b.toList n i f := by
  induction n generalizing i f with
  | zero => simp [cutGo, cutL, toL_extract, toL_len]
  | succ n ih =>
    unfold cutGo cutL
    rw [toL_len, toL_len]
    by_cases h1 : i + b.size ≤ s.size
    · rw [if_pos h1, if_pos h1]
      by_cases h2 : f ≤ i
      · rw [if_pos h2, if_pos h2, toL_extract, show i + b.size - i = b.size by omega]
        cases h3 : ((s.toList.drop i).take b.size == b.toList)
        · simp only [Bool.false_eq_true, if_false]; exact ih _ _
        · simp only [if_true, List.map_cons, toL_extract]; rw [ih]
      · rw [if_neg h2, if_neg h2]; exact ih _ _
    · rw [if_neg h1, if_neg h1]; simp [toL_extract]
theorem cutS_map (s b : ByteArray) : (cutS s b).map ByteArray.toList = cutB s.toList b.toList := by
  unfold cutS cutB; rw [cutGo_map, toL_len]
def rdGo (s : Bts) (n : Nat) : Option Stk := (allStk.drop n).find? fun x => wrB x.1 x.2 == s
theorem rd_step (s : Bts) (k j : Nat) (hk : k < 6) (hj : j < 2) : rdGo s (2 * k + j) = if (wrB k (decide (j = 1)) == s) = true then some ((k : Int), decide (j = 1)) else rdGo s (2 * k + j + 1) := by
  have hk' : k = 0 ∨ k = 1 ∨ k = 2 ∨ k = 3 ∨ k = 4 ∨ k = 5 := by omega
  have hj' : j = 0 ∨ j = 1 := by omega
  rcases hk' with rfl | rfl | rfl | rfl | rfl | rfl <;> rcases hj' with rfl | rfl <;>
  · show List.find? _ (_ :: _) = _
    rw [List.find?_cons]
    split
    · next h => exact (if_pos h).symm
    · next h => exact (if_neg (fun e => Bool.false_ne_true (h.symm.trans e))).symm
theorem rd_end (s : Bts) : rdGo s 12 = none := rfl
theorem stepW_len {ws : List Bts} {P : List Stk} {x : Stp} (h : stepW ws P = some x) : P.length ≤ x.1.length ∧ x.1.length ≤ P.length + ws.length := by
  induction ws generalizing P with
  | nil => simp only [stepW, Option.some.injEq] at h; subst h; simp
  | cons y ys ih =>
    unfold stepW at h
    split at h
    · have := ih h; simp at this ⊢; omega
    · split at h
      · split at h
        · split at h
          · cases h
          · cases h; simp
        · cases h
      · cases h
theorem allSome_get {α : Type} {l : List (Option α)} {m : List α} (h : allSome l = some m) : l = m.map some := by
  induction l generalizing m with
  | nil => simp only [allSome, Option.some.injEq] at h; subst h; rfl
  | cons x l ih =>
    cases x with
    | none => cases h
    | some x =>
      unfold allSome at h
      cases h2 : allSome l with
      | none => rw [h2] at h; cases h
      | some m' => rw [h2] at h; cases h; rw [List.map_cons, ih h2]
end Go.Proofs.YtdolibeceijnnaaDoor
namespace Go.Proofs.YtdolibeceijnnaaDoor
open Go.RowKit
set_option maxHeartbeats 1000000 in
theorem written_any (x : Nat) (o : Bool) (w : World) (hx : x < 6) :
    Calls Tryd.prog 108 #[.agg #[.int .i64 (x : Int), .bool o]] w fun r w' => (∃ t : ByteArray, r = .returned (.string t) ∧ t.toList = wrB (x : Int) o) ∧ Ext w w' := by
  have hw1 : IntKind.i64.wrap ((x : Int) + 1) = (x : Int) + 1 := IntWalk.i64_in _ (by omega)
  have h1 : (0 : Int) ≤ (x : Int) + 1 := by omega
  have h2 : (x : Int) + 1 ≤ 6 := by omega
  have h3 : (x : Int) ≤ (x : Int) + 1 := by omega
  have h4 : ((x : Int) + 1).toNat = x + 1 := by omega
  have hx' : x = 0 ∨ x = 1 ∨ x = 2 ∨ x = 3 ∨ x = 4 ∨ x = 5 := by omega
  have E1 : Ext w (w.alloc (.cells #[.int .i64 (x : Int), .bool o] 67)) := extA
  have HE := Lib.hid E1
  clear E1
  cases o
  · go_enter Tryd.func108, Tryd.ntmps108
    go_wp2
    go_ret
    refine ⟨⟨_, rfl, ?_⟩, HE.out⟩
    rw [ByteArray.toList_eq]
    rcases hx' with rfl | rfl | rfl | rfl | rfl | rfl <;> rfl
  · go_enter Tryd.func108, Tryd.ntmps108
    go_wp2
    go_ret
    refine ⟨⟨_, rfl, ?_⟩, HE.out⟩
    rw [ByteArray.toList_eq]
    rcases hx' with rfl | rfl | rfl | rfl | rfl | rfl <;> rfl
def rdOf : Option Stk → Stk × Bool
  | some x => (x, true)
  | none => (stk0, false)
set_option maxHeartbeats 4000000 in
theorem read_any (s : ByteArray) (w : World) (x : Stk) (bo : Bool) (h : rdOf (readL s.toList) = (x, bo)) :
    Calls Tryd.prog 101 #[.string s] w fun r w' => r = .returned (.tuple #[.agg #[.int .i64 x.1, .bool x.2], .bool bo]) ∧ Ext w w' := by
  have H0 : Hid (rdOf (rdGo s.toList (2 * 0)) = (x, bo)) := h
  clear h
  obtain ⟨xa, xo⟩ := x
  dsimp only
  go_enter Tryd.func101, Tryd.ntmps101
  go_wp2
  have E1 : Ext w (w.alloc (.cells #[.int .i64 0, .bool false] 67)) := extA
  have c0 : (w.alloc (.cells #[.int .i64 0, .bool false] 67)).cell? ⟨w.heap.size, 0, none⟩ = some (.int .i64 0) := by go_simp
  have c1 : (w.alloc (.cells #[.int .i64 0, .bool false] 67)).cell? ⟨w.heap.size, 1, none⟩ = some (.bool false) := by go_simp
  have f0 : (w.alloc (.cells #[.int .i64 0, .bool false] 67)).frozen? ⟨w.heap.size, 0, none⟩ = false := by go_simp
  have f1 : (w.alloc (.cells #[.int .i64 0, .bool false] 67)).frozen? ⟨w.heap.size, 1, none⟩ = false := by go_simp
  generalize (w.alloc (.cells #[.int .i64 0, .bool false] 67)) = W at E1 c0 c1 f0 f1 ⊢
  go_loopw [4] (fun i wr => ∃ k : Nat, k ≤ 6 ∧ i = .int .i64 k ∧ Hid (rdOf (rdGo s.toList (2 * k)) = ((xa, xo), bo)) ∧ Ext W wr) (fun i _ => 6 - (intOf i).toNat)
  case atStart => exact ⟨0, by omega, rfl, H0, Ext.refl _⟩
  case round =>
    obtain ⟨k, hk, rfl, hz, he⟩ := hrel
    clear H0
    obtain ⟨wo, hwo⟩ : ∃ wo : World, wo = wr := ⟨_, rfl⟩
    subst hwo
    by_cases hlt : k < 6
    · go_wp2
      have E2 : Ext wo (wo.alloc (.cells #[.bool false, .bool true] 4)) := extA
      have b0 : (wo.alloc (.cells #[.bool false, .bool true] 4)).cell? ⟨wo.heap.size, 0, none⟩ = some (.bool false) := by go_simp
      have b1 : (wo.alloc (.cells #[.bool false, .bool true] 4)).cell? ⟨wo.heap.size, 1, none⟩ = some (.bool true) := by go_simp
      generalize (wo.alloc (.cells #[.bool false, .bool true] 4)) = W2 at E2 b0 b1 ⊢
      have HZ0 : Hid (rdOf (rdGo s.toList (2 * k + 0)) = ((xa, xo), bo)) := hz
      clear hz
      have hki : (k : Int) < 6 := by omega
      (try simp only [decide_eq_true hki])
      clear hki
      go_loopw [14] (fun i wr => ∃ j : Nat, j ≤ 2 ∧ i = .int .i64 j ∧ Hid (rdOf (rdGo s.toList (2 * k + j)) = ((xa, xo), bo)) ∧ Ext W2 wr) (fun i _ => 2 - (intOf i).toNat)
      case atStart => exact ⟨0, by omega, rfl, HZ0, Ext.refl _⟩
      case round =>
        obtain ⟨j, hj, rfl, hz, hE⟩ := hrel
        clear HZ0
        have d0 := hE.cell b0
        have d1 := hE.cell b1
        by_cases hjl : j < 2
        · have dj : wr.cell? ⟨wo.heap.size, j, none⟩ = some (.bool (decide (j = 1))) := by
            have : j = 0 ∨ j = 1 := by omega
            rcases this with rfl | rfl
            · exact d0
            · exact d1
          have hst := rd_step s.toList k j hlt hjl
          have hz1 := hz.out
          rw [hst] at hz1
          have HZ1 := Lib.hid hz1
          clear hz1 hz hst d0 d1
          generalize hoo : decide (j = 1) = oo at dj HZ1
          go_wp2_with fail
          refine (written_any k oo _ hlt).mono ?_
          rintro e w3 ⟨⟨t, rfl, ht⟩, hE3⟩
          have E3 : Ext W2 w3 := extA
          have g7 := hE3.cell (show (wr.alloc (.cells #[.int .i64 (k : Int), .bool oo] 67)).cell? ⟨wr.heap.size, 0, none⟩ = some (.int .i64 (k : Int)) by go_simp)
          have g8 := hE3.cell (show (wr.alloc (.cells #[.int .i64 (k : Int), .bool oo] 67)).cell? ⟨wr.heap.size, 1, none⟩ = some (.bool oo) by go_simp)
          have E4 := (he.trans E2).trans E3
          have k0 := E4.cell c0
          have k1 := E4.cell c1
          have m0 := (Below.frozen (p := ⟨w.heap.size, 0, none⟩) E4 (cell_lt c0)).trans f0
          have m1 := (Below.frozen (p := ⟨w.heap.size, 1, none⟩) E4 (cell_lt c1)).trans f1
          have hz1 := HZ1.out
          rw [← ht] at hz1
          clear HZ1 hE hE3 dj ht
          cases hq : (t.toList == s.toList)
          · rw [hq] at hz1
            have HZ : Hid (rdOf (rdGo s.toList (2 * k + (j + 1))) = ((xa, xo), bo)) := hz1
            clear hz1
            go_wp2
            refine ⟨⟨j + 1, by omega, by go_num, HZ, E3⟩, by simp [intOf]; omega⟩
          · rw [hq] at hz1
            have HZ : Hid ((k : Int) = xa ∧ oo = xo ∧ true = bo) := by
              simp only [if_true, rdOf, Prod.mk.injEq] at hz1
              exact ⟨hz1.1.1, hz1.1.2, hz1.2⟩
            clear hz1
            have EF : Ext w ((w3.setCell ⟨w.heap.size, 0, none⟩ (.int .i64 (k : Int))).setCell ⟨w.heap.size, 1, none⟩ (.bool oo)) := ((E1.trans E4).set (by omega) _).set (by omega) _
            go_wp2
            refine bodyPost_ret (v := .tuple #[.agg #[.int .i64 (k : Int), .bool oo], .bool true]) (by rw [results_cell_tmp1 rfl]; go_simp) rfl ⟨?_, EF⟩
            rw [HZ.out.1, HZ.out.2.1, HZ.out.2.2]
        · have hj2 : j = 2 := by omega
          subst hj2
          have HZ : Hid (rdOf (rdGo s.toList (2 * (k + 1))) = ((xa, xo), bo)) := hz
          clear hz
          go_wp2
          refine ⟨⟨k + 1, by omega, by go_num, HZ, (he.trans E2).trans hE⟩, by simp [intOf]; omega⟩
    · have hk6 : k = 6 := by omega
      subst hk6
      have HZ : Hid ((0 : Int) = xa ∧ false = xo ∧ false = bo) := by
        have hz1 := hz.out
        rw [show 2 * 6 = 12 from rfl, rd_end] at hz1
        simp only [rdOf, stk0, Prod.mk.injEq] at hz1
        exact ⟨hz1.1.1, hz1.1.2, hz1.2⟩
      clear hz
      have k0 := he.cell c0
      have k1 := he.cell c1
      have m0 := (Below.frozen (p := ⟨w.heap.size, 0, none⟩) he (cell_lt c0)).trans f0
      have m1 := (Below.frozen (p := ⟨w.heap.size, 1, none⟩) he (cell_lt c1)).trans f1
      have EF : Ext w ((wo.setCell ⟨w.heap.size, 0, none⟩ (.int .i64 0)).setCell ⟨w.heap.size, 1, none⟩ (.bool false)) := ((E1.trans he).set (by omega) _).set (by omega) _
      go_wp2
      refine bodyPost_ret (v := .tuple #[.agg #[.int .i64 0, .bool false], .bool false]) (by rw [results_cell_tmp1 rfl]; go_simp) rfl ⟨?_, EF⟩
      rw [← HZ.out.1, ← HZ.out.2.1, ← HZ.out.2.2]
end Go.Proofs.YtdolibeceijnnaaDoor
namespace Go.Proofs.YtdolibeceijnnaaDoor
open Go.RowKit
theorem toL_get (s : ByteArray) {k : Nat} (h : k < s.size) : s.toList.getD k 0 = s[k] := by
  have h' : k < s.data.size := h
  rw [ByteArray.toList_eq, List.getD_eq_getElem?_getD, Array.getElem?_toList, Array.getElem?_eq_getElem h']
  rfl
set_option maxHeartbeats 4000000 in
theorem Number_any (s : ByteArray) (N : Int) (w : World) (h : numL s.toList = some N) :
    Calls Tryd.prog 102 #[.string s] w fun r w' => r = .returned (.tuple #[.int .i64 N, .bool true]) ∧ Ext w w' := by
  unfold numL at h
  by_cases hg : s.toList.length < 2 ∨ 7 < s.toList.length ∨ s.toList.getD 0 0 = 48
  · rw [if_pos hg] at h; cases h
  rw [if_neg hg] at h
  rw [toL_len] at hg
  have H0 : Hid (numGo (s.toList.drop 0) 0 = some N) := h
  have h2 : 2 ≤ s.size := by omega
  have h7 : s.size ≤ 7 := by omega
  have h8 : ¬ ((7 : Int) < (s.size : Int)) := by omega
  have h9 : (1 : Int) < (s.size : Int) := by omega
  have hne : (s.toList == ([] : List UInt8)) = false := by
    rw [← toL_len] at h2
    cases hs : s.toList with
    | nil => rw [hs] at h2; simp at h2
    | cons c l => rfl
  have hb : (0 : Nat) < s.size := by omega
  have hgn : s.toList.getD 0 0 ≠ 48 := fun a => hg (.inr (.inr a))
  clear h hg
  have hg0 : ((s[0].toNat : Int) == 48) = false := by
    have e := toL_get s hb
    have g := hgn
    rw [e] at g
    have : s[0].toNat ≠ 48 := fun x => g (UInt8.toNat_inj.1 x)
    simpa using (show ((s[0].toNat : Int)) ≠ 48 by omega)
  clear hgn
  go_enter Tryd.func102, Tryd.ntmps102
  go_wp2
  go_loopw [5, 4] (fun i v wr => ∃ (k : Nat) (m : Int), k ≤ s.size ∧ i = .int .i64 k ∧ v = .int .i64 m ∧ 0 ≤ m ∧ Hid (m < 10 ^ k) ∧ Hid (numGo (s.toList.drop k) m = some N) ∧ w = wr) (fun i _ _ => s.size - (intOf i).toNat)
  case atStart => exact ⟨0, 0, by omega, rfl, rfl, by omega, by show (0 : Int) < 10 ^ 0; decide, H0, rfl⟩
  case round =>
    obtain ⟨k, m, hk, rfl, rfl, hm0, hm1, hz, rfl⟩ := hrel
    clear H0
    by_cases hlt : k < s.size
    · have hz1 := hz.out
      have e := toL_get s hlt
      rw [drop_cons s.toList 0 (by rw [toL_len]; exact hlt), e] at hz1
      unfold numGo at hz1
      by_cases hc : s[k] < 48 ∨ 57 < s[k]
      · rw [if_pos hc] at hz1; cases hz1
      rw [if_neg hc] at hz1
      have c1 : ¬ s[k].toNat < 48 := fun x => hc (.inl (UInt8.lt_iff_toNat_lt.2 x))
      have c2 : ¬ 57 < s[k].toNat := fun x => hc (.inr (UInt8.lt_iff_toNat_lt.2 x))
      have hp : (10 : Int) ^ k ≤ 10 ^ 6 := by
        have : 10 ^ k ≤ 10 ^ 6 := Nat.pow_le_pow_right (by omega) (by omega)
        exact_mod_cast this
      have hm2 := hm1.out
      have hsu : (10 : Int) ^ (k + 1) = 10 ^ k * 10 := Int.pow_succ ..
      have hp6 : (10 : Int) ^ 6 = 1000000 := by decide
      have HZ := Lib.hid hz1
      have HM : Hid (10 * m + ((s[k].toNat : Int) - 48) < 10 ^ (k + 1)) := by show _ < _; rw [hsu]; omega
      have d1 : ¬ ((s[k].toNat : Int) < 48) := by omega
      have d2 : ¬ (57 < (s[k].toNat : Int)) := by omega
      have w1 : IntKind.u8.wrap ((s[k].toNat : Int) - 48) = (s[k].toNat : Int) - 48 := IntWalk.u8_in _ (by omega)
      have w2 : IntKind.i64.wrap ((s[k].toNat : Int) - 48) = (s[k].toNat : Int) - 48 := IntWalk.i64_in _ (by omega)
      have w3 : IntKind.i64.wrap (10 * m) = 10 * m := IntWalk.i64_in _ (by omega)
      have w4 : IntKind.i64.wrap (10 * m + ((s[k].toNat : Int) - 48)) = 10 * m + ((s[k].toNat : Int) - 48) := IntWalk.i64_in _ (by omega)
      have hq0 : 0 ≤ 10 * m + ((s[k].toNat : Int) - 48) := by omega
      clear hz hz1 hm1 hm2 hsu hc e hp hp6
      generalize hch : s[k].toNat = ch at d1 d2 w1 w2 w3 w4 c1 c2 HZ HM hq0
      go_wp2
      refine ⟨⟨k + 1, _, by omega, by go_num, rfl, hq0, HM, HZ, trivial⟩, by simp [intOf]; omega⟩
    · have hz1 := hz.out
      rw [List.drop_eq_nil_of_le (by rw [toL_len]; omega)] at hz1
      have HN : Hid (m = N) := by show m = N; exact Option.some.inj hz1
      clear hz hz1
      go_wp2
      go_ret2
      have hmn := HN.out
      subst hmn
      exact ⟨rfl, Ext.refl _⟩
end Go.Proofs.YtdolibeceijnnaaDoor
namespace Go.Proofs.YtdolibeceijnnaaDoor
open Go.RowKit
def StpPost (x : Stp) (w : World) (e : Ending) (w' : World) : Prop := ∃ v, e = .returned (.tuple #[.agg #[v, .int .i64 x.2], .int .i64 0]) ∧ OwnsK w' v x.1 ∧ (∀ b, v.ownBlock = some b → w.heap.size ≤ b) ∧ Ext w w'
structure StSt (b : Nat) (W0 wr : World) (P : List Stk) (wt : Int) : Prop where
  ch : Chg (fun k => k = b) W0 wr
  v : ∃ v, wr.cell? ⟨b, 0, none⟩ = some v ∧ OwnsK wr v P ∧ ∀ k, v.ownBlock = some k → W0.heap.size ≤ k
  c1 : wr.cell? ⟨b, 1, none⟩ = some (.int .i64 wt)
  f0 : wr.frozen? ⟨b, 0, none⟩ = false
  f1 : wr.frozen? ⟨b, 1, none⟩ = false
theorem StSt.ext {b : Nat} {W0 A B : World} {P : List Stk} {wt : Int} (h : StSt b W0 A P wt) (k : Ext A B) : StSt b W0 B P wt := by
  obtain ⟨h1, ⟨v, h2, h3, h4⟩, h5, h6, h7⟩ := h
  exact ⟨h1.trans (Chg.ext k), ⟨v, k.cell h2, h3.ext k, h4⟩, k.cell h5, (Below.frozen (p := ⟨b, 0, none⟩) k (cell_lt h2)).trans h6, (Below.frozen (p := ⟨b, 1, none⟩) k (cell_lt h5)).trans h7⟩
set_option maxHeartbeats 8000000 in
set_option maxRecDepth 100000 in
theorem Step_any (s : ByteArray) (X : Stp) (w : World) (hs : s.size ≤ 5000) (h : stepL s.toList = some X) :
    Calls Tryd.prog 89 #[.string s] w (StpPost X w) := by
  obtain ⟨hstep, hck⟩ : stepW ((cutS s ⟨#[32]⟩).map ByteArray.toList) [] = some X ∧ ckStep X = 0 := by
    unfold stepL at h
    have h2 := Option.filter_eq_some_iff.1 h
    refine ⟨?_, by simpa using h2.2⟩
    rw [cutS_map, show (⟨#[32]⟩ : ByteArray).toList = [32] by rw [ByteArray.toList_eq]]
    exact h2.1
  have H0 : Hid (stepW (((cutS s ⟨#[32]⟩).map ByteArray.toList).drop 0) [] = some X) := hstep
  have HCK := Lib.hid hck
  have hXl : X.1.length ≤ 6 := (ckStep_strokes hck).2.1
  clear h hstep hck
  obtain ⟨ws, hws⟩ : ∃ ws, ws = cutS s ⟨#[32]⟩ := ⟨_, rfl⟩
  rw [← hws] at H0
  obtain ⟨i0, hi, hi0, hi1, hi2⟩ := info_parts infoStk
  go_enter Tryd.func89, Tryd.ntmps89
  go_wp2_with fail
  have E1 : Ext w ((w.alloc (.cells #[.slice none 0 0, .int .i64 0] 65)).alloc (.cells #[.slice none 0 0, .int .i64 0] 65)) := extA
  have c0 : ((w.alloc (.cells #[.slice none 0 0, .int .i64 0] 65)).alloc (.cells #[.slice none 0 0, .int .i64 0] 65)).cell? ⟨w.heap.size, 0, none⟩ = some (.slice none 0 0) := by go_simp
  have c1 : ((w.alloc (.cells #[.slice none 0 0, .int .i64 0] 65)).alloc (.cells #[.slice none 0 0, .int .i64 0] 65)).cell? ⟨w.heap.size, 1, none⟩ = some (.int .i64 0) := by go_simp
  have c2 : ((w.alloc (.cells #[.slice none 0 0, .int .i64 0] 65)).alloc (.cells #[.slice none 0 0, .int .i64 0] 65)).cell? ⟨w.heap.size + 1, 0, none⟩ = some (.slice none 0 0) := by go_simp
  have c3 : ((w.alloc (.cells #[.slice none 0 0, .int .i64 0] 65)).alloc (.cells #[.slice none 0 0, .int .i64 0] 65)).cell? ⟨w.heap.size + 1, 1, none⟩ = some (.int .i64 0) := by go_simp
  have f0 : ((w.alloc (.cells #[.slice none 0 0, .int .i64 0] 65)).alloc (.cells #[.slice none 0 0, .int .i64 0] 65)).frozen? ⟨w.heap.size, 0, none⟩ = false := by go_simp
  have f1 : ((w.alloc (.cells #[.slice none 0 0, .int .i64 0] 65)).alloc (.cells #[.slice none 0 0, .int .i64 0] 65)).frozen? ⟨w.heap.size, 1, none⟩ = false := by go_simp
  have f2 : ((w.alloc (.cells #[.slice none 0 0, .int .i64 0] 65)).alloc (.cells #[.slice none 0 0, .int .i64 0] 65)).frozen? ⟨w.heap.size + 1, 0, none⟩ = false := by go_simp
  have f3 : ((w.alloc (.cells #[.slice none 0 0, .int .i64 0] 65)).alloc (.cells #[.slice none 0 0, .int .i64 0] 65)).frozen? ⟨w.heap.size + 1, 1, none⟩ = false := by go_simp
  have hsz : ((w.alloc (.cells #[.slice none 0 0, .int .i64 0] 65)).alloc (.cells #[.slice none 0 0, .int .i64 0] 65)).heap.size = w.heap.size + 2 := by go_simp
  generalize ((w.alloc (.cells #[.slice none 0 0, .int .i64 0] 65)).alloc (.cells #[.slice none 0 0, .int .i64 0] 65)) = W1 at E1 c0 c1 c2 c3 f0 f1 f2 f3 hsz ⊢
  refine (Cut_any s ⟨#[32]⟩ _ hs (by decide) (by decide)).mono ?_
  rintro e W ⟨ta, tc, rfl, hcs, hls, htb, hE⟩
  rw [← hws] at hcs hls htb ⊢
  rw [hsz] at htb
  unfold maxLen at hls
  have HCS := Lib.hid hcs
  have HTB := Lib.hid htb
  have E2 := E1.trans hE
  have hWs := hE.size
  rw [hsz] at hWs
  clear hsz
  have M0 : Hid (StSt (w.heap.size + 1) W W [] 0) := ⟨Chg.refl _ _, ⟨_, hE.cell c2, OwnsK.nil _, fun b hb => by cases hb⟩, hE.cell c3, (Below.frozen (p := ⟨w.heap.size + 1, 0, none⟩) hE (cell_lt c2)).trans f2, (Below.frozen (p := ⟨w.heap.size + 1, 1, none⟩) hE (cell_lt c3)).trans f3⟩
  have g0 := (Below.frozen (p := ⟨w.heap.size, 0, none⟩) hE (cell_lt c0)).trans f0
  have g1 := (Below.frozen (p := ⟨w.heap.size, 1, none⟩) hE (cell_lt c1)).trans f1
  have c0 := hE.cell c0
  have c1 := hE.cell c1
  clear hcs htb E1 hE c2 c3 f0 f1 f2 f3 hws hs
  go_wp2
  go_loopw [6] (fun i wr => ∃ k : Nat, k ≤ ws.length ∧ i = .int .i64 k ∧ (∃ (P : List Stk) (wt : Int), Hid (StSt (w.heap.size + 1) W wr P wt) ∧ Hid ((wt = 0 ∧ P.length ≤ k ∧ P.length ≤ 6 ∧ stepW ((ws.map ByteArray.toList).drop k) P = some X) ∨ (k = ws.length ∧ X = (P, wt)))) ∧ Ext w wr) (fun i _ => ws.length - (intOf i).toNat)
  case atStart => exact ⟨0, by omega, rfl, ⟨[], 0, M0, .inl ⟨rfl, by simp, by simp, H0.out⟩⟩, E2⟩
  case round =>
    obtain ⟨k, hk, rfl, ⟨P, wt, M, hz⟩, he⟩ := hrel
    clear M0 H0
    have hch := M.out.ch
    by_cases hlt : k < ws.length
    · obtain ⟨rfl, hPk, hP6, hst⟩ : wt = 0 ∧ P.length ≤ k ∧ P.length ≤ 6 ∧ stepW ((ws.map ByteArray.toList).drop k) P = some X := by
        rcases hz.out with h | h
        · exact h
        · exact absurd h.1 (by omega)
      obtain ⟨tb, tf, rfl, t1⟩ := HCS.out k hlt
      have htbW : w.heap.size + 2 ≤ tb := by
        have := HTB.out tb tf rfl (List.length_pos_iff.1 (by omega)); omega
      have t1 := hch.cell (p := ⟨tb, tf + k, none⟩) (by show ¬ tb = w.heap.size + 1; omega) t1
      have hmd : (ws.map ByteArray.toList).getD k [] = (ws.getD k str0).toList := by
        rw [List.getD_eq_getElem?_getD, List.getElem?_map, List.getD_eq_getElem?_getD, List.getElem?_eq_getElem hlt]; rfl
      rw [drop_cons _ [] (by rw [List.length_map]; exact hlt), hmd] at hst
      generalize ws.getD k str0 = y at t1 hst
      obtain ⟨vv, v1, v2, v3⟩ := M.out.v
      have q1 := M.out.c1
      have q2 := M.out.f0
      have q3 := M.out.f1
      unfold stepW at hst
      cases hr : readL y.toList with
      | some st =>
        rw [hr] at hst
        simp only at hst
        have hl6 := (stepW_len hst).1
        rw [List.length_append] at hl6
        simp only [List.length_cons, List.length_nil] at hl6
        have HST := Lib.hid hst
        have HRD : Hid (rdOf (readL y.toList) = (st, true)) := by show _ = _; rw [hr]; rfl
        obtain ⟨sta, sto⟩ := st
        clear hz hst hr
        go_wp2_with fail
        refine (read_any y _ _ _ HRD.out).mono ?_
        rintro e w3 ⟨rfl, hE3⟩
        have E3 : Ext w w3 := he.trans hE3
        have M3 := Lib.hid (M.out.ext hE3)
        have v1 := hE3.cell v1
        have q1 := hE3.cell q1
        have V2 := Lib.hid (v2.ext hE3)
        have V3 := Lib.hid v3
        have q2 := M3.out.f0
        have q3 := M3.out.f1
        clear M v2 v3 t1 hE3
        dsimp only
        have z1 := cell_lt v1
        dsimp only at z1
        go_wp2_with (at_builtin; refine wpList_append1 _ rfl _ _ 45 rfl 67 i0 (.agg #[.int .i64 0, .bool false]) 2 16 Tryd.underlying45 hi hi0 hi1 hi2 rfl (by decide) vv P.length (flatK P) rfl ?ho ⟨w3.heap.size + 1, 0, none⟩ 1 1 (by decide) [.int .i64 sta, .bool sto] rfl rfl ?hn ?c1 ?c2 ?c3 ?c4)
        case ho => exact V2.out.ext (((Ext.refl _).alloc _).alloc _)
        case hn =>
          have hh := cells_one (w3.alloc (.cells #[.int .i64 sta, .bool sto] 67)) [.int .i64 sta, .bool sto] 67
          simpa using hh
        case c1 => intro u hu; simp at hu; rcases hu with rfl | rfl <;> rfl
        case c2 => unfold maxLen; omega
        case c3 => omega
        case c4 =>
          intro v' w7 hown7 hend7
          have O7 : OwnsK w7 v' (P ++ [(sta, sto)]) := ownsK_succ hown7
          have EA : Ext w3 ((w3.alloc (.cells #[.int .i64 sta, .bool sto] 67)).alloc (.cells #[.int .i64 sta, .bool sto] 67)) := extA
          have hgr := hend7.chg
          have hsA := EA.size
          have hW3 : W.heap.size ≤ w3.heap.size := M3.out.ch.1
          have E7 : Ext w w7 := (E3.trans EA).trans' (hend7.below (n := W.heap.size) (by omega) V3.out) (by omega)
          have V7 := hend7.ge (n := W.heap.size) (by omega) V3.out
          have same7 : ∀ (p : Addr) (v : Value), p.block = w.heap.size + 1 → w3.cell? p = some v → w7.cell? p = some v ∧ w7.frozen? p = w3.frozen? p := fun p v hp hc => by
            have h1 := hgr.1 p.block (EA.size_lt (cell_lt hc)) (fun e => by have := V3.out _ e; omega)
            exact ⟨(World.cell?_of_block (w := _) h1).trans (EA.cell hc), (World.frozen?_of_block (w := _) h1).trans (Below.frozen (p := p) EA (cell_lt hc))⟩
          have C7 : Chg (fun k => k = w.heap.size + 1) W w7 := by
            refine ⟨by have := hgr.2.1; omega, fun b hb hn => ?_⟩
            have e1 := hgr.1 b (by omega) (fun e => by have := V3.out _ e; omega)
            exact (e1.trans (Below.block EA b (by omega))).trans (M3.out.ch.2 b hb hn)
          obtain ⟨r0, rf0⟩ := same7 ⟨w.heap.size + 1, 0, none⟩ _ rfl v1
          obtain ⟨r1, rf1⟩ := same7 ⟨w.heap.size + 1, 1, none⟩ _ rfl q1
          rw [q2] at rf0
          rw [q3] at rf1
          have HO7 := Lib.hid O7
          have HV7 := Lib.hid V7
          obtain ⟨va, vc, hvv, _, _⟩ := O7.reads
          have hlen : (P ++ [(sta, sto)]).length = P.length + 1 := by rw [List.length_append]; rfl
          rw [hlen] at hvv
          subst hvv
          have MN : Hid (StSt (w.heap.size + 1) W (w7.setCell ⟨w.heap.size + 1, 0, none⟩ (.slice va (P.length + 1) vc)) (P ++ [(sta, sto)]) 0) := by
            refine ⟨C7.trans (Chg.setCell (B := fun k => k = w.heap.size + 1) ⟨w.heap.size + 1, 0, none⟩ _ rfl), ⟨_, World.cell?_setCell_same _ _ _ r0, ?_, HV7.out⟩, ?_, by rw [World.frozen?_setCell]; exact rf0, by rw [World.frozen?_setCell]; exact rf1⟩
            · exact rowSame HO7.out (fun b hb => Below.heap_setCell _ _ _ _ (fun e => by have h9 := HV7.out b hb; dsimp only at e; omega))
            · rw [World.cell?_setCell_other _ _ _ _ (fun h => by simp only [Addr.mk.injEq] at h; omega)]; exact r1
          have E8 : Ext w (w7.setCell ⟨w.heap.size + 1, 0, none⟩ (.slice va (P.length + 1) vc)) := E7.set (by omega) _
          have HMZ := Lib.hid hlen
          clear hown7 hend7 hgr same7 O7 V7 C7 hlen EA E7 M3 V2 V3 rf1 r1
          go_wp2
          refine ⟨⟨k + 1, by omega, by go_num, ⟨_, 0, MN, .inl ⟨rfl, by rw [HMZ.out]; omega, by rw [HMZ.out]; omega, HST.out⟩⟩, E8⟩, by simp [intOf]; omega⟩
      | none =>
        rw [hr] at hst
        simp only at hst
        by_cases hys : (((ws.map ByteArray.toList).drop (k + 1)).length = 0 ∧ P.length ≠ 0)
        · rw [if_pos hys] at hst
          have hke : k + 1 = ws.length := by
            have := hys.1
            rw [List.length_drop, List.length_map] at this; omega
          have hk0 : ¬ (k : Int) = 0 := by have := hys.2; omega
          have hk1 : ¬ k = 0 := by omega
          cases hn : numL y.toList with
          | none => rw [hn] at hst; cases hst
          | some n =>
            rw [hn] at hst
            simp only at hst
            by_cases hn0 : n = 0
            · rw [if_pos hn0] at hst; cases hst
            rw [if_neg hn0] at hst
            have HX : Hid ((P, n) = X) := Option.some.inj hst
            have HRD : Hid (rdOf (readL y.toList) = (stk0, false)) := by show _ = _; rw [hr]; rfl
            have HNN := Lib.hid hn
            have hys2 := hys.2
            clear hz hst hr hn hys
            go_wp2_with fail
            refine (read_any y _ _ _ HRD.out).mono ?_
            rintro e w3 ⟨rfl, hE3⟩
            dsimp only
            have E3 : Ext w w3 := he.trans hE3
            have M3 := Lib.hid (M.out.ext hE3)
            have v1 := hE3.cell v1
            have q1 := hE3.cell q1
            have t1 := hE3.cell t1
            have z1 := cell_lt v1
            have z2 := cell_lt t1
            dsimp only at z1 z2
            have V2 := Lib.hid (v2.ext hE3)
            have V3 := Lib.hid v3
            have q2 := M3.out.f0
            have q3 := M3.out.f1
            clear M v2 v3 hE3
            go_wp2_with fail
            refine (Number_any y n _ HNN.out).mono ?_
            rintro e w5 ⟨rfl, hE5⟩
            have EN : Ext w3 w5 := extA
            have M5 := Lib.hid (M3.out.ext EN)
            have E5 : Ext w w5 := E3.trans EN
            have v1 := EN.cell v1
            have q1 := EN.cell q1
            have q2 := M5.out.f0
            have q3 := M5.out.f1
            have O5 := Lib.hid (V2.out.ext EN)
            have MN : Hid (StSt (w.heap.size + 1) W (w5.setCell ⟨w.heap.size + 1, 1, none⟩ (.int .i64 n)) P n) := by
              refine ⟨M5.out.ch.trans (Chg.setCell (B := fun k => k = w.heap.size + 1) ⟨w.heap.size + 1, 1, none⟩ _ rfl), ⟨vv, ?_, ?_, V3.out⟩, World.cell?_setCell_same _ _ _ q1, by rw [World.frozen?_setCell]; exact q2, by rw [World.frozen?_setCell]; exact q3⟩
              · rw [World.cell?_setCell_other _ _ _ _ (fun h => by simp only [Addr.mk.injEq] at h; omega)]; exact v1
              · exact rowSame O5.out (fun b hb => Below.heap_setCell _ _ _ _ (fun e => by have h9 := V3.out b hb; dsimp only at e; omega))
            have E8 : Ext w (w5.setCell ⟨w.heap.size + 1, 1, none⟩ (.int .i64 n)) := E5.set (by omega) _
            have hkl : (k : Int) + 1 = (ws.length : Int) := by omega
            have hkm : ¬ ((k : Int) < (ws.length : Int) - 1) := by omega
            have hwm : IntKind.i64.wrap ((ws.length : Int) - 1) = (ws.length : Int) - 1 := IntWalk.i64_in _ (by omega)
            have hb1 : (n == 0) = false := by simpa using hn0
            have hb2 : ((k : Int) == 0) = false := by simpa using hk0
            have hb3 : decide ((k : Int) < (ws.length : Int) - 1) = false := decide_eq_false hkm
            clear hE5 EN M3 V2 M5 O5
            go_wp2
            refine ⟨⟨k + 1, by omega, by go_num, ⟨P, n, MN, .inr ⟨hke, HX.out.symm⟩⟩, E8⟩, by simp [intOf]; omega⟩
        · rw [if_neg hys] at hst; cases hst
    · have hkk : k = ws.length := by omega
      have HX : Hid (X = (P, wt)) := by
        rcases hz.out with h | h
        · obtain ⟨rfl, _, _, h3⟩ := h
          rw [List.drop_eq_nil_of_le (by rw [List.length_map]; omega)] at h3
          exact (Option.some.inj h3).symm
        · exact h.2
      obtain ⟨vv, v1, v2, v3⟩ := M.out.v
      have q1 := M.out.c1
      have z1 := cell_lt v1
      dsimp only at z1
      obtain ⟨va, vc, rfl, hva, hvl, _⟩ := v2.reads
      have hck := HCK.out
      rw [HX.out] at hck
      have HCK2 := Lib.hid hck
      have HVA := Lib.hid hva
      have HVL := Lib.hid hvl
      have V2 := Lib.hid v2
      have V3 := Lib.hid v3
      have u0 := hch.cell (p := ⟨w.heap.size, 0, none⟩) (by show ¬ w.heap.size = w.heap.size + 1; omega) c0
      have u1 := hch.cell (p := ⟨w.heap.size, 1, none⟩) (by show ¬ w.heap.size = w.heap.size + 1; omega) c1
      have y0 := (hch.frozen (p := ⟨w.heap.size, 0, none⟩) (by show ¬ w.heap.size = w.heap.size + 1; omega) c0).trans g0
      have y1 := (hch.frozen (p := ⟨w.heap.size, 1, none⟩) (by show ¬ w.heap.size = w.heap.size + 1; omega) c1).trans g1
      clear hz hck hva hvl v2 v3 M hch
      go_wp2_with fail
      refine (CheckStepR_any P wt va vc _ HVL.out HVA.out).mono ?_
      rintro e w5 ⟨rfl, hE5⟩
      rw [HCK2.out]
      have y0 := (Below.frozen (p := ⟨w.heap.size, 0, none⟩) hE5 (cell_lt u0)).trans y0
      have y1 := (Below.frozen (p := ⟨w.heap.size, 1, none⟩) hE5 (cell_lt u1)).trans y1
      have u0 := hE5.cell u0
      have u1 := hE5.cell u1
      have v1 := hE5.cell v1
      have q1 := hE5.cell q1
      have O5 := Lib.hid (V2.out.ext hE5)
      have E5 : Ext w w5 := he.trans hE5
      have EF : Ext w ((w5.setCell ⟨w.heap.size, 0, none⟩ (.slice va P.length vc)).setCell ⟨w.heap.size, 1, none⟩ (.int .i64 wt)) := (E5.set (by omega) _).set (by omega) _
      have HFO : Hid (OwnsK ((w5.setCell ⟨w.heap.size, 0, none⟩ (.slice va P.length vc)).setCell ⟨w.heap.size, 1, none⟩ (.int .i64 wt)) (.slice va P.length vc) P) :=
        rowSame O5.out (fun b hb => by
          have h9 := V3.out b hb
          refine (Below.heap_setCell _ _ _ _ (fun e => ?_)).trans (Below.heap_setCell _ _ _ _ (fun e => ?_)) <;> dsimp only at e <;> omega)
      have HFV : Hid (∀ b, (Value.slice va P.length vc).ownBlock = some b → w.heap.size ≤ b) := fun b hb => by have h9 := V3.out b hb; omega
      clear V2 V3 O5 hE5 HVA he
      go_wp2
      refine bodyPost_ret (v := .tuple #[.agg #[.slice va P.length vc, .int .i64 wt], .int .i64 0]) (by rw [results_cell_tmp1 rfl]; go_simp) rfl ?_
      rw [HX.out]
      exact ⟨_, rfl, HFO.out, HFV.out, EF⟩
end Go.Proofs.YtdolibeceijnnaaDoor
namespace Go.Proofs.YtdolibeceijnnaaDoor
open Go.RowKit
theorem cutGo_small (s b : ByteArray) (n i f : Nat) : ∀ x ∈ cutGo s b n i f, x.size ≤ s.size := by
  have hx : ∀ i j : Nat, (s.extract i j).size ≤ s.size := fun i j => by rw [ByteArray.size_extract]; omega
  induction n generalizing i f with
  | zero => intro x h; simp only [cutGo, List.mem_singleton] at h; subst h; exact hx _ _
  | succ n ih =>
    intro x h
    unfold cutGo at h
    split at h
    · split at h
      · split at h
        · rcases List.mem_cons.1 h with rfl | h
          · exact hx _ _
          · exact ih _ _ _ h
        · exact ih _ _ _ h
      · exact ih _ _ _ h
    · rw [List.mem_singleton] at h; subst h; exact hx _ _
def olB (w : World) : Nat → Prop := fun b => b < w.heap.size
def StpsPost (l : List Stp) (w : World) (e : Ending) (w' : World) : Prop := ∃ v, e = .returned (.tuple #[v, .int .i64 0, .int .i64 0]) ∧ QU (olB w) w' v l ∧ Ext w w'
theorem OwnsP.app2 {X : Nat → Prop} {A B : World} {v v' : Value} {ys : List Stp} {u : Value} {y : Stp} {ps : List (Value × Stp)} (h1 : ps.map (·.2) = ys) (h3 : ∀ p ∈ ps, SliceKX (fun b => X b ∨ v.ownBlock = some b) A p.1 p.2.1) (hu : SliceKX (fun b => X b ∨ v.ownBlock = some b) A u y.1) (_hX : ∀ b, X b → b < A.heap.size)
    (hown : B.ownsRow 0 65 2 v' (ys.length + 1) (flat2 (pairP ps) ++ [u, .int .i64 y.2])) (he : AppEnd A B v v') : OwnsP X B v' (ys ++ [y]) := by
  refine ⟨ps ++ [(u, y)], by rw [List.map_append, h1]; rfl, ?_, ?_⟩
  · unfold pairP at hown ⊢
    rw [List.length_append, List.map_append, flat2_append]
    exact hown
  · have c : Chg (fun b => X b ∨ v.ownBlock = some b) A B := by
      rcases he with ⟨_, _, hg⟩ | ⟨_, hx⟩
      · exact ⟨hg.size, fun k hk hn => hg.block k hk (fun e => hn (.inr e.symm))⟩
      · exact Chg.ext hx
    have hy : ∀ b, b < A.heap.size → (X b ∨ v'.ownBlock = some b) → (X b ∨ v.ownBlock = some b) := fun b hb hh => by
      rcases hh with hh | hh
      · exact .inl hh
      · rcases he with ⟨hv, _, _⟩ | ⟨hv, _⟩
        · exact .inr (hv ▸ hh)
        · rw [hv] at hh; cases hh; omega
    intro p hp
    rcases List.mem_append.1 hp with hp | hp
    · exact (h3 p hp).chgX c hy
    · rcases List.mem_singleton.1 hp with rfl
      exact hu.chgX c hy
set_option maxHeartbeats 8000000 in
set_option maxRecDepth 100000 in
theorem PrsR_any (s : ByteArray) (L : List Stp) (w : World) (h : parseL s.toList = some L) :
    Calls Tryd.prog 78 #[.string s] w (StpsPost L w) := by
  obtain ⟨h1, h64, hsz, h0⟩ : stepsL ((cutS s ⟨#[59, 32]⟩).map ByteArray.toList) = some L ∧ L.length ≤ 64 ∧ s.size ≤ 4096 ∧ s.size ≠ 0 := by
    unfold parseL at h
    have h2 := Option.filter_eq_some_iff.1 h
    rw [toL_len] at h2
    have h3 := of_decide_eq_true h2.2
    refine ⟨?_, h3⟩
    rw [cutS_map, show (⟨#[59, 32]⟩ : ByteArray).toList = [59, 32] by rw [ByteArray.toList_eq]]
    exact h2.1
  obtain ⟨ws, hws⟩ : ∃ ws, ws = cutS s ⟨#[59, 32]⟩ := ⟨_, rfl⟩
  have hsm : ∀ x ∈ ws, x.size ≤ 5000 := fun x hx => by
    rw [hws] at hx
    have := cutGo_small _ _ _ _ _ x hx
    omega
  rw [← hws] at h1
  unfold stepsL at h1
  have h2 := allSome_get h1
  have hlen : ws.length = L.length := by have := congrArg List.length h2; simpa using this
  have hln1 : ws.length ≤ L.length := by omega
  have hln2 : L.length ≤ ws.length := by omega
  have HS : Hid (∀ k, k < ws.length → stepL (ws.getD k str0).toList = some (L.getD k stp0) ∧ (ws.getD k str0).size ≤ 5000) := fun k hk => by
    have := congrArg (fun l => l[k]?) h2
    simp only [List.getElem?_map] at this
    rw [List.getElem?_eq_getElem hk, List.getElem?_eq_getElem (by omega)] at this
    have e1 : ws.getD k str0 = ws[k] := by rw [List.getD_eq_getElem?_getD, List.getElem?_eq_getElem hk]; rfl
    have e2 : L.getD k stp0 = L[k] := by rw [List.getD_eq_getElem?_getD, List.getElem?_eq_getElem (by omega)]; rfl
    rw [e1, e2]
    exact ⟨Option.some.inj this, hsm _ (List.getElem_mem hk)⟩
  have hs1 : ¬ ((4096 : Int) < (s.size : Int)) := by omega
  have hne : (s.toList == ([] : List UInt8)) = false := by
    rw [← toL_len] at h0
    cases hs : s.toList with
    | nil => rw [hs] at h0; simp at h0
    | cons c l => rfl
  clear h h1 h2 h0 hsm hlen
  obtain ⟨i0, hi, hi0, hi1, hi2⟩ := info_parts infoStp
  go_enter Tryd.func78, Tryd.ntmps78
  go_wp2_with fail
  refine (Cut_any s ⟨#[59, 32]⟩ _ (by omega) (by decide) (by decide)).mono ?_
  rintro e W ⟨ta, tc, rfl, hcs, hls, _, hE⟩
  rw [← hws] at hcs hls ⊢
  unfold maxLen at hls
  have HCS := Lib.hid hcs
  clear hcs hws
  go_wp2
  go_loopw [8, 7, 5] (fun i m v wr => ∃ k : Nat, k ≤ ws.length ∧ i = .int .i64 k ∧ (∃ q : Int, m = .int .i64 q) ∧ (∃ vv, v = vv ∧ Hid (OwnsP (olB w) wr vv (L.take k) ∧ ∀ b, vv.ownBlock = some b → W.heap.size ≤ b)) ∧ Ext W wr) (fun i _ _ _ => ws.length - (intOf i).toNat)
  case atStart => exact ⟨0, by omega, rfl, ⟨0, rfl⟩, ⟨_, rfl, OwnsP.nil _ _, fun b hb => by cases hb⟩, Ext.refl _⟩
  case round =>
    obtain ⟨k, hk, rfl, ⟨q, rfl⟩, ⟨vv, hvv, hO⟩, he⟩ := hrel
    obtain rfl := hvv.symm
    have O2 := Lib.hid hO.out.1
    have OB := Lib.hid hO.out.2
    have hEw : w.heap.size ≤ W.heap.size := hE.size
    have hnx : ∀ b, vv.ownBlock = some b → ¬ olB w b := fun b hb => by have := hO.out.2 b hb; unfold olB; omega
    clear hO
    by_cases hlt : k < ws.length
    · obtain ⟨hst, hsmk⟩ := HS.out k hlt
      obtain ⟨tb, tf, rfl, t1⟩ := HCS.out k hlt
      have HT0 := Lib.hid t1
      have t1 := he.cell t1
      have HLT : Hid (L.take (k + 1) = L.take k ++ [L.getD k stp0]) := by
        show _ = _
        rw [List.take_succ_eq_append_getElem (by omega), List.getD_eq_getElem?_getD, List.getElem?_eq_getElem (by omega)]; rfl
      have HTL : Hid ((L.take k).length = k) := by show _ = _; rw [List.length_take]; omega
      generalize L.take k = P at O2 HLT HTL
      have hk64 : ((k : Int) == 64) = false := by simp; omega
      generalize ws.getD k str0 = y at t1 hst hsmk HT0
      generalize L.getD k stp0 = x at hst HLT
      have HST := Lib.hid hst
      clear hst
      obtain ⟨st, wait⟩ := x
      go_wp2_with fail
      refine (Step_any y (st, wait) _ hsmk HST.out).mono ?_
      rintro e w3 ⟨u, rfl, hu, hub, hE3⟩
      dsimp only at hu
      obtain ⟨sa, sc, rfl, hcs, hls2, hsb⟩ := hu.reads
      have HCK := Lib.hid hcs
      have HSB : Hid (∀ b off, sa = some ⟨b, off, none⟩ → st ≠ [] → wr.heap.size ≤ b) := fun b off hb hne => hub b (hsb b off hb hne).2.1
      have HU := Lib.hid hu
      have HUB := Lib.hid hub
      have t1 := hE3.cell t1
      have z1 := cell_lt t1
      dsimp only at z1
      have E3 : Ext W w3 := he.trans hE3
      have O3 := Lib.hid (O2.out.chg (Chg.ext hE3) hnx)
      have OLT : Hid (∀ b, vv.ownBlock = some b → b < wr.heap.size) := fun b hb => O2.out.lt hb
      clear hu hub hcs hsb hE3 O2
      have E6 : Ext w3 ((w3.alloc (.cells #[.slice sa st.length sc, .int .i64 wait] 65)).alloc (.cells #[.slice sa st.length sc, .int .i64 wait] 65)) := extA
      obtain ⟨ps, hp1, hp2, hp3⟩ := O3.out.chg (Chg.ext E6) hnx
      have HP3 := Lib.hid hp3
      have HP1 := Lib.hid hp1
      obtain ⟨F, hF⟩ : ∃ F, F = flat2 (pairP ps) := ⟨_, rfl⟩
      rw [← hF] at hp2
      have HF := Lib.hid hF
      have HP2 := Lib.hid hp2
      clear hp1 hp2 hp3 hF
      go_wp2_with (at_builtin; refine wpList_append1 _ rfl _ _ 22 rfl 65 i0 (.agg #[.slice none 0 0, .int .i64 0]) 2 32 Tryd.underlying22 hi hi0 hi1 hi2 rfl (by decide) vv P.length F rfl HP2.out ⟨w3.heap.size + 1, 0, none⟩ 1 1 (by decide) [.slice sa st.length sc, .int .i64 wait] rfl rfl ?hn ?c1 ?c2 ?c3 ?c4)
      case hn =>
        have hh := cells_one (w3.alloc (.cells #[.slice sa st.length sc, .int .i64 wait] 65)) [.slice sa st.length sc, .int .i64 wait] 65
        simpa using hh
      case c1 => intro u hu; simp at hu; rcases hu with rfl | rfl <;> rfl
      case c2 => rw [HTL.out]; unfold maxLen; omega
      case c3 => rw [HTL.out]; omega
      case c4 =>
        intro v' w7 hown7 hend7
        have hs6 := E6.size
        have hsW := E3.size
        have O7 : Hid (OwnsP (olB w) w7 v' (L.take (k + 1))) := by
          show OwnsP _ _ _ _
          rw [HLT.out]
          rw [HF.out] at hown7
          refine OwnsP.app2 (u := .slice sa st.length sc) (y := (st, wait)) HP1.out HP3.out ?_ (fun b hb => by unfold olB at hb; omega) hown7 hend7
          refine ⟨sa, sc, rfl, (HCK.out.ext E6), hls2, fun b off hb hne hx => ?_⟩
          rcases hx with hx | hx
          · unfold olB at hx
            have h1 := HSB.out b off hb hne
            have := he.size
            omega
          · have h1 := HSB.out b off hb hne
            have h2 := OLT.out b hx
            omega
        have B7 : Ext W w7 := (E3.trans E6).trans' (hend7.below (n := W.heap.size) (by omega) OB.out) (Nat.le_refl _)
        have OB7 : Hid (∀ b, v'.ownBlock = some b → W.heap.size ≤ b) := hend7.ge (n := W.heap.size) (by omega) OB.out
        have t7 := B7.cell (p := ⟨tb, tf + k, none⟩) (show W.cell? _ = _ from HT0.out)
        clear hown7 hend7 HP1 HP2 HP3 HF O3 E6 OB HSB HU HUB
        go_wp2
        refine ⟨⟨k + 1, by omega, by go_num, ⟨_, rfl⟩, ⟨v', rfl, O7.out, OB7.out⟩, B7⟩, by simp [intOf]; omega⟩
    · have hke : k = ws.length := by omega
      have HTE : Hid (L.take k = L) := by show _ = _; rw [hke, List.take_of_length_le (by omega)]
      go_wp2
      go_ret3
      exact ⟨_, rfl, ⟨by rw [← HTE.out]; exact O2.out, hnx⟩, hE.trans he⟩
end Go.Proofs.YtdolibeceijnnaaDoor
namespace Go.Proofs.YtdolibeceijnnaaDoor
open Go.RowKit
structure OfSt (o : Nat) (W0 wr : World) (m : Int) (u : Value) : Prop where
  be : Below o W0 wr
  c0 : wr.cell? ⟨o, 0, none⟩ = some (.int .i64 m)
  c1 : wr.cell? ⟨o, 1, none⟩ = some u
  f0 : wr.frozen? ⟨o, 0, none⟩ = false
def ofK (st : List Stk) (m : Int) : Int := st.foldl (fun m y => max m (y.1 + 1)) m
def Low (l : List Stp) : Prop := ∀ i, i < l.length → (l.getD i stp0).1.length ≤ 6 ∧ ∀ j, j < (l.getD i stp0).1.length → 0 ≤ ((l.getD i stp0).1.getD j stk0).1 ∧ ((l.getD i stp0).1.getD j stk0).1 < 6
theorem ofGo_take (l : List Stp) (m : Int) {k : Nat} (h : k < l.length) : ofGo (l.take (k + 1)) m = ofK (l.getD k stp0).1 (ofGo (l.take k) m) := by
  unfold ofGo
  rw [List.take_succ_eq_append_getElem h, List.foldl_append, List.getD_eq_getElem?_getD, List.getElem?_eq_getElem h]; rfl
theorem ofK_take (st : List Stk) (m : Int) {k : Nat} (h : k < st.length) : ofK (st.take (k + 1)) m = max (ofK (st.take k) m) ((st.getD k stk0).1 + 1) := by
  unfold ofK
  rw [List.take_succ_eq_append_getElem h, List.foldl_append, List.getD_eq_getElem?_getD, List.getElem?_eq_getElem h]; rfl
set_option maxHeartbeats 8000000 in
set_option maxRecDepth 100000 in
theorem Of_any (l : List Stp) (a : Option Addr) (cap : Nat) (w : World) (hl : l.length ≤ 64) (hc : CellsP w a l) (hlow : Low l) :
    Calls Tryd.prog 79 #[.slice a l.length cap] w fun r w' => r = .returned (.agg #[.int .i64 (ofGo l 0), .slice a l.length cap]) ∧ Ext w w' := by
  have HC := Lib.hid hc
  have HLO := Lib.hid hlow
  obtain ⟨G, hG⟩ : ∃ G, G = ofGo l 0 := ⟨_, rfl⟩
  rw [← hG]
  have HG := Lib.hid hG
  clear hc hlow hG
  go_enter Tryd.func79, Tryd.ntmps79
  go_wp2
  have E1 : Ext w ((w.alloc (.cells #[.int .i64 0, .slice none 0 0] 24)).alloc (.cells #[.int .i64 0, .slice a l.length cap] 24)) := extA
  have c0 : ((w.alloc (.cells #[.int .i64 0, .slice none 0 0] 24)).alloc (.cells #[.int .i64 0, .slice a l.length cap] 24)).cell? ⟨w.heap.size, 0, none⟩ = some (.int .i64 0) := by go_simp
  have c1 : ((w.alloc (.cells #[.int .i64 0, .slice none 0 0] 24)).alloc (.cells #[.int .i64 0, .slice a l.length cap] 24)).cell? ⟨w.heap.size, 1, none⟩ = some (.slice none 0 0) := by go_simp
  have f0 : ((w.alloc (.cells #[.int .i64 0, .slice none 0 0] 24)).alloc (.cells #[.int .i64 0, .slice a l.length cap] 24)).frozen? ⟨w.heap.size, 0, none⟩ = false := by go_simp
  have f1 : ((w.alloc (.cells #[.int .i64 0, .slice none 0 0] 24)).alloc (.cells #[.int .i64 0, .slice a l.length cap] 24)).frozen? ⟨w.heap.size, 1, none⟩ = false := by go_simp
  have M0 : Hid (OfSt (w.heap.size + 1) ((w.alloc (.cells #[.int .i64 0, .slice none 0 0] 24)).alloc (.cells #[.int .i64 0, .slice a l.length cap] 24)) ((w.alloc (.cells #[.int .i64 0, .slice none 0 0] 24)).alloc (.cells #[.int .i64 0, .slice a l.length cap] 24)) (ofGo (l.take 0) 0) (.slice a l.length cap)) := ⟨Below.refl _ _, by show _ = some (Value.int .i64 0); go_simp, by go_simp, by go_simp⟩
  generalize ((w.alloc (.cells #[.int .i64 0, .slice none 0 0] 24)).alloc (.cells #[.int .i64 0, .slice a l.length cap] 24)) = W at E1 c0 c1 f0 f1 M0 ⊢
  go_loopw [4] (fun i wr => ∃ k : Nat, k ≤ l.length ∧ i = .int .i64 k ∧ Hid (OfSt (w.heap.size + 1) W wr (ofGo (l.take k) 0) (.slice a l.length cap))) (fun i _ => l.length - (intOf i).toNat)
  case atStart => exact ⟨0, by omega, rfl, M0⟩
  case round =>
    obtain ⟨k, hk, rfl, M⟩ := hrel
    clear M0
    obtain ⟨wo, hwo⟩ : ∃ wo : World, wo = wr := ⟨_, rfl⟩
    subst hwo
    by_cases hlt : k < l.length
    · obtain ⟨hl6, hlo⟩ := HLO.out k hlt
      obtain ⟨b, off, v, ha, p1, hv, p2⟩ := HC.out k hlt
      obtain ⟨sa, sc, rfl, hcs, hls⟩ := hv
      have HGS := Lib.hid (ofGo_take l 0 hlt)
      generalize l.getD k stp0 = x at hl6 hlo p1 p2 hcs hls HGS
      obtain ⟨st, wait⟩ := x
      dsimp only at hl6 hlo p1 p2 hcs hls HGS
      have HLX := Lib.hid hlo
      have HCS := Lib.hid hcs
      have P1 := Lib.hid p1
      have hbz := cell_lt p1
      dsimp only at hbz
      generalize ofGo (l.take k) 0 = M1 at M HGS
      have M2 : Hid (OfSt (w.heap.size + 1) W wo (ofK (st.take 0) M1) (.slice a l.length cap)) := M.out
      clear hlo hcs M p1 p2
      subst ha
      go_wp2
      go_loopw [5] (fun i wr => ∃ j : Nat, j ≤ st.length ∧ i = .int .i64 j ∧ Hid (OfSt (w.heap.size + 1) W wr (ofK (st.take j) M1) (.slice (some ⟨b, off, none⟩) l.length cap))) (fun i _ => st.length - (intOf i).toNat)
      case atStart => exact ⟨0, by omega, rfl, M2⟩
      case round =>
        obtain ⟨j, hj, rfl, M⟩ := hrel
        clear M2
        have hbe := M.out.be
        have he := E1.trans' hbe (by omega)
        have m1 := he.cell P1.out
        by_cases hjl : j < st.length
        · obtain ⟨kb, ko, ha, r1, r2⟩ := HCS.out j hjl
          subst ha
          have hy := HLX.out j hjl
          have HKS := Lib.hid (ofK_take st M1 hjl)
          generalize st.getD j stk0 = y at r1 r2 hy HKS
          obtain ⟨ya, yo⟩ := y
          dsimp only at r1 r2 hy HKS
          have hkz := cell_lt r1
          dsimp only at hkz
          have r1 := he.cell r1
          generalize ofK (st.take j) M1 = M3 at M HKS
          have m0 := M.out.c0
          have mc := M.out.c1
          have mf := M.out.f0
          have hoz := cell_lt m0
          dsimp only at hoz
          have hw1 : IntKind.i64.wrap (ya + 1) = ya + 1 := IntWalk.i64_in _ (by omega)
          go_wp2
          go_region
          have HMX : Hid (ofK (st.take (j + 1)) M1 = if M3 < ya + 1 then ya + 1 else M3) := by
            show _ = _
            rw [HKS.out]
            split <;> omega
          generalize (if M3 < ya + 1 then ya + 1 else M3) = M4 at HMX ⊢
          have MN : Hid (OfSt (w.heap.size + 1) W ((wr.setCell ⟨w.heap.size + 1, 0, none⟩ (.int .i64 M4)).drew) (ofK (st.take (j + 1)) M1) (.slice (some ⟨b, off, none⟩) l.length cap)) := by
            have ED : Ext (wr.setCell ⟨w.heap.size + 1, 0, none⟩ (.int .i64 M4)) ((wr.setCell ⟨w.heap.size + 1, 0, none⟩ (.int .i64 M4)).drew) := (Ext.refl _).drew
            have d0 : (wr.setCell ⟨w.heap.size + 1, 0, none⟩ (.int .i64 M4)).cell? ⟨w.heap.size + 1, 0, none⟩ = some (.int .i64 M4) := World.cell?_setCell_same _ _ _ m0
            refine ⟨(hbe.setCell (p := ⟨w.heap.size + 1, 0, none⟩) (Nat.le_refl _) _).drew, ?_, ED.cell ?_, ?_⟩
            · rw [HMX.out]; exact ED.cell d0
            · rw [World.cell?_setCell_other _ _ _ _ (fun h => by simp only [Addr.mk.injEq] at h; omega)]; exact mc
            · exact (Below.frozen (p := ⟨w.heap.size + 1, 0, none⟩) ED (cell_lt d0)).trans (by rw [World.frozen?_setCell]; exact mf)
          generalize (wr.setCell ⟨w.heap.size + 1, 0, none⟩ (.int .i64 M4)).drew = w8 at MN ⊢
          clear M HKS HMX m0 mc mf
          go_wp2
          refine ⟨⟨j + 1, by omega, by go_num, MN⟩, by simp [intOf]; omega⟩
        · have hje : j = st.length := by omega
          have MN : Hid (OfSt (w.heap.size + 1) W wr (ofGo (l.take (k + 1)) 0) (.slice (some ⟨b, off, none⟩) l.length cap)) := by
            show OfSt _ _ _ _ _
            have h9 := M.out
            rw [hje, List.take_length] at h9
            rw [HGS.out]
            exact h9
          clear M
          go_wp2
          refine ⟨⟨k + 1, by omega, by go_num, MN⟩, by simp [intOf]; omega⟩
    · have hke : k = l.length := by omega
      have HGE : Hid (ofGo (l.take k) 0 = G) := by show _ = _; rw [hke, List.take_length]; exact HG.out.symm
      have m0 := M.out.c0
      rw [HGE.out] at m0
      have m1 := M.out.c1
      have hbe := M.out.be
      have he := E1.trans' hbe (by omega)
      have hzo := cell_lt m0
      dsimp only at hzo
      have d0 := cellB hbe (p := ⟨w.heap.size, 0, none⟩) (by show w.heap.size < _; omega) c0
      have d1 := cellB hbe (p := ⟨w.heap.size, 1, none⟩) (by show w.heap.size < _; omega) c1
      have g0 := (Below.frozen (p := ⟨w.heap.size, 0, none⟩) hbe (by show w.heap.size < _; omega)).trans f0
      have g1 := (Below.frozen (p := ⟨w.heap.size, 1, none⟩) hbe (by show w.heap.size < _; omega)).trans f1
      have EF : Ext w ((wo.setCell ⟨w.heap.size, 0, none⟩ (.int .i64 G)).setCell ⟨w.heap.size, 1, none⟩ (.slice a l.length cap)) := (he.set (by omega) _).set (by omega) _
      clear M hbe he HGE HG
      go_wp2
      refine bodyPost_ret (v := .agg #[.int .i64 G, .slice a l.length cap]) (by rw [results_cell1 rfl]; go_simp) rfl ⟨rfl, EF⟩
end Go.Proofs.YtdolibeceijnnaaDoor
namespace Go.Proofs.YtdolibeceijnnaaDoor
open Go.RowKit
theorem OwnsP.room {X : Nat → Prop} {A : World} {v : Value} {ys : List Stp} (h : OwnsP X A v ys) : ∃ a cap, v = .slice a ys.length cap ∧ CellsP A a ys ∧ ys.length ≤ maxLen ∧ Room a ys.length cap := by
  obtain ⟨a, cap, hv, hc, hm⟩ := h.reads
  obtain ⟨ps, h1, h2, h3⟩ := h
  exact ⟨a, cap, hv, hc, hm, rowRoom h2 hv⟩
def RmPost (q : Sq) (w : World) (e : Ending) (w' : World) : Prop := ∃ a cap, e = .returned (.agg #[.int .i64 q.1, .slice a q.2.length cap]) ∧ CellsP w' a q.2 ∧ q.2.length ≤ maxLen ∧ Room a q.2.length cap ∧ Ext w w'
def RmPost3 (q : Sq) (w : World) (e : Ending) (w' : World) : Prop := ∃ a cap, e = .returned (.tuple #[.agg #[.int .i64 q.1, .slice a q.2.length cap], .int .i64 0, .int .i64 0]) ∧ (∀ B, Chg (olB w) w' B → CellsP B a q.2) ∧ q.2.length ≤ maxLen ∧ Room a q.2.length cap ∧ Ext w w'
theorem results_cell_tmp2s' {fn : Func} {p u z : Tmp} {ty : TypeId} (h : fn.results = #[.cell p ty, .tmp u, .tmp z]) (tmps : Array Value) (P : Program) (w : World) :
    (results fn tmps).run P w = ((asAddr (tmps.getD p undef)).run P w).andThen fun a w₁ => ((loadVar ty a).run P w₁).andThen fun x w₂ => .ok (.tuple #[x, tmps.getD u undef, tmps.getD z undef]) w₂ := by
  simp only [results, h]
  simp [Sem.run_bind, Result.andThen]
set_option maxHeartbeats 4000000 in
theorem Parse_any (s : ByteArray) (q : Sq) (w : World) (h : sqL s.toList = some q) :
    Calls Tryd.prog 55 #[.string s] w (RmPost3 q w) := by
  obtain ⟨L, hL, hq, hck⟩ : ∃ L, parseL s.toList = some L ∧ q = (ofGo L 0, L) ∧ ckSeq (ofGo L 0, L) = 0 := by
    unfold sqL at h
    obtain ⟨h1, h2⟩ := Option.filter_eq_some_iff.1 h
    obtain ⟨L, h3, h4⟩ := Option.map_eq_some_iff.1 h1
    subst h4
    exact ⟨L, h3, rfl, of_decide_eq_true h2⟩
  subst hq
  obtain ⟨hN1, hN6, hl0, hl64, hwk, _, _⟩ := ckSeq_zero hck
  have HF := Lib.hid (ckWalk_fine hwk)
  have hlow : Low L := fun i hi => by
    obtain ⟨f1, f2⟩ := HF.out i hi
    refine ⟨(ckStep_strokes f1).2.1, fun j hj => ?_⟩
    have := f2 j hj
    omega
  have HLW := Lib.hid hlow
  have HCK := Lib.hid hck
  clear h hck hwk hlow
  go_enter Tryd.func55, Tryd.ntmps55
  go_wp2_with fail
  have E1 : Ext w (w.alloc (.cells #[.int .i64 0, .slice none 0 0] 24)) := extA
  have c0 : (w.alloc (.cells #[.int .i64 0, .slice none 0 0] 24)).cell? ⟨w.heap.size, 0, none⟩ = some (.int .i64 0) := by go_simp
  have c1 : (w.alloc (.cells #[.int .i64 0, .slice none 0 0] 24)).cell? ⟨w.heap.size, 1, none⟩ = some (.slice none 0 0) := by go_simp
  have f0 : (w.alloc (.cells #[.int .i64 0, .slice none 0 0] 24)).frozen? ⟨w.heap.size, 0, none⟩ = false := by go_simp
  have f1 : (w.alloc (.cells #[.int .i64 0, .slice none 0 0] 24)).frozen? ⟨w.heap.size, 1, none⟩ = false := by go_simp
  generalize (w.alloc (.cells #[.int .i64 0, .slice none 0 0] 24)) = W at E1 c0 c1 f0 f1 ⊢
  refine (PrsR_any s L _ hL).mono ?_
  rintro e w1 ⟨v, rfl, hv, hE⟩
  obtain ⟨a, cap, rfl, hc, hm, hr⟩ := hv.1.room
  have HV := Lib.hid hv
  have HC := Lib.hid hc
  have HM := Lib.hid hm
  have HR := Lib.hid hr
  clear hc hm hr hv
  have hne : ¬ ((L.length : Int) = 0) := by omega
  have hne2 : ¬ L.length = 0 := by omega
  go_wp2_with fail
  refine (Of_any L a cap _ hl64 HC.out HLW.out).mono ?_
  rintro e w2 ⟨rfl, hE2⟩
  have C2 := Lib.hid (HC.out.ext hE2)
  go_wp2_with fail
  refine (CheckR_any (ofGo L 0) L a cap _ HM.out C2.out).mono ?_
  rintro e w3 ⟨rfl, hE3⟩
  rw [HCK.out]
  have C3 := Lib.hid (C2.out.ext hE3)
  go_wp2_with fail
  refine (Of_any L a cap _ hl64 C3.out HLW.out).mono ?_
  rintro e w4 ⟨rfl, hE4⟩
  have E14 := ((hE.trans hE2).trans hE3).trans hE4
  have E4 := E1.trans E14
  have C4 := Lib.hid (C3.out.ext hE4)
  have d0 := E14.cell c0
  have d1 := E14.cell c1
  have g0 := (Below.frozen (p := ⟨w.heap.size, 0, none⟩) E14 (cell_lt c0)).trans f0
  have g1 := (Below.frozen (p := ⟨w.heap.size, 1, none⟩) E14 (cell_lt c1)).trans f1
  have hzW : olB W w.heap.size := cell_lt c0
  have hz := cell_lt d0
  dsimp only at hz
  have EF : Ext w ((w4.setCell ⟨w.heap.size, 0, none⟩ (.int .i64 (ofGo L 0))).setCell ⟨w.heap.size, 1, none⟩ (.slice a L.length cap)) := (E4.set (by omega) _).set (by omega) _
  have hCF : Hid (∀ B, Chg (olB w) ((w4.setCell ⟨w.heap.size, 0, none⟩ (.int .i64 (ofGo L 0))).setCell ⟨w.heap.size, 1, none⟩ (.slice a L.length cap)) B → CellsP B a L) := fun B hB => by
    obtain ⟨a', cap', e9, hc9, _⟩ := (HV.out.1.chg ((((Chg.ext ((hE2.trans hE3).trans hE4)).trans (Chg.setCell (B := olB W) ⟨w.heap.size, 0, none⟩ (.int .i64 (ofGo L 0)) hzW)).trans (Chg.setCell (B := olB W) ⟨w.heap.size, 1, none⟩ (.slice a L.length cap) hzW)).trans (hB.mono (fun b hb => by unfold olB at *; have := E1.size; omega))) HV.out.2).reads
    cases e9
    exact hc9
  go_wp2
  refine bodyPost_ret (v := .tuple #[.agg #[.int .i64 (ofGo L 0), .slice a L.length cap], .int .i64 0, .int .i64 0]) (by rw [results_cell_tmp2s' rfl]; go_simp) rfl ⟨a, cap, rfl, hCF.out, HM.out, HR.out, EF⟩
end Go.Proofs.YtdolibeceijnnaaDoor
namespace Go.Proofs.YtdolibeceijnnaaDoor
open Go.RowKit
end Go.Proofs.YtdolibeceijnnaaDoor
namespace Go.Proofs.YtdolibeceijnnaaDoor
open Go.RowKit
end Go.Proofs.YtdolibeceijnnaaDoor
namespace Go.Proofs.YtdolibeceijnnaaDoor
open Go.RowKit
def qf : Sq := (1, [([(0, true)], 0), ([(0, false)], 0)])
def QPost (q : Sq) (w : World) (e : Ending) (w' : World) : Prop := ∃ a cap, e = .returned (.tuple #[.agg #[.int .i64 q.1, .slice a q.2.length cap], .int .i64 0]) ∧ CellsP w' a q.2 ∧ Ext w w'
theorem SeqErr.q {s q : Sq} {er : Int} {w : World} {e : Ending} {w' : World} (h : SeqErr s er w e w') (hs : s = q) (he : er = 0) : QPost q w e w' := by
  subst hs
  subst he
  obtain ⟨v, rfl, ⟨u, rfl, a, cap, rfl, hc, _⟩, hE⟩ := h
  exact ⟨a, cap, rfl, hc, hE⟩
theorem aw_Equal (l : List Int) (hl : l.length ≤ maxLen) (a b : Option Addr) (ca cb : Nat) (w : World) (hc : CellsI w a l) (hd : CellsI w b l) : Calls Tryd.prog 16 #[.slice a l.length ca, .slice b l.length cb] w fun r w' => r = .returned (.bool true) ∧ Ext w w' :=
  (EqualInt_any l l a b ca cb w hl hc hl hd).mono fun e w' h => ⟨by rw [h.1]; simp, h.2⟩
end Go.Proofs.YtdolibeceijnnaaDoor
namespace Go.Proofs.YtdolibeceijnnaaDoor
open Go.RowKit
theorem cellsI_two {w : World} {b : Nat} {x y : Int} (h : w.cell? ⟨b, 0, none⟩ = some (.int .i64 x)) (k : w.cell? ⟨b, 1, none⟩ = some (.int .i64 y)) : CellsI w (some ⟨b, 0, none⟩) [x, y] := fun i hi => by
  have : i = 0 ∨ i = 1 := by simp at hi; omega
  rcases this with rfl | rfl
  · exact ⟨b, 0, rfl, by simpa using h⟩
  · exact ⟨b, 0, rfl, by simpa using k⟩
end Go.Proofs.YtdolibeceijnnaaDoor
