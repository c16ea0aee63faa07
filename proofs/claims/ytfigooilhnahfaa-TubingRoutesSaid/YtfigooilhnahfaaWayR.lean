/- The reference's Way. -/
import Derived.Test.YtfigooilhnahfaaLenR
namespace Go.Proofs.Ytfigooilhnahfaa
open Go.RowKit

structure WyL (g : Gr) (p q : Pt) (w1 : World) (k : Nat) (a : Pt) (L : List Pt) (v : Value) (atb : Nat) (w : World) : Prop where
  eq : way g p q = L ++ wayGo g (dst g q) k a
  isd : IsD g q a k
  op : opn g a = true
  be : Ext w1 w
  a1 : w.cell? ⟨atb, 0, none⟩ = some (.int .i64 a.1)
  a2 : w.cell? ⟨atb, 1, none⟩ = some (.int .i64 a.2)
  a3 : w.frozen? ⟨atb, 0, none⟩ = false
  a4 : w.frozen? ⟨atb, 1, none⟩ = false
  own : Owns w v L
  vb : ∀ b, v.ownBlock = some b → w1.heap.size ≤ b ∧ b ≠ atb
  am : w1.heap.size ≤ atb
def sliceLn : Value → Nat
  | .slice _ n _ => n
  | _ => 0

set_option maxHeartbeats 4000000 in
set_option maxRecDepth 100000 in
theorem WayR_any (g : Gr) (p q : Pt) (ga : Option Addr) (gc : Nat) (w : World) (hr : Right g) (hp : opn g p = true) (hq : opn g q = true) (hnn : 0 ≤ dst g q p) (hc : Cells2 w ga g.bl) :
    Calls Try.prog 66 #[.agg #[.int .i64 g.rows, .int .i64 g.cols, .slice ga g.bl.length gc], .agg #[.int .i64 p.1, .int .i64 p.2], .agg #[.int .i64 q.1, .int .i64 q.2]] w fun e w' => ∃ v, e = .returned v ∧ Owns w' v (way g p q) ∧ Ext w w' := by
  have HC : Hid (Cells2 w ga g.bl) := hc
  have HR := Lib.hid hr
  have HP := Lib.hid hp
  have HQ := Lib.hid hq
  have HQI : Hid (inside g q = true) := opn_inside hq
  have hgl : g.bl.length ≤ maxLen := by have := hr.few; unfold maxLen; omega
  have HG := Lib.hid hgl
  obtain ⟨k, hk, hd⟩ : ∃ k : Nat, IsD g q p k ∧ dst g q p = k := by
    rcases dst_cases hr (opn_inside hq) p with ⟨k, hk, hd⟩ | ⟨_, hd⟩
    · exact ⟨k, hk, hd⟩
    · omega
  have HK := Lib.hid hk
  have HD := Lib.hid hd
  obtain ⟨n, hn⟩ : ∃ n, n = g.rows.toNat * g.cols.toNat := ⟨_, rfl⟩
  have HNN := Lib.hid hn
  have E0 : Ext w ((( (( ((w).alloc (.cells #[.int .i64 g.rows, .int .i64 g.cols, .slice ga g.bl.length gc] 24))).alloc (.cells #[.int .i64 p.1, .int .i64 p.2] 26))).alloc (.cells #[.int .i64 q.1, .int .i64 q.2] 26))) := (((Ext.refl _).alloc _).alloc _).alloc _
  have a1 : ((( (( ((w).alloc (.cells #[.int .i64 g.rows, .int .i64 g.cols, .slice ga g.bl.length gc] 24))).alloc (.cells #[.int .i64 p.1, .int .i64 p.2] 26))).alloc (.cells #[.int .i64 q.1, .int .i64 q.2] 26))).cell? ⟨w.heap.size, 0, none⟩ = some (.int .i64 g.rows) := by go_simp
  have a2 : ((( (( ((w).alloc (.cells #[.int .i64 g.rows, .int .i64 g.cols, .slice ga g.bl.length gc] 24))).alloc (.cells #[.int .i64 p.1, .int .i64 p.2] 26))).alloc (.cells #[.int .i64 q.1, .int .i64 q.2] 26))).cell? ⟨w.heap.size, 1, none⟩ = some (.int .i64 g.cols) := by go_simp
  have a3 : ((( (( ((w).alloc (.cells #[.int .i64 g.rows, .int .i64 g.cols, .slice ga g.bl.length gc] 24))).alloc (.cells #[.int .i64 p.1, .int .i64 p.2] 26))).alloc (.cells #[.int .i64 q.1, .int .i64 q.2] 26))).cell? ⟨w.heap.size, 2, none⟩ = some (.slice ga g.bl.length gc) := by go_simp
  have a4 : ((( (( ((w).alloc (.cells #[.int .i64 g.rows, .int .i64 g.cols, .slice ga g.bl.length gc] 24))).alloc (.cells #[.int .i64 p.1, .int .i64 p.2] 26))).alloc (.cells #[.int .i64 q.1, .int .i64 q.2] 26))).cell? ⟨w.heap.size + 1, 0, none⟩ = some (.int .i64 p.1) := by go_simp
  have a5 : ((( (( ((w).alloc (.cells #[.int .i64 g.rows, .int .i64 g.cols, .slice ga g.bl.length gc] 24))).alloc (.cells #[.int .i64 p.1, .int .i64 p.2] 26))).alloc (.cells #[.int .i64 q.1, .int .i64 q.2] 26))).cell? ⟨w.heap.size + 1, 1, none⟩ = some (.int .i64 p.2) := by go_simp
  have a6 : ((( (( ((w).alloc (.cells #[.int .i64 g.rows, .int .i64 g.cols, .slice ga g.bl.length gc] 24))).alloc (.cells #[.int .i64 p.1, .int .i64 p.2] 26))).alloc (.cells #[.int .i64 q.1, .int .i64 q.2] 26))).cell? ⟨w.heap.size + 1 + 1, 0, none⟩ = some (.int .i64 q.1) := by go_simp
  have a7 : ((( (( ((w).alloc (.cells #[.int .i64 g.rows, .int .i64 g.cols, .slice ga g.bl.length gc] 24))).alloc (.cells #[.int .i64 p.1, .int .i64 p.2] 26))).alloc (.cells #[.int .i64 q.1, .int .i64 q.2] 26))).cell? ⟨w.heap.size + 1 + 1, 1, none⟩ = some (.int .i64 q.2) := by go_simp
  clear hc hr hp hq hgl hn hnn hk hd
  go_enter Try.func66, Try.ntmps66
  go_wp2_with fail
  refine (Far_any2 g q ga gc n _ HNN.out HR.out HQI.out (HC.out.ext E0)).mono ?_
  rintro e w1 ⟨fa, fc, rfl, hI, hE⟩
  have b1 := hE.cell a1
  have b2 := hE.cell a2
  have b3 := hE.cell a3
  have b4 := hE.cell a4
  have b5 := hE.cell a5
  have b6 := hE.cell a6
  have b7 := hE.cell a7
  have EW := E0.trans hE
  have HI0 := Lib.hid hI
  have HC1 := Lib.hid (HC.out.ext EW)
  have z1 : w.heap.size < w1.heap.size := cell_lt b1
  have z2 : w.heap.size + 1 + 1 < w1.heap.size := cell_lt b6
  have z3 : w.heap.size + 1 < w1.heap.size := cell_lt b4
  clear hI hE E0 a1 a2 a3 a4 a5 a6 a7 HC
  go_wp2_with fail
  have E4 : Ext w1 ((( w1).alloc (.cells #[.int .i64 p.1, .int .i64 p.2] 26))) := (Ext.refl _).alloc _
  have E5 : Ext ((( w1).alloc (.cells #[.int .i64 p.1, .int .i64 p.2] 26))) ((( (( w1).alloc (.cells #[.int .i64 p.1, .int .i64 p.2] 26))).alloc (.cells #[.int .i64 p.1, .int .i64 p.2] 26))) := (Ext.refl _).alloc _
  have F0 : Hid (WyL g p q w1 k p [p] (.slice (some ⟨w1.heap.size, 0, none⟩) 1 1) (w1.heap.size + 1) ((( (( w1).alloc (.cells #[.int .i64 p.1, .int .i64 p.2] 26))).alloc (.cells #[.int .i64 p.1, .int .i64 p.2] 26)))) := {
    eq := by unfold way; rw [HD.out]; rfl
    isd := HK.out
    op := HP.out
    be := E4.trans E5
    a1 := by go_simp
    a2 := by go_simp
    a3 := by go_simp
    a4 := by go_simp
    own := (owns_new w1 p).ext E5
    vb := fun b hb => by
      have hb : some w1.heap.size = some b := hb
      cases hb
      exact ⟨Nat.le_refl _, by omega⟩
    am := by omega }
  obtain ⟨atb, hatb⟩ : ∃ b, b = w1.heap.size + 1 := ⟨_, rfl⟩
  rw [← hatb] at F0 ⊢
  clear hatb E4 E5 b4 b5
  generalize (( (( w1).alloc (.cells #[.int .i64 p.1, .int .i64 p.2] 26))).alloc (.cells #[.int .i64 p.1, .int .i64 p.2] 26)) = W2 at F0 ⊢
  go_loopw [8, 9] (fun v i wr => ∃ (k : Nat) (a : Pt) (L : List Pt) (av : Option Addr) (cv m atb : Nat), i = .pointer (some ⟨atb, 0, none⟩) ∧ v = .slice av m cv ∧ Hid (m = L.length) ∧ Hid (WyL g p q w1 k a L (.slice av m cv) atb wr)) (fun v _ _ => 5000 - sliceLn v)
  case atStart => exact ⟨k, p, [p], _, 1, 1, atb, rfl, rfl, rfl, F0.out⟩
  case round =>
    clear F0
    have HK2 : Hid (dst g q p < 4097) := by show _ < _; have h1 := HK.out.lt HR.out HQI.out; have h2 := HD.out; omega
    obtain ⟨k', a, L, av, cv, m, atb, rfl, rfl, hm, hF⟩ := hrel
    have q1 := hF.out.be.cell b6
    have q2 := hF.out.be.cell b7
    have g1 := hF.out.be.cell b1
    have g2 := hF.out.be.cell b2
    have g3 := hF.out.be.cell b3
    have c1 := hF.out.a1
    have c2 := hF.out.a2
    have za := cell_lt c1
    have zg := cell_lt g1
    have zq := cell_lt q1
    dsimp only at za zg zq
    have HIr := Lib.hid (HI0.out.ext hF.out.be)
    have HCr := Lib.hid (HC1.out.ext hF.out.be)
    cases k' with
    | zero =>
      obtain rfl : a = q := hF.out.isd.w.zero
      go_wp2
      go_ret
      refine ⟨_, rfl, ?_, EW.trans hF.out.be⟩
      rw [hF.out.eq]
      simp only [wayGo, List.append_nil]
      exact hF.out.own
    | succ k =>
      have hne : a ≠ q := by
        rintro rfl
        have := (IsD.self g a).unique hF.out.isd
        omega
      have hia : Hid (inside g a = true) := opn_inside hF.out.op
      have HEX : Hid (∃ x ∈ near g a, dst g q x = dst g q a - 1) := by
        obtain ⟨x, hx1, hx2⟩ := stepTo_ex HR.out HQ.out hF.out.op hF.out.isd
        have hda : dst g q a = (k : Int) + 1 := by have := dst_of HR.out HQI.out hF.out.isd; rw [this]; omega
        exact ⟨x, hx1, by rw [hx2, hda]; omega⟩
      have HDA : Hid (dst g q a = (k : Int) + 1) := by
        show _ = _
        have := dst_of HR.out HQI.out hF.out.isd
        rw [this]; omega
      have HLEN : Hid (m ≤ 4097) := by
        show _ ≤ _
        have h1 : (way g p q).length = L.length + (k + 1) := by rw [hF.out.eq, List.length_append, wayGo_len]
        have h2 : (way g p q).length = (dst g q p).toNat + 1 := by unfold way; simp [wayGo_len]
        have h3 := HK2.out
        have h4 := hm.out
        omega
      have HH1 : (a.1 == q.1) = true → (a.2 == q.2) = false := fun h1 => by
        cases hb : (a.2 == q.2)
        · rfl
        · exact absurd (Prod.ext (by simpa using h1) (by simpa using hb)) hne
      clear hne
      cases ee : (a.1 == q.1)
      · clear HH1
        go_wp2_with fail
        refine (Near_any g a ga gc _ HG.out (inG_of HR.out hia.out) HCr.out).mono ?_
        rintro e w3 ⟨nv, rfl, hnO, hnb, hE⟩
        obtain ⟨na, nc, rfl, _, _⟩ := hnO.reads
        have HNO := Lib.hid hnO
        have HE := Lib.hid hE
        have c1 := hE.cell c1
        have c2 := hE.cell c2
        have g1 := hE.cell g1
        have g2 := hE.cell g2
        have g3 := hE.cell g3
        have q1 := hE.cell q1
        have q2 := hE.cell q2
        have HI3 := Lib.hid (HIr.out.ext hE)
        have hlN := near_len g a
        clear hnO hnb hE za zg zq ee
        go_wp2
        go_loopw [8, 31] (fun v i wx => ∃ j : Nat, j ≤ (near g a).length ∧ i = .int .i64 j ∧ v = .slice av m cv ∧ Hid (∀ y ∈ (near g a).take j, dst g q y ≠ dst g q a - 1) ∧ Hid (Ext w3 wx)) (fun _ i _ => (near g a).length - (intOf i).toNat)
        case atStart => exact ⟨0, Nat.zero_le _, rfl, rfl, fun y hy => by simp at hy, Ext.refl _⟩
        case round =>
          obtain ⟨j, hj, rfl, rfl, hno, hX⟩ := hrel
          by_cases hjl : j < (near g a).length
          · have hjl' : (j : Int) < ((near g a).length : Int) := by omega
            obtain ⟨a', c', hv', hcl, _⟩ := HNO.out.reads
            cases hv'
            obtain ⟨nb, no, rfl, d1, d2⟩ := hcl j hjl
            have d1 := hX.out.cell d1
            have d2 := hX.out.cell d2
            have c1 := hX.out.cell c1
            have c2 := hX.out.cell c2
            have g1 := hX.out.cell g1
            have g2 := hX.out.cell g2
            have g3 := hX.out.cell g3
            have HTK := Lib.hid (take_near hjl)
            have hqn : Hid (pt (near g a) j ∈ near g a) := pt_mem hjl
            generalize hx : pt (near g a) j = x at d1 d2 HTK hqn
            have HX := Lib.hid hx
            have hxi : Hid (inside g x = true) := near_inside hqn.out
            have HIx := Lib.hid (HI3.out.ext hX.out)
            have zd := cell_lt d1
            have zc := cell_lt c1
            have zg := cell_lt g1
            dsimp only at zd zc zg
            clear hcl hx
            obtain ⟨db1, db2⟩ := dst_bd HR.out HQI.out a
            have q9 : IntKind.i64.wrap (dst g q a - 1) = dst g q a - 1 := IntWalk.i64_in _ (by omega)
            clear db1 db2
            go_wp2_with fail
            have E5 : Ext wr ((( wr).alloc (.cells #[.int .i64 x.1, .int .i64 x.2] 26))) := (Ext.refl _).alloc _
            have c1 := E5.cell c1
            have c2 := E5.cell c2
            have g1 := E5.cell g1
            have g2 := E5.cell g2
            have g3 := E5.cell g3
            have y1 : ((( wr).alloc (.cells #[.int .i64 x.1, .int .i64 x.2] 26))).cell? ⟨wr.heap.size, 0, none⟩ = some (.int .i64 x.1) := by go_simp
            have y2 : ((( wr).alloc (.cells #[.int .i64 x.1, .int .i64 x.2] 26))).cell? ⟨wr.heap.size, 1, none⟩ = some (.int .i64 x.2) := by go_simp
            have HIx := Lib.hid (HIx.out.ext E5)
            have HX5 := Lib.hid (hX.out.trans E5)
            obtain ⟨xb, hxb⟩ : ∃ xb, xb = wr.heap.size := ⟨_, rfl⟩
            rw [← hxb] at y1 y2 ⊢
            clear hxb E5 d1 d2 zd zc zg
            generalize (( wr).alloc (.cells #[.int .i64 x.1, .int .i64 x.2] 26)) = W6 at c1 c2 g1 g2 g3 y1 y2 HIx HX5 ⊢
            have zx := cell_lt y1
            have zc := cell_lt c1
            have zg := cell_lt g1
            dsimp only at zx zc zg
            by_cases hxe : dst g q x = dst g q a - 1
            · have HXE := Lib.hid hxe
              go_region_held3 (fun w' => Sees W6 w') ((repeat (first | exact Sees.refl _ | assumption | apply Sees.drew | apply Sees.alloc | (refine Sees.ext ?_ (by assumption))))) (first | (go_at_call 52; have hA0 := hA1; refine (atR_any2 g (dst g q) _ fa fc n a _ HNN.out HR.out hia.out (HIx.out.ext (by exact (show Sees W6 _ by assumption).2.2))).mono ?_; rintro e w' ⟨rfl, hE2⟩) | (go_at_call 52; refine (atR_any2 g (dst g q) _ fa fc n x _ HNN.out HR.out hxi.out (HIx.out.ext (by exact (show Sees W6 _ by assumption).2.2))).mono ?_; rintro e w' ⟨rfl, hE2⟩; have hA1 := hE2))
              have hS := (show Sees W6 _ by assumption).2.2
              have c1 := hS.cell c1
              have c2 := hS.cell c2
              have y1 := hS.cell y1
              have y2 := hS.cell y2
              have HX7 := Lib.hid (HX5.out.trans hS)
              clear hS zx zc zg g1 g2 g3 hxe
              generalize w' = W7 at c1 c2 y1 y2 HX7 ⊢
              have OW : Hid (Owns W7 (.slice av m cv) L) := (hF.out.own.ext HE.out).ext HX7.out
              have zx := cell_lt y1
              have zc := cell_lt c1
              dsimp only at zx zc
              have hmm := HLEN.out
              have hml := hm.out
              obtain ⟨i0, hi, hi0, hi1, hi2⟩ := info_parts infoPl
              go_wp2_with (at_builtin; refine wpList_append1 _ rfl _ _ 22 rfl 26 i0 (.agg #[.int .i64 0, .int .i64 0]) 2 16 Try.underlying22 hi hi0 hi1 hi2 rfl (by decide) (.slice av m cv) L.length (flat L) rfl ?ho ⟨W7.heap.size, 0, none⟩ 1 1 (by decide) [.int .i64 x.1, .int .i64 x.2] rfl rfl ?hn ?c1 ?c2 ?c3 ?c4)
              case ho => exact OW.out.ext ((Ext.refl _).alloc _)
              case hn => exact cell_two_new _ _ _ _
              case c1 => intro u hu; simp at hu; rcases hu with rfl | rfl <;> rfl
              case c2 => unfold maxLen; omega
              case c3 => omega
              case c4 =>
                intro v' w5 hown5 hend5
                have O5 : Owns w5 v' (L ++ [x]) := owns_succ hown5
                rw [← hml] at hend5
                obtain ⟨av', cv', rfl, hrd, hob⟩ := O5.reads
                have HO5 := Lib.hid O5
                have HEND := Lib.hid hend5
                have EA : Hid (Ext W7 (W7.alloc (.cells #[.int .i64 x.1, .int .i64 x.2] 26))) := (Ext.refl _).alloc _
                have K5 : Hid (Kept (fun k => (Value.slice av m cv).ownBlock ≠ some k) 0 (W7.alloc (.cells #[.int .i64 x.1, .int .i64 x.2] 26)) w5) := Kept.grown hend5 (fun b hb hn => hn hb)
                have VB := Lib.hid hF.out.vb
                have HATB := Lib.hid hF.out.am
                have c1 : w5.cell? ⟨atb, 0, none⟩ = some (.int .i64 a.1) := K5.out.cell (p := ⟨atb, 0, none⟩) (fun h => (VB.out atb h).2 rfl) (EA.out.cell c1)
                have c2 : w5.cell? ⟨atb, 1, none⟩ = some (.int .i64 a.2) := K5.out.cell (p := ⟨atb, 1, none⟩) (fun h => (VB.out atb h).2 rfl) (EA.out.cell c2)
                have hL1 : (L ++ [x]).length = m + 1 := by rw [List.length_append, hml]; rfl
                obtain ⟨rb, ro, rfl, r1, r2⟩ := hrd m (by omega)
                have hpt : pt (L ++ [x]) m = x := by
                  rw [hml]
                  unfold pt
                  rw [List.getD_eq_getElem?_getD]
                  simp
                rw [hpt] at r1 r2
                obtain ⟨m', hm'⟩ : ∃ m', m' = (L ++ [x]).length := ⟨_, rfl⟩
                rw [← hm'] at hL1 ⊢
                have HM' := Lib.hid hm'
                have HML := Lib.hid hml
                have q10 : IntKind.i64.wrap ((m' : Int) - 1) = (m : Int) := by rw [IntWalk.i64_in _ (by omega)]; omega
                have i1 : (m : Int) < (m' : Int) := by omega
                have i2 : (0 : Int) ≤ (m : Int) := by omega
                have zr := cell_lt r1
                have za := cell_lt c1
                dsimp only at zr za
                have HL1 := Lib.hid hL1
                clear hrd hob O5 hown5 hend5 hpt hm' hml y1 y2 zx zc hL1 hmm
                go_wp2
                have E8 : Ext w5 ((( w5).alloc (.cells #[.int .i64 x.1, .int .i64 x.2] 26))) := (Ext.refl _).alloc _
                have S7 : (W7.alloc (.cells #[.int .i64 x.1, .int .i64 x.2] 26)).heap.size = W7.heap.size + 1 := by simp
                have hB7 : Ext w1 W7 := (hF.out.be.trans HE.out).trans HX7.out
                have hB5 : Ext w1 w5 := Below.trans (hB7.trans EA.out) ((HEND.out.below (by rw [S7]; have := hB7.size; omega) (fun b hb => (VB.out b hb).1)))
                have hz5 := hB5.size
                have hz7 := hB7.size
                have hstep : stepTo g (dst g q) a = x := stepTo_of (pre := (near g a).take j) (by rw [← HTK.out]; exact List.take_prefix _ _) hno.out HXE.out
                have hisd : IsD g q x k := stepTo_isD HR.out HQ.out hF.out.isd hqn.out (by rw [HXE.out, HDA.out]; omega)
                refine ⟨⟨k, x, L ++ [x], some ⟨rb, ro, none⟩, cv', m', w5.heap.size, rfl, rfl, HM'.out, ?_⟩, by have := HL1.out; have := HLEN.out; simp only [sliceLn]; omega⟩
                exact {
                  eq := by rw [hF.out.eq]; simp only [wayGo]; rw [hstep]; simp
                  isd := hisd
                  op := near_opn hqn.out
                  be := hB5.trans E8
                  a1 := by go_simp
                  a2 := by go_simp
                  a3 := by go_simp
                  a4 := by go_simp
                  own := by rw [HM'.out]; exact HO5.out.ext E8
                  vb := fun b hb => by
                    rw [HM'.out] at hb
                    have hlt5 := HO5.out.lt hb
                    refine ⟨?_, by omega⟩
                    rw [← HM'.out] at hb
                    rcases HEND.out with ⟨h1, _, _⟩ | ⟨h1, _⟩
                    · rw [HM'.out, h1] at hb
                      exact (VB.out b hb).1
                    · rw [HM'.out, h1] at hb
                      have hb' : b = W7.heap.size + 1 := by rw [S7] at hb; cases hb; rfl
                      omega
                  am := by omega }
            · have HXE := Lib.hid hxe
              go_region_held3 (fun w' => Sees W6 w') ((repeat (first | exact Sees.refl _ | assumption | apply Sees.drew | apply Sees.alloc | (refine Sees.ext ?_ (by assumption))))) (first | (go_at_call 52; have hA0 := hA1; refine (atR_any2 g (dst g q) _ fa fc n a _ HNN.out HR.out hia.out (HIx.out.ext (by exact (show Sees W6 _ by assumption).2.2))).mono ?_; rintro e w' ⟨rfl, hE2⟩) | (go_at_call 52; refine (atR_any2 g (dst g q) _ fa fc n x _ HNN.out HR.out hxi.out (HIx.out.ext (by exact (show Sees W6 _ by assumption).2.2))).mono ?_; rintro e w' ⟨rfl, hE2⟩; have hA1 := hE2))
              have hS := (show Sees W6 _ by assumption).2.2
              go_wp2
              refine ⟨⟨j + 1, by omega, by go_num, rfl, fun y hy => ?_, HX5.out.trans hS⟩, by simp [intOf]; omega⟩
              rw [HTK.out, List.mem_append] at hy
              rcases hy with hy | hy
              · exact hno.out y hy
              · rw [List.mem_singleton] at hy
                rw [hy]
                exact HXE.out
          · exfalso
            obtain ⟨x, hx1, hx2⟩ := HEX.out
            exact hno.out x (by rw [List.take_of_length_le (by omega)]; exact hx1) hx2
      · have ee2 := HH1 ee
        clear HH1
        go_wp2_with fail
        refine (Near_any g a ga gc _ HG.out (inG_of HR.out hia.out) HCr.out).mono ?_
        rintro e w3 ⟨nv, rfl, hnO, hnb, hE⟩
        obtain ⟨na, nc, rfl, _, _⟩ := hnO.reads
        have HNO := Lib.hid hnO
        have HE := Lib.hid hE
        have c1 := hE.cell c1
        have c2 := hE.cell c2
        have g1 := hE.cell g1
        have g2 := hE.cell g2
        have g3 := hE.cell g3
        have q1 := hE.cell q1
        have q2 := hE.cell q2
        have HI3 := Lib.hid (HIr.out.ext hE)
        have hlN := near_len g a
        clear hnO hnb hE za zg zq ee
        go_wp2
        go_loopw [8, 31] (fun v i wx => ∃ j : Nat, j ≤ (near g a).length ∧ i = .int .i64 j ∧ v = .slice av m cv ∧ Hid (∀ y ∈ (near g a).take j, dst g q y ≠ dst g q a - 1) ∧ Hid (Ext w3 wx)) (fun _ i _ => (near g a).length - (intOf i).toNat)
        case atStart => exact ⟨0, Nat.zero_le _, rfl, rfl, fun y hy => by simp at hy, Ext.refl _⟩
        case round =>
          obtain ⟨j, hj, rfl, rfl, hno, hX⟩ := hrel
          by_cases hjl : j < (near g a).length
          · have hjl' : (j : Int) < ((near g a).length : Int) := by omega
            obtain ⟨a', c', hv', hcl, _⟩ := HNO.out.reads
            cases hv'
            obtain ⟨nb, no, rfl, d1, d2⟩ := hcl j hjl
            have d1 := hX.out.cell d1
            have d2 := hX.out.cell d2
            have c1 := hX.out.cell c1
            have c2 := hX.out.cell c2
            have g1 := hX.out.cell g1
            have g2 := hX.out.cell g2
            have g3 := hX.out.cell g3
            have HTK := Lib.hid (take_near hjl)
            have hqn : Hid (pt (near g a) j ∈ near g a) := pt_mem hjl
            generalize hx : pt (near g a) j = x at d1 d2 HTK hqn
            have HX := Lib.hid hx
            have hxi : Hid (inside g x = true) := near_inside hqn.out
            have HIx := Lib.hid (HI3.out.ext hX.out)
            have zd := cell_lt d1
            have zc := cell_lt c1
            have zg := cell_lt g1
            dsimp only at zd zc zg
            clear hcl hx
            obtain ⟨db1, db2⟩ := dst_bd HR.out HQI.out a
            have q9 : IntKind.i64.wrap (dst g q a - 1) = dst g q a - 1 := IntWalk.i64_in _ (by omega)
            clear db1 db2
            go_wp2_with fail
            have E5 : Ext wr ((( wr).alloc (.cells #[.int .i64 x.1, .int .i64 x.2] 26))) := (Ext.refl _).alloc _
            have c1 := E5.cell c1
            have c2 := E5.cell c2
            have g1 := E5.cell g1
            have g2 := E5.cell g2
            have g3 := E5.cell g3
            have y1 : ((( wr).alloc (.cells #[.int .i64 x.1, .int .i64 x.2] 26))).cell? ⟨wr.heap.size, 0, none⟩ = some (.int .i64 x.1) := by go_simp
            have y2 : ((( wr).alloc (.cells #[.int .i64 x.1, .int .i64 x.2] 26))).cell? ⟨wr.heap.size, 1, none⟩ = some (.int .i64 x.2) := by go_simp
            have HIx := Lib.hid (HIx.out.ext E5)
            have HX5 := Lib.hid (hX.out.trans E5)
            obtain ⟨xb, hxb⟩ : ∃ xb, xb = wr.heap.size := ⟨_, rfl⟩
            rw [← hxb] at y1 y2 ⊢
            clear hxb E5 d1 d2 zd zc zg
            generalize (( wr).alloc (.cells #[.int .i64 x.1, .int .i64 x.2] 26)) = W6 at c1 c2 g1 g2 g3 y1 y2 HIx HX5 ⊢
            have zx := cell_lt y1
            have zc := cell_lt c1
            have zg := cell_lt g1
            dsimp only at zx zc zg
            by_cases hxe : dst g q x = dst g q a - 1
            · have HXE := Lib.hid hxe
              go_region_held3 (fun w' => Sees W6 w') ((repeat (first | exact Sees.refl _ | assumption | apply Sees.drew | apply Sees.alloc | (refine Sees.ext ?_ (by assumption))))) (first | (go_at_call 52; have hA0 := hA1; refine (atR_any2 g (dst g q) _ fa fc n a _ HNN.out HR.out hia.out (HIx.out.ext (by exact (show Sees W6 _ by assumption).2.2))).mono ?_; rintro e w' ⟨rfl, hE2⟩) | (go_at_call 52; refine (atR_any2 g (dst g q) _ fa fc n x _ HNN.out HR.out hxi.out (HIx.out.ext (by exact (show Sees W6 _ by assumption).2.2))).mono ?_; rintro e w' ⟨rfl, hE2⟩; have hA1 := hE2))
              have hS := (show Sees W6 _ by assumption).2.2
              have c1 := hS.cell c1
              have c2 := hS.cell c2
              have y1 := hS.cell y1
              have y2 := hS.cell y2
              have HX7 := Lib.hid (HX5.out.trans hS)
              clear hS zx zc zg g1 g2 g3 hxe
              generalize w' = W7 at c1 c2 y1 y2 HX7 ⊢
              have OW : Hid (Owns W7 (.slice av m cv) L) := (hF.out.own.ext HE.out).ext HX7.out
              have zx := cell_lt y1
              have zc := cell_lt c1
              dsimp only at zx zc
              have hmm := HLEN.out
              have hml := hm.out
              obtain ⟨i0, hi, hi0, hi1, hi2⟩ := info_parts infoPl
              go_wp2_with (at_builtin; refine wpList_append1 _ rfl _ _ 22 rfl 26 i0 (.agg #[.int .i64 0, .int .i64 0]) 2 16 Try.underlying22 hi hi0 hi1 hi2 rfl (by decide) (.slice av m cv) L.length (flat L) rfl ?ho ⟨W7.heap.size, 0, none⟩ 1 1 (by decide) [.int .i64 x.1, .int .i64 x.2] rfl rfl ?hn ?c1 ?c2 ?c3 ?c4)
              case ho => exact OW.out.ext ((Ext.refl _).alloc _)
              case hn => exact cell_two_new _ _ _ _
              case c1 => intro u hu; simp at hu; rcases hu with rfl | rfl <;> rfl
              case c2 => unfold maxLen; omega
              case c3 => omega
              case c4 =>
                intro v' w5 hown5 hend5
                have O5 : Owns w5 v' (L ++ [x]) := owns_succ hown5
                rw [← hml] at hend5
                obtain ⟨av', cv', rfl, hrd, hob⟩ := O5.reads
                have HO5 := Lib.hid O5
                have HEND := Lib.hid hend5
                have EA : Hid (Ext W7 (W7.alloc (.cells #[.int .i64 x.1, .int .i64 x.2] 26))) := (Ext.refl _).alloc _
                have K5 : Hid (Kept (fun k => (Value.slice av m cv).ownBlock ≠ some k) 0 (W7.alloc (.cells #[.int .i64 x.1, .int .i64 x.2] 26)) w5) := Kept.grown hend5 (fun b hb hn => hn hb)
                have VB := Lib.hid hF.out.vb
                have HATB := Lib.hid hF.out.am
                have c1 : w5.cell? ⟨atb, 0, none⟩ = some (.int .i64 a.1) := K5.out.cell (p := ⟨atb, 0, none⟩) (fun h => (VB.out atb h).2 rfl) (EA.out.cell c1)
                have c2 : w5.cell? ⟨atb, 1, none⟩ = some (.int .i64 a.2) := K5.out.cell (p := ⟨atb, 1, none⟩) (fun h => (VB.out atb h).2 rfl) (EA.out.cell c2)
                have hL1 : (L ++ [x]).length = m + 1 := by rw [List.length_append, hml]; rfl
                obtain ⟨rb, ro, rfl, r1, r2⟩ := hrd m (by omega)
                have hpt : pt (L ++ [x]) m = x := by
                  rw [hml]
                  unfold pt
                  rw [List.getD_eq_getElem?_getD]
                  simp
                rw [hpt] at r1 r2
                obtain ⟨m', hm'⟩ : ∃ m', m' = (L ++ [x]).length := ⟨_, rfl⟩
                rw [← hm'] at hL1 ⊢
                have HM' := Lib.hid hm'
                have HML := Lib.hid hml
                have q10 : IntKind.i64.wrap ((m' : Int) - 1) = (m : Int) := by rw [IntWalk.i64_in _ (by omega)]; omega
                have i1 : (m : Int) < (m' : Int) := by omega
                have i2 : (0 : Int) ≤ (m : Int) := by omega
                have zr := cell_lt r1
                have za := cell_lt c1
                dsimp only at zr za
                have HL1 := Lib.hid hL1
                clear hrd hob O5 hown5 hend5 hpt hm' hml y1 y2 zx zc hL1 hmm
                go_wp2
                have E8 : Ext w5 ((( w5).alloc (.cells #[.int .i64 x.1, .int .i64 x.2] 26))) := (Ext.refl _).alloc _
                have S7 : (W7.alloc (.cells #[.int .i64 x.1, .int .i64 x.2] 26)).heap.size = W7.heap.size + 1 := by simp
                have hB7 : Ext w1 W7 := (hF.out.be.trans HE.out).trans HX7.out
                have hB5 : Ext w1 w5 := Below.trans (hB7.trans EA.out) ((HEND.out.below (by rw [S7]; have := hB7.size; omega) (fun b hb => (VB.out b hb).1)))
                have hz5 := hB5.size
                have hz7 := hB7.size
                have hstep : stepTo g (dst g q) a = x := stepTo_of (pre := (near g a).take j) (by rw [← HTK.out]; exact List.take_prefix _ _) hno.out HXE.out
                have hisd : IsD g q x k := stepTo_isD HR.out HQ.out hF.out.isd hqn.out (by rw [HXE.out, HDA.out]; omega)
                refine ⟨⟨k, x, L ++ [x], some ⟨rb, ro, none⟩, cv', m', w5.heap.size, rfl, rfl, HM'.out, ?_⟩, by have := HL1.out; have := HLEN.out; simp only [sliceLn]; omega⟩
                exact {
                  eq := by rw [hF.out.eq]; simp only [wayGo]; rw [hstep]; simp
                  isd := hisd
                  op := near_opn hqn.out
                  be := hB5.trans E8
                  a1 := by go_simp
                  a2 := by go_simp
                  a3 := by go_simp
                  a4 := by go_simp
                  own := by rw [HM'.out]; exact HO5.out.ext E8
                  vb := fun b hb => by
                    rw [HM'.out] at hb
                    have hlt5 := HO5.out.lt hb
                    refine ⟨?_, by omega⟩
                    rw [← HM'.out] at hb
                    rcases HEND.out with ⟨h1, _, _⟩ | ⟨h1, _⟩
                    · rw [HM'.out, h1] at hb
                      exact (VB.out b hb).1
                    · rw [HM'.out, h1] at hb
                      have hb' : b = W7.heap.size + 1 := by rw [S7] at hb; cases hb; rfl
                      omega
                  am := by omega }
            · have HXE := Lib.hid hxe
              go_region_held3 (fun w' => Sees W6 w') ((repeat (first | exact Sees.refl _ | assumption | apply Sees.drew | apply Sees.alloc | (refine Sees.ext ?_ (by assumption))))) (first | (go_at_call 52; have hA0 := hA1; refine (atR_any2 g (dst g q) _ fa fc n a _ HNN.out HR.out hia.out (HIx.out.ext (by exact (show Sees W6 _ by assumption).2.2))).mono ?_; rintro e w' ⟨rfl, hE2⟩) | (go_at_call 52; refine (atR_any2 g (dst g q) _ fa fc n x _ HNN.out HR.out hxi.out (HIx.out.ext (by exact (show Sees W6 _ by assumption).2.2))).mono ?_; rintro e w' ⟨rfl, hE2⟩; have hA1 := hE2))
              have hS := (show Sees W6 _ by assumption).2.2
              go_wp2
              refine ⟨⟨j + 1, by omega, by go_num, rfl, fun y hy => ?_, HX5.out.trans hS⟩, by simp [intOf]; omega⟩
              rw [HTK.out, List.mem_append] at hy
              rcases hy with hy | hy
              · exact hno.out y hy
              · rw [List.mem_singleton] at hy
                rw [hy]
                exact HXE.out
          · exfalso
            obtain ⟨x, hx1, hx2⟩ := HEX.out
            exact hno.out x (by rw [List.take_of_length_le (by omega)]; exact hx1) hx2
end Go.Proofs.Ytfigooilhnahfaa
