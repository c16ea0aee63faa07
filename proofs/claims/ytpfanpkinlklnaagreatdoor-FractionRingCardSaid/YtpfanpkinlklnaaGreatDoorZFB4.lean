/- Steps of the proof: FQuoP, FQuoR, FShaR. No conditions. -/
import Derived.Test.YtpfanpkinlklnaaGreatDoorZFB1
import Derived.Test.YtpfanpkinlklnaaGreatDoorZFB2
import Derived.Test.YtpfanpkinlklnaaGreatDoorZFB3
/- The reference's quotient: an append of a row of one's own, and what the rounds keep. -/
namespace Go.Proofs.YtpfanpkinlklnaaGreatDoor
open Go.RowKit

theorem src_none {P : Program} {w : World} {size : Nat} {tx e' : TypeId} (hk : P.underlying tx = some (.slice e')) (a : Option Addr) (c : Nat) : Src P size tx (.slice a 0 c) 0 [] w := by
  cases a with
  | none => exact Src.ofNil w hk c
  | some a => exact Src.ofSlice w hk a 0 c [] (by simp) (fun j u h => by simp at h) (fun u h => by cases h)
theorem wpList_appendN (n0 : Nat) (w : World) {ops : Array Oper} {rest : List Oper} {o : Oper} {a : Act} {Q : Exit → Act → World → Prop} (hgd : o.guard = none) (s x : Operand)
    (ho : o.op = .call { callee := .builtin .append, args := #[s, x], argTypes := #[79, 79] })
    (b c : Nat) (l m : List Nat) (hs : a.eval s = .slice (some ⟨b, 0, none⟩) l.length c) (hown : OwnsN .i64 3 w (.slice (some ⟨b, 0, none⟩) l.length c) l) (u : Value) (hx : a.eval x = u) (hu : SliceN .i64 w u m)
    (hn : n0 ≤ w.heap.size) (hb : n0 ≤ b) (hlen : l.length + m.length ≤ 10000)
    (h : ∀ v' w', OwnsN .i64 3 w' v' (l ++ m) → Below n0 w w' → (∀ g, v'.ownBlock = some g → n0 ≤ g) → wpList Tryz.prog ops Q rest (a.put o.dst v') w') : wpList Tryz.prog ops Q (o :: rest) a w := by
  obtain ⟨i0, hi, hi0, hi1, hi2⟩ := info_parts infoI64
  obtain ⟨ua, uc, rfl, hc, hr⟩ := hu
  rcases m with _ | ⟨y, m⟩
  · have hroom : l.length ≤ c := by
      obtain ⟨_, _, e, _, hR, _⟩ := hown.reads
      obtain ⟨_, _, e3⟩ := Value.slice.inj e
      subst e3
      exact hR.1
    refine wpList_append_room1 w hgd s x 79 79 ho 3 (.int .i64 0) 8 Tryz.underlying79 infoI64 b 0 l.length c hs _ hx 0 [] (src_none Tryz.underlying79 _ _) hroom (fun j hj => by simp at hj) (fun j hj => by simp at hj) ?_
    refine h _ _ ?_ (Below.refl _ _) (fun g hg => by cases hg; exact hb)
    rw [List.append_nil]
    exact hown
  · obtain ⟨g, off, rfl⟩ := hr.2.2 (by simp)
    refine wpList_append1 w hgd s x 79 ho 3 i0 (.int .i64 0) 1 8 Tryz.underlying79 hi hi0 hi1 hi2 rfl (by decide) _ l.length (natsV .i64 l) hs hown ⟨g, off, none⟩ (y :: m).length uc (by simp) (natsV .i64 (y :: m)) hx (by rw [natsV_len, Nat.mul_one]) ?_ ?_ (by unfold maxLen; omega) (by omega) ?_
    · intro j v hj
      have hjl : j < (y :: m).length := by rw [← natsV_len .i64]; exact (List.getElem?_eq_some_iff.1 hj).1
      rw [natsV_get hjl] at hj
      obtain ⟨b', o', e, h1⟩ := hc j hjl
      cases e
      rw [Addr.add_lit]
      exact h1.trans hj
    · intro v hv
      unfold natsV at hv
      simp only [List.mem_map] at hv
      obtain ⟨z, _, rfl⟩ := hv
      rfl
    · intro v' w' h1 h2
      refine h v' w' ?_ (h2.below hn (fun k hk => by cases hk; exact hb)) (h2.ge hn (fun k hk => by cases hk; exact hb))
      unfold OwnsN
      rw [List.length_append]
      unfold natsV at h1 ⊢
      rw [List.map_append]
      exact h1
theorem owns_one (x : Nat) (w : World) : OwnsN .i64 3 (w.alloc (.cells #[.int .i64 (x : Int)] 3)) (.slice (some ⟨w.heap.size, 0, none⟩) [x].length 1) [x] :=
  ownsN_of (l := [x]) (cur := #[.int .i64 (x : Int)]) (by show (w.heap.push _)[w.heap.size]? = _; exact Array.getElem?_push_size) (Nat.le_refl _) (by unfold maxLen; omega) rfl (fun j hj => by
    have hj0 : j = 0 := by simpa using hj
    subst hj0; rfl)
theorem cells_one' (x : Nat) (w : World) : CellsN .i64 (w.alloc (.cells #[.int .i64 (x : Int)] 3)) (some ⟨w.heap.size, 0, none⟩) [x] := by
  obtain ⟨a, cap, e, h, _⟩ := (owns_one x w).reads
  cases e
  exact h

theorem OwnsN.cells {k : IntKind} {t : TypeId} {w : World} {a : Option Addr} {n c : Nat} {l : List Nat} (h : OwnsN k t w (.slice a n c) l) : CellsN k w a l := by
  obtain ⟨a', c', e, h1, _⟩ := h.reads
  cases e
  exact h1
theorem ordN_neg {a b : Nat} : ordN a b < 0 ↔ a < b := by have := ordN_ge (a := a) (b := b); omega
/-- what the rounds keep -/
structure QuoI (B : Nat) (a : List Nat) (m i r : Nat) (q : List Nat) : Prop where
  ov : OverI B a m i r q
  zr : ∀ j, j < i → q.getD j 0 = 0
theorem QuoI.start {B : Nat} (hB : 2 ≤ B) (a : List Nat) {m : Nat} (hm : 0 < m) : QuoI B a m a.length 0 (List.replicate a.length 0) :=
  ⟨OverI.start hB a hm, fun j hj => by rw [List.getD_eq_getElem?_getD, List.getElem?_replicate]; split <;> rfl⟩
theorem QuoI.skip {B : Nat} (hB : 2 ≤ B) {a : List Nat} (ha : OkB B a) {m i r : Nat} {q : List Nat} (h : QuoI B a m (i + 1) r q) (hi : i < a.length) (hs : a.getD i 0 + B * r < m) : QuoI B a m i (a.getD i 0 + B * r) q := by
  obtain ⟨_, h2⟩ := h.ov.next hB ha hi
  rw [Nat.mod_eq_of_lt hs, Nat.div_eq_of_lt hs] at h2
  have e : q.set i 0 = q := by
    apply List.ext_getElem?
    intro j
    rw [List.getElem?_set]
    by_cases hj : i = j
    · subst hj
      have hl : i < q.length := by rw [h.ov.len]; exact hi
      have hz := h.zr i (by omega)
      rw [List.getD_eq_getElem?_getD, List.getElem?_eq_getElem hl] at hz
      rw [if_pos rfl, if_pos hl, List.getElem?_eq_getElem hl]
      exact congrArg some hz.symm
    · rw [if_neg hj]
  rw [e] at h2
  exact ⟨h2, fun j hj => h.zr j (by omega)⟩
theorem QuoI.step {B : Nat} (hB : 2 ≤ B) {a : List Nat} (ha : OkB B a) {m i r x : Nat} {q : List Nat} (h : QuoI B a m (i + 1) r q) (hi : i < a.length)
    (h1 : m * x ≤ a.getD i 0 + B * r) (h2 : a.getD i 0 + B * r < m * (x + 1)) : QuoI B a m i (a.getD i 0 + B * r - m * x) (q.set i x) := by
  obtain ⟨_, h3⟩ := h.ov.next hB ha hi
  have e1 : (a.getD i 0 + B * r) / m = x := by
    refine Nat.div_eq_of_lt_le ?_ ?_
    · rw [Nat.mul_comm x m]; exact h1
    · rw [Nat.mul_comm (x + 1) m]; exact h2
  have e2 : (a.getD i 0 + B * r) % m = a.getD i 0 + B * r - m * x := by
    have e := Nat.div_add_mod (a.getD i 0 + B * r) m
    rw [e1] at e
    omega
  rw [e1, e2] at h3
  refine ⟨h3, fun j hj => ?_⟩
  rw [List.getD_eq_getElem?_getD, List.getElem?_set, if_neg (by omega), ← List.getD_eq_getElem?_getD]
  exact h.zr j (by omega)
/-- the lengths of the numbers in a round -/
theorem quo_row {B : Nat} (hB : 2 ≤ B) {x r : Nat} (hx : x < B) : trimL (x :: toB B r) = toB B (x + B * r) := by
  rw [trimL_toB hB (fun z hz => by
    rcases List.mem_cons.1 hz with rfl | hz
    · exact hx
    · exact okB_toB hB r z hz)]
  show toB B (x + B * valB B (toB B r)) = _
  rw [valB_toB hB]
theorem toB_mono {B : Nat} (hB : 2 ≤ B) {x y : Nat} (h : x ≤ y) : (toB B x).length ≤ (toB B y).length :=
  valB_le_len (okB_toB hB y) (trim_toB hB x) (by rw [valB_toB hB, valB_toB hB]; exact h) (by omega)
theorem toB_mul_len {B : Nat} (hB : 2 ≤ B) (y : Nat) : (toB B (B * y)).length ≤ (toB B y).length + 1 := by
  have h := quo_row hB (x := 0) (r := y) (by omega)
  rw [Nat.zero_add] at h
  rw [← h]
  obtain ⟨k, e, _⟩ := trimL_spec (0 :: toB B y)
  have := congrArg List.length e
  rw [List.length_append, List.length_cons] at this
  omega
end Go.Proofs.YtpfanpkinlklnaaGreatDoor
/- The reference's quotient. -/
namespace Go.Proofs.YtpfanpkinlklnaaGreatDoor
open Go.RowKit

set_option maxHeartbeats 8000000 in
set_option maxRecDepth 100000 in
theorem quotientR_any (x y : Nat) (la lb : List Nat) (a b : Option Addr) (ca cb : Nat) (w : World) (hx : la = toB 1000000 x) (hy : lb = toB 1000000 y) (hy0 : 0 < y)
    (hla : la.length ≤ 100) (hlb : lb.length ≤ 100) (ha : CellsN .i64 w a la) (hb : CellsN .i64 w b lb) :
    Calls Tryz.prog 67 #[.slice a la.length ca, .slice b lb.length cb] w (OwnNPost2 .i64 3 (toB 1000000 (x / y)) (toB 1000000 (x % y)) w) := by
  have HA := Lib.hid ha
  have HB := Lib.hid hb
  have HX := Lib.hid hx
  have HY := Lib.hid hy
  have OA : Hid (OkB 1000000 la) := by show OkB _ _; rw [hx]; exact okB_toB (by omega) x
  have HYL : Hid (∀ z, z ≤ 1000000 * y → (toB 1000000 z).length ≤ lb.length + 1) := fun z hz => by
    have h1 := toB_mono (B := 1000000) (by omega) hz
    have h2 := toB_mul_len (B := 1000000) (by omega) y
    rw [← hy] at h2
    omega
  clear ha hb hx hy
  obtain ⟨N, hN⟩ : ∃ N, N = la.length := ⟨_, rfl⟩
  have hmk : (Instr.makeSlice 79 (.int .i64 (la.length : Int)) (.int .i64 (la.length : Int))).run Tryz.prog w = .ok (.slice (some ⟨w.heap.size, 0, none⟩) N N) (w.alloc (.cells (madeCells #[.int .i64 0] N) 3)) := by
    rw [← hN]
    exact run_make_row' _ _ (.int .i64 0) 8 Tryz.underlying79 infoI64 rfl _ _ N (by omega) (by omega) w
  have O0 : Hid (OwnsN .i64 3 (w.alloc (.cells (madeCells #[.int .i64 0] N) 3)) (.slice (some ⟨w.heap.size, 0, none⟩) N N) (List.replicate N 0)) := madeN _ _ _ N (by omega)
  have E0 : Ext w (w.alloc (.cells (madeCells #[.int .i64 0] N) 3)) := (Ext.refl _).alloc _
  have Z0 : w.heap.size < (w.alloc (.cells (madeCells #[.int .i64 0] N) 3)).heap.size := by simp
  generalize hW : w.alloc (.cells (madeCells #[.int .i64 0] N) 3) = W at hmk O0 E0 Z0
  clear hW
  obtain ⟨ob, hob⟩ : ∃ ob, ob = w.heap.size := ⟨_, rfl⟩
  rw [← hob] at hmk O0 Z0
  have HNN := Lib.hid hN
  have HOB := Lib.hid hob
  clear hN hob
  go_enter Tryz.func67, Tryz.ntmps67
  go_wp2
  clear hmk
  have HI0 : Hid (QuoI 1000000 la y la.length 0 (List.replicate N 0)) := by show QuoI _ _ _ _ _ _; rw [HNN.out]; exact QuoI.start (by omega) _ hy0
  go_loopw [7, 8] (fun v i wr => ∃ (k : Nat) (vv : Value), k ≤ la.length ∧ i = .int .i64 ((k : Int) - 1) ∧ v = vv ∧ Hid (∃ r q, QuoI 1000000 la y k r q ∧ OwnsN .i64 3 wr (.slice (some ⟨ob, 0, none⟩) N N) q ∧ OwnsN .i64 3 wr vv (toB 1000000 r)) ∧ Hid (∀ b, vv.ownBlock = some b → ob < b) ∧ ob < wr.heap.size ∧ Ext w wr) (fun _ i _ => (intOf i + 1).toNat)
  case atStart => exact ⟨la.length, _, Nat.le_refl _, by go_num, rfl, ⟨0, _, HI0.out, O0.out, by rw [toB_zero]; exact OwnsN.nil _ _ _⟩, (fun b hb => by cases hb), Z0, E0⟩
  case round =>
    obtain ⟨k, vv, hk, rfl, hvv, hw, HN, hobz, he⟩ := hrel
    obtain rfl := hvv.symm
    obtain ⟨r, q, hI, hO, hV⟩ := hw.out
    have HI := Lib.hid hI
    have HO := Lib.hid hO
    have HV := Lib.hid hV
    have hr : r < y := hI.ov.lt
    have HQL := Lib.hid hI.ov.len
    clear hI hO hV hw
    rcases k with _ | k
    · have hdone : Hid (trimL q = toB 1000000 (x / y) ∧ r = x % y) := by
        have h := HI.out.ov.done (by omega)
        rw [HX.out, valB_toB (by omega)] at h
        exact h
      have hNq : N = q.length := by rw [HNN.out, HQL.out]
      have HO2 : Hid (OwnsN .i64 3 wr (.slice (some ⟨ob, 0, none⟩) q.length N) q) := by
        have := HO.out
        show OwnsN _ _ _ _ _
        rw [← hNq]; exact this
      obtain ⟨oa, oc, hov, hoc, hor, _⟩ := HO2.out.reads
      obtain ⟨e1, _, e3⟩ := Value.slice.inj hov
      subst e1 e3
      have HT := Lib.hid (trimR_any q (some ⟨ob, 0, none⟩) N wr hor hoc)
      clear hoc hor hov
      have HNQ := Lib.hid hNq
      clear hNq HQL
      go_wp2_with (go_at_call 97; rw [HNQ.out] at HT ⊢; refine HT.out.mono ?_; rintro e w5 ⟨rfl, hn5, hE5⟩; rw [← HNQ.out])
      have HT5 := Lib.hid ((HO2.out.ext hE5).trim hn5)
      have HV5 := Lib.hid (HV.out.ext hE5)
      have E5 := he.trans hE5
      clear hn5 hE5 HO2 HO HV HT
      go_ret2
      refine ⟨.slice (some ⟨ob, 0, none⟩) (trimL q).length N, vv, rfl, ?_, ?_, ?_, ?_, E5⟩
      · rw [← hdone.out.1]; exact HT5.out
      · rw [← hdone.out.2]; exact HV5.out
      · intro g hg; cases hg; rw [HOB.out]; exact Nat.le_refl _
      · intro g hg; have := HN.out g hg; have := HOB.out; omega
    · obtain ⟨p, hp⟩ : ∃ p, p = la.getD k 0 := ⟨_, rfl⟩
      have hpb : p < 1000000 := by rw [hp]; exact okB_getD OA.out (by omega) k
      obtain ⟨b1, o1, ha1, p1⟩ := HA.out.ext he k (by omega)
      subst ha1
      rw [← hp] at p1
      obtain ⟨s, hs⟩ : ∃ s, s = p + 1000000 * r := ⟨_, rfl⟩
      have hsy : s < 1000000 * y := by omega
      have HSKIP : Hid (s < y → QuoI 1000000 la y k s q) := fun h => by
        have h1 := HI.out.skip (by omega) OA.out (by omega) (by rw [← hp, ← hs]; exact h)
        rw [← hp, ← hs] at h1
        exact h1
      have HSTEP : Hid (∀ z, y * z ≤ s → s < y * (z + 1) → QuoI 1000000 la y k (s - y * z) (q.set k z)) := fun z h1 h2 => by
        have h3 := HI.out.step (by omega) OA.out (by omega) (x := z) (by rw [← hp, ← hs]; exact h1) (by rw [← hp, ← hs]; exact h2)
        rw [← hp, ← hs] at h3
        exact h3
      have HROW : Hid (trimL (p :: toB 1000000 r) = toB 1000000 s) := by show _ = _; rw [hs]; exact quo_row (by omega) hpb
      have hrl : (toB 1000000 r).length ≤ lb.length := by
        have := toB_mono (B := 1000000) (by omega) (Nat.le_of_lt hr)
        rw [← HY.out] at this; exact this
      have hkk : ((k + 1 : Nat) : Int) - 1 = (k : Int) := by omega
      rw [hkk]
      clear hp hs hpb HI
      go_wp2_with (at_builtin; refine wpList_appendN (ob + 1) _ rfl _ _ rfl wr.heap.size 1 [p] (toB 1000000 r) rfl (owns_one p wr) vv rfl (HV.out.slice.ext ((Ext.refl _).alloc _)) (by simp; omega) (by omega) (by simp; omega) ?_)
      all_goals
        intro v5 w5 o5 b5 n5
        obtain ⟨a5, c5, rfl, oc5, or5, _⟩ := o5.reads
        have HT5 := Lib.hid (trimR_any (p :: toB 1000000 r) a5 c5 w5 or5 oc5)
        have H5 := Lib.hid (And.intro o5 (And.intro b5 n5))
        clear o5 b5 n5 oc5 or5
        go_wp2_with (go_at_call 97; refine HT5.out.mono ?_; rintro e w6 ⟨rfl, hn6, hE6⟩; rw [HROW.out])
        have H6 : Hid (OwnsN .i64 3 w6 (.slice a5 (toB 1000000 s).length c5) (toB 1000000 s)) := by
          have h := (H5.out.1.ext hE6).trim hn6
          rw [HROW.out] at h
          exact h
        have HN6 : Hid (∀ b, (Value.slice a5 (toB 1000000 s).length c5).ownBlock = some b → ob < b) := fun b hb => H5.out.2.2 b (by cases a5 <;> exact hb)
        have B6 : Below (ob + 1) wr w6 := ((((Ext.refl _).alloc _).mono (by omega)).trans H5.out.2.1).trans (hE6.mono (by have := H5.out.2.1.size; simp at this; omega))
        have HO6 : Hid (OwnsN .i64 3 w6 (.slice (some ⟨ob, 0, none⟩) N N) q) := HO.out.same (fun g hg => by cases hg; exact Below.block B6 ob (by omega))
        have E6 : Ext w w6 := he.trans' B6 (by rw [HOB.out]; omega)
        have hz6 : ob < w6.heap.size := Nat.lt_of_lt_of_le hobz B6.size
        have hsl : (toB 1000000 s).length ≤ lb.length + 1 := HYL.out s (by omega)
        clear H5 HT5 hn6 hE6 B6 HROW HV HO HN hobz p1 he
        by_cases hc : s < y
        · have hlt : ordN s y < 0 := ordN_neg.2 hc
          go_wp2_with ((go_at_call 86; (with_reducible refine (orderR_any s y (toB 1000000 s) lb a5 b c5 cb w6 rfl HY.out (by omega) (by omega) H6.out.cells (HB.out.ext E6)).mono ?_); rintro e w1 ⟨rfl, hE⟩))
          have HS := Lib.hid (HSKIP.out hc)
          have H7 := Lib.hid (H6.out.ext hE)
          have HO7 := Lib.hid (HO6.out.ext hE)
          have E7 := E6.trans hE
          have hz7 : ob < w1.heap.size := Nat.lt_of_lt_of_le hz6 hE.size
          have hm : ((k : Int) - 1 + 1).toNat < ((k : Int) + 1).toNat := by omega
          clear H6 HO6 E6 hE hz6 HSKIP HSTEP
          go_wp2
          refine ⟨⟨k, _, by omega, by go_num, rfl, ⟨s, q, HS.out, HO7.out, H7.out⟩, HN6, hz7, E7⟩, by simp [intOf]⟩
        · have hlt : ¬ ordN s y < 0 := fun h => hc (ordN_neg.1 h)
          go_wp2_with ((go_at_call 86; (with_reducible refine (orderR_any s y (toB 1000000 s) lb a5 b c5 cb w6 rfl HY.out (by omega) (by omega) H6.out.cells (HB.out.ext E6)).mono ?_); rintro e w1 ⟨rfl, hE⟩))
          obtain ⟨wo, hwo⟩ : ∃ wo, wo = w1 := ⟨w1, rfl⟩
          subst hwo
          have H7 := Lib.hid (H6.out.ext hE)
          have HO7 := Lib.hid (HO6.out.ext hE)
          have E7 := E6.trans hE
          have hz7 : ob < wo.heap.size := Nat.lt_of_lt_of_le hz6 hE.size
          clear H6 HO6 E6 hE hz6 HSKIP hlt
          go_wp2
          go_loopw [9, 10] (fun lo hi wr => ∃ (l h : Nat), l ≤ h ∧ h ≤ 999999 ∧ lo = .int .i64 l ∧ hi = .int .i64 h ∧ Hid (y * l ≤ s ∧ s < y * (h + 1)) ∧ Ext wo wr) (fun lo hi _ => (intOf hi - intOf lo).toNat)
          case atStart => exact ⟨0, 999999, by omega, by omega, rfl, rfl, ⟨by omega, by rw [Nat.mul_comm]; omega⟩, Ext.refl _⟩
          case round =>
            obtain ⟨l, h, hlh, hh, rfl, rfl, hin, he⟩ := hrel
            by_cases hl : l < h
            · obtain ⟨m, hm⟩ : ∃ m, m = (l + h + 1) / 2 := ⟨_, rfl⟩
              have hm1 : l < m := by omega
              have hm2 : m ≤ h := by omega
              have hw1 : IntKind.i64.wrap ((l : Int) + (h : Int)) = (l : Int) + (h : Int) := by rw [IntKind.wrap_i64]; omega
              have hw2 : IntKind.i64.wrap ((l : Int) + (h : Int) + 1) = (l : Int) + (h : Int) + 1 := by rw [IntKind.wrap_i64]; omega
              have ht : ((l : Int) + (h : Int) + 1).tdiv 2 = (m : Int) := by rw [Int.tdiv_eq_ediv_of_nonneg (by omega)]; omega
              have hw3 : IntKind.i64.wrap (m : Int) = (m : Int) := by rw [IntKind.wrap_i64]; omega
              have hw4 : IntKind.i64.wrap ((m : Int) - 1) = (m : Int) - 1 := by rw [IntKind.wrap_i64]; omega
              have HM : Hid ([m] = toB 1000000 m) := (toB_one (by omega) (by omega) (by omega)).symm
              have hym : (toB 1000000 (y * m)).length ≤ lb.length + 1 := HYL.out _ (by rw [Nat.mul_comm]; exact Nat.mul_le_mul_right _ (by omega))
              clear hm
              go_wp2_with (go_at_call 105; refine (timesR_any y m lb [m] b _ cb 1 _ HY.out HM.out (by omega) (by simp) (HB.out.ext (E7.trans (he.alloc _))) (cells_one' m wr)).mono ?_; rintro e w8 ⟨v8, rfl, o8, n8, e8⟩)
              all_goals
                obtain ⟨a8, c8, rfl, oc8, _, _⟩ := o8.reads
                have E8 : Ext wo w8 := (he.alloc _).trans e8
                have OC8 := Lib.hid oc8
                clear o8 n8 e8 oc8
                by_cases hcmp : y * m ≤ s
                · have hz : ordN (y * m) s ≤ 0 := ordN_le.2 hcmp
                  go_wp2_with ((go_at_call 86; (with_reducible refine (orderR_any (y * m) s (toB 1000000 (y * m)) (toB 1000000 s) a8 a5 c8 c5 w8 rfl rfl (by omega) (by omega) OC8.out (H7.out.cells.ext E8)).mono ?_); rintro e w1 ⟨rfl, hE⟩))
                  have E9 := E8.trans hE
                  clear hE OC8 he E8
                  go_wp2
                  refine ⟨⟨m, h, hm2, hh, rfl, rfl, ⟨hcmp, hin.out.2⟩, E9⟩, by simp [intOf]; omega⟩
                · have hz : ¬ ordN (y * m) s ≤ 0 := fun h => hcmp (ordN_le.1 h)
                  go_wp2_with ((go_at_call 86; (with_reducible refine (orderR_any (y * m) s (toB 1000000 (y * m)) (toB 1000000 s) a8 a5 c8 c5 w8 rfl rfl (by omega) (by omega) OC8.out (H7.out.cells.ext E8)).mono ?_); rintro e w1 ⟨rfl, hE⟩))
                  have E9 := E8.trans hE
                  clear hE OC8 he E8
                  go_wp2
                  refine ⟨⟨l, m - 1, by omega, by omega, rfl, by go_num, ⟨hin.out.1, by rw [Nat.sub_add_cancel (by omega)]; omega⟩, E9⟩, by simp [intOf]; omega⟩
            · have hlh2 : l = h := by omega
              subst hlh2
              have hl1 : 1 ≤ l := by
                rcases Nat.eq_zero_or_pos l with h0 | h0
                · have := hin.out.2; rw [h0] at this; omega
                · exact h0
              obtain ⟨hI1, hI2⟩ := hin.out
              have HQ := Lib.hid (HSTEP.out l hI1 hI2)
              have HSET := Lib.hid (HO7.out.ext he |>.set k l)
              have HL : Hid ([l] = toB 1000000 l) := (toB_one (by omega) (by omega) (by omega)).symm
              have HTR : Hid (trimL [l] = [l]) := by
                show _ = _
                rw [trimL_toB (B := 1000000) (by omega) (fun z hz => by rw [List.mem_singleton] at hz; omega)]
                show toB 1000000 (l + 1000000 * 0) = _
                exact HL.out.symm
              have hym : (toB 1000000 (y * l)).length ≤ lb.length + 1 := HYL.out _ (by omega)
              have hkN : k < N := by have := HNN.out; omega
              obtain ⟨s1, s2⟩ := (HO7.out.ext he).at (i := k) (by have := HQL.out; omega)
              generalize q.getD k 0 = z0 at s1
              have HS5 : Hid (OwnsN .i64 3 (wr.setCell ⟨ob, k, none⟩ (.int .i64 (l : Int))) (.slice a5 (toB 1000000 s).length c5) (toB 1000000 s)) :=
                (H7.out.ext he).same (fun g hg => Below.heap_setCell _ _ _ _ (Nat.ne_of_gt (HN6.out g hg)))
              have E8 : Ext w (wr.setCell ⟨ob, k, none⟩ (.int .i64 (l : Int))) := (E7.trans he).set (by rw [HOB.out]; exact Nat.le_refl _) _
              have hz8 : ob < (wr.setCell ⟨ob, k, none⟩ (.int .i64 (l : Int))).heap.size := by have := he.size; simp [World.setCell]; omega
              have HI1 := Lib.hid hI1
              clear HSTEP HO7 H7 hz7 E7 he hI1 hI2 hin
              obtain ⟨ws, hws⟩ : ∃ ws, ws = wr.setCell ⟨ob, k, none⟩ (.int .i64 (l : Int)) := ⟨_, rfl⟩
              rw [← hws] at HSET HS5 E8 hz8
              have HSS : Hid (ws.heap.size = wr.heap.size) := by show _ = _; rw [hws]; simp [World.setCell]
              have HWS := Lib.hid hws
              clear hws
              have HR1 : Room (some ⟨ws.heap.size, 0, none⟩) [l].length 1 := ⟨by simp, by unfold maxLen; omega, fun _ => ⟨_, _, rfl⟩⟩
              have HT9 := Lib.hid (trimR_any [l] (some ⟨ws.heap.size, 0, none⟩) 1 (ws.alloc (.cells #[.int .i64 (l : Int)] 3)) HR1 (cells_one' l ws))
              clear HR1
              go_wp2_with (go_at_call 97; rw [← HWS.out, ← HSS.out]; refine HT9.out.mono ?_; rintro e w9 ⟨rfl, hn9, hE9⟩; rw [HTR.out, HSS.out])
              have C9 := Lib.hid ((cells_one' l ws).ext hE9)
              rw [HSS.out] at C9
              have E9 : Ext ws w9 := ((Ext.refl _).alloc _).trans hE9
              clear hn9 hE9 HT9
              go_wp2_with (go_at_call 105; refine (timesR_any y l lb [l] b _ cb 1 _ HY.out HL.out (by omega) (by simp) (HB.out.ext (E8.trans E9)) C9.out).mono ?_; rintro e w10 ⟨v10, rfl, o10, n10, e10⟩)
              all_goals
                obtain ⟨a10, c10, rfl, oc10, _, _⟩ := o10.reads
                have E10 : Ext ws w10 := E9.trans e10
                have OC10 := Lib.hid oc10
                clear o10 n10 e10 oc10 E9 C9
                have hsub : y * l ≤ s := HI1.out
                go_wp2_with (go_at_call 106; refine (lessR_any s (y * l) (toB 1000000 s) (toB 1000000 (y * l)) a5 a10 c5 c10 w10 rfl rfl hsub (by omega) (HS5.out.cells.ext E10) OC10.out).mono ?_; rintro e w11 ⟨v11, rfl, o11, n11, e11⟩)
                all_goals
                  have O11 := Lib.hid o11
                  have N11 : Hid (∀ b, v11.ownBlock = some b → ob < b) := fun b hb => by have h1 := n11 b hb; have h2 := E10.size; omega
                  have HSET11 := Lib.hid (HSET.out.ext (E10.trans e11))
                  have E11 := E8.trans (E10.trans e11)
                  have hz11 : ob < w11.heap.size := Nat.lt_of_lt_of_le hz8 (E10.trans e11).size
                  clear o11 n11 e11 E10 OC10 E8 hz8 HS5 HSET
                  go_wp2
                  refine ⟨⟨k, _, by omega, by go_num, rfl, ⟨s - y * l, _, HQ.out, HSET11.out, O11.out⟩, N11, hz11, E11⟩, by simp [intOf]⟩
end Go.Proofs.YtpfanpkinlklnaaGreatDoor
/- The reference's greatest common divisor. -/
namespace Go.Proofs.YtpfanpkinlklnaaGreatDoor
open Go.RowKit

def natR (w : World) : Value → Nat
  | .slice a n _ => valB 1000000 (readN w a n)
  | _ => 0
theorem natR_eq {w : World} {a : Option Addr} {x c : Nat} (h : CellsN .i64 w a (toB 1000000 x)) : natR w (.slice a (toB 1000000 x).length c) = x := by
  unfold natR
  simp only
  rw [readN_eq h, valB_toB (by omega)]
/-- a number that is read from now on is returned -/
def NewR (l : List Nat) (w : World) (e : Ending) (w' : World) : Prop := ∃ a c, e = .returned (.slice a l.length c) ∧ CellsN .i64 w' a l ∧ Ext w w'
theorem OwnNPost.newR {l : List Nat} {w : World} {e : Ending} {w' : World} (h : OwnNPost .i64 3 l w e w') : NewR l w e w' := by
  obtain ⟨v, h1, h2, _, h4⟩ := h
  obtain ⟨a, c, rfl, h5, _⟩ := h2.reads
  exact ⟨a, c, h1, h5, h4⟩
theorem lenR_pos {x : Nat} (h : x ≠ 0) : 0 < (toB 1000000 x).length := by rw [toB_pos (by omega) h]; simp
theorem lenR_zero {x : Nat} (h : x = 0) : (toB 1000000 x).length = 0 := by rw [h, toB_zero]; rfl
/-- between the rounds -/
structure ShaW (x y : Nat) (w0 : World) (va vb : Value) (a b : Nat) (w : World) : Prop where
  g : Nat.gcd a b = Nat.gcd x y
  la : (toB 1000000 a).length ≤ 100
  lb : (toB 1000000 b).length ≤ 100
  a : ∃ pa pc, va = .slice pa (toB 1000000 a).length pc ∧ CellsN .i64 w pa (toB 1000000 a)
  b : ∃ qa qc, vb = .slice qa (toB 1000000 b).length qc ∧ CellsN .i64 w qa (toB 1000000 b)
  e : Ext w0 w

set_option maxHeartbeats 4000000 in
set_option maxRecDepth 100000 in
theorem sharedR_any (x y : Nat) (la lb : List Nat) (a b : Option Addr) (ca cb : Nat) (w : World) (hx : la = toB 1000000 x) (hy : lb = toB 1000000 y)
    (hla : la.length ≤ 100) (hlb : lb.length ≤ 100) (ha : CellsN .i64 w a la) (hb : CellsN .i64 w b lb) :
    Calls Tryz.prog 87 #[.slice a la.length ca, .slice b lb.length cb] w (NewR (toB 1000000 (Nat.gcd x y)) w) := by
  subst hx hy
  have W0 : Hid (ShaW x y w (.slice a (toB 1000000 x).length ca) (.slice b (toB 1000000 y).length cb) x y w) := ⟨rfl, hla, hlb, ⟨_, _, rfl, ha⟩, ⟨_, _, rfl, hb⟩, Ext.refl _⟩
  clear ha hb hla hlb
  generalize Value.slice a (toB 1000000 x).length ca = va0 at W0 ⊢
  generalize Value.slice b (toB 1000000 y).length cb = vb0 at W0 ⊢
  go_enter Tryz.func87, Tryz.ntmps87
  go_wp2
  go_loopw [0, 1] (fun va vb wr => ∃ (p q : Nat), Hid (ShaW x y w va vb p q wr)) (fun _ vb wr => natR wr vb)
  case atStart => exact ⟨x, y, W0.out⟩
  case round =>
    obtain ⟨p, q, HW⟩ := hrel
    obtain ⟨hg, hpl, hql, ⟨pa, pc, rfl, hpc⟩, ⟨qa, qc, rfl, hqc⟩, he⟩ := HW.out
    have HG := Lib.hid hg
    have HP := Lib.hid hpc
    have HQ := Lib.hid hqc
    have HE := Lib.hid he
    have HM : Hid (natR wr (.slice qa (toB 1000000 q).length qc) = q) := natR_eq hqc
    clear hg hpc hqc W0 HW
    by_cases h0 : q = 0
    · have hz := lenR_zero h0
      have HD : Hid (p = Nat.gcd x y) := by show _ = _; rw [← HG.out, h0, Nat.gcd_zero_right]
      have HL : Hid (toB 1000000 p = toB 1000000 (Nat.gcd x y)) := by show _ = _; rw [← HD.out]
      clear h0 HD
      go_wp2
      go_ret
      rw [HL.out] at HP ⊢
      exact ⟨_, _, rfl, HP.out, HE.out⟩
    · have hz := lenR_pos h0
      have HT := Lib.hid (quotientR_any p q (toB 1000000 p) (toB 1000000 q) pa qa pc qc wr rfl rfl (by omega) hpl hql HP.out HQ.out)
      have HR : Hid (p % q < q ∧ Nat.gcd q (p % q) = Nat.gcd x y) := ⟨Nat.mod_lt _ (by omega), by rw [← HG.out, Nat.gcd_comm p q, Nat.gcd_rec q p, Nat.gcd_comm]⟩
      clear h0 HG
      go_wp2_with (go_at_call 67; refine HT.out.mono ?_; rintro e w5 ⟨v5, u5, rfl, o5, r5, n5, m5, e5⟩)
      obtain ⟨a5, c5, rfl, oc5, _, _⟩ := r5.reads
      have hM2 : natR w5 (.slice a5 (toB 1000000 (p % q)).length c5) = p % q := natR_eq oc5
      have hml : (toB 1000000 (p % q)).length ≤ 100 := Nat.le_trans (toB_mono (by omega) (Nat.le_of_lt HR.out.1)) hql
      have W5 : Hid (ShaW x y w (.slice qa (toB 1000000 q).length qc) (.slice a5 (toB 1000000 (p % q)).length c5) q (p % q) w5) := ⟨HR.out.2, hql, hml, ⟨_, _, rfl, HQ.out.ext e5⟩, ⟨_, _, rfl, oc5⟩, HE.out.trans e5⟩
      have HM2 := Lib.hid hM2
      clear hM2 o5 r5 n5 m5 e5 oc5
      go_wp2
      refine ⟨⟨q, _, W5⟩, ?_⟩
      rw [HM.out, HM2.out]
      exact HR.out.1
end Go.Proofs.YtpfanpkinlklnaaGreatDoor
