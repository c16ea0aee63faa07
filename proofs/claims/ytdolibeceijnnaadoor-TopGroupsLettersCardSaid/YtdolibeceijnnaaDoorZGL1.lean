/- Steps of the proof: QSpec, Base, Range, Own, QOwn, QCells, QStep, QSeq, GMov, Grp1, Grp2, Grp3, Grp4, Grp5, QBeh, QCheck, QChk. No conditions. -/
import Derived.Test.YtdolibeceijnnaaDoorRows
import Derived.WalkKit
import Derived.WalkLawsBesides
import Derived.WalkSpells
import Derived.BigQuiet
import Derived.Deep.QuietTactic
import Derived.StillTailTactics
import Derived.Deep.RegionHeld3
import Derived.Deep.LoopGhost
import Derived.Deep.DeepCutAuto
import Derived.Deep.DeepFit
import Derived.Lib.Hide
import Derived.RowKit3
import Derived.RangeFuncNested
import Derived.RangeFuncBound
import Derived.RangeFuncCalls
import Derived.RangeFuncLeaves
import Derived.Shelf.Abstract
import Derived.OwnWalkIn
import Derived.TacticsInMore
import Derived.LoopNIn
import Derived.LoopIn
import Derived.Deep.AppendSrc
import Derived.Laws.ResultCell
import Derived.Laws.Bits64b
import Derived.Laws.StructEq
namespace Go.Proofs.YtdolibeceijnnaaDoor
abbrev Stk := Int × Bool
abbrev Stp := List Stk × Int
abbrev Sq := Int × List Stp
def ckStrokes : Int → List Stk → Int
  | _, [] => 0
  | last, y :: l => if y.1 < 0 ∨ 6 ≤ y.1 then 2 else if y.1 = last then 7 else if y.1 < last then 9 else ckStrokes y.1 l
def ckStep (x : Stp) : Int :=
  if x.1.length = 0 then 13 else if 6 < x.1.length then 5 else if ckStrokes (-1) x.1 ≠ 0 then ckStrokes (-1) x.1 else if x.2 < 0 ∨ 1000000 < x.2 then 2 else 0
def beh (e : Int → Bool) (l : List Stk) : Int → Bool := l.foldl (fun e y i => if i = y.1 then y.2 else e i) e
def anyHigh (n : Int) (l : List Stk) : Bool := l.any fun y => decide (n ≤ y.1)
def anySame (e : Int → Bool) (l : List Stk) : Bool := l.any fun y => e y.1 == y.2
def ckFit (n : Int) (x : Stp) (e : Int → Bool) : Int :=
  if ckStep x ≠ 0 then ckStep x else if anyHigh n x.1 then 6 else if anySame e x.1 then 14 else 0
def ckWalk (n : Int) : (Int → Bool) → List Stp → Int
  | _, [] => 0
  | e, x :: l => if ckFit n x e ≠ 0 then ckFit n x e else ckWalk n (beh e x.1) l
def none6 : Int → Bool := fun _ => false
def behAll (e : Int → Bool) (l : List Stp) : Int → Bool := l.foldl (fun e x => beh e x.1) e
def movesIn (a : Int) (x : Stp) : Bool := x.1.any fun y => y.1 == a
def movedIn (a : Int) (l : List Stp) : Bool := l.any (movesIn a)
def ints (n : Int) : List Int := (List.range n.toNat).map Int.ofNat
def ckSeq (s : Sq) : Int :=
  if s.1 < 1 ∨ 6 < s.1 then 2 else if s.2.length = 0 then 13 else if 64 < s.2.length then 5
  else if ckWalk s.1 none6 s.2 ≠ 0 then ckWalk s.1 none6 s.2
  else if (ints s.1).any (behAll none6 s.2) then 9
  else if (ints s.1).any (fun a => !movedIn a s.2) then 13 else 0
def movesOf (l : List Stp) (a : Int) : List Int := (ints l.length).filter fun k => movesIn a (l.getD k.toNat ([], 0))
def ordered (l : List Stk) : List Stk := (ints 6).flatMap fun a => l.filter fun y => y.1 == a
def renStep (tf : Int → Int) (x : Stp) : Stp := (ordered (x.1.map fun y => (tf y.1, y.2)), x.2)
def ren (tf : Int → Int) (s : Sq) : Sq := (s.1, s.2.map (renStep tf))
def listFn (l : List Int) (a : Int) : Int := if a < 0 then 0 else l.getD a.toNat 0
def lexLt : List Int → List Int → Bool
  | [], [] => false
  | [], _ :: _ => true
  | _ :: _, [] => false
  | a :: l, b :: m => if a ≠ b then decide (a < b) else lexLt l m
def partFn (l : List Stp) (a : Int) : Int := (((ints a).filter fun b => movedIn b l).length : Nat)
def apart (a b : Stp) : Bool := a.1.all fun y => !movesIn y.1 b
def renGo (n : Int) : List Int → List Int → Int
  | _, [] => 0
  | bef, x :: l => if x < 0 ∨ n ≤ x then 2 else if bef.contains x then 7 else renGo n (bef ++ [x]) l
def renE (tf : List Int) (n : Int) : Int := if (tf.length : Int) ≠ n then 8 else renGo n [] tf
end Go.Proofs.YtdolibeceijnnaaDoor
namespace Go.Proofs.YtdolibeceijnnaaDoor
open Go.RowKit
def Ext (w w' : World) : Prop := Below w.heap.size w w'
theorem Ext.refl (w : World) : Ext w w := Below.refl _ _
theorem Ext.trans {a b c : World} (h : Ext a b) (k : Ext b c) : Ext a c := Below.trans h (Below.mono k h.size)
theorem Ext.trans' {a b c : World} (h : Ext a b) {n : Nat} (k : Below n b c) (hn : a.heap.size ≤ n) : Ext a c := Below.trans h (Below.mono k hn)
theorem cell_lt {w : World} {p : Addr} {v : Value} (h : w.cell? p = some v) : p.block < w.heap.size := by
  by_cases hp : p.block < w.heap.size
  · exact hp
  · exfalso
    have : w.heap[p.block]? = none := by simp; omega
    simp [World.cell?, this] at h
theorem Ext.cell {w w' : World} (h : Ext w w') {p : Addr} {v : Value} (hc : w.cell? p = some v) : w'.cell? p = some v := (Below.cell h (cell_lt hc)).trans hc
theorem Ext.alloc {a w : World} (h : Ext a w) (o : Obj) : Ext a (w.alloc o) := Below.alloc h h.size o
theorem Ext.drew {a w : World} (h : Ext a w) : Ext a w.drew := Below.drew h
theorem Ext.size_lt {w w' : World} (h : Ext w w') {n : Nat} (hn : n < w.heap.size) : n < w'.heap.size := Nat.lt_of_lt_of_le hn h.size
abbrev Sees (W w' : World) : Prop := (∀ b o, b < W.heap.size → w'.cell? ⟨b, o, none⟩ = W.cell? ⟨b, o, none⟩) ∧ (∀ b o, b < W.heap.size → w'.frozen? ⟨b, o, none⟩ = W.frozen? ⟨b, o, none⟩) ∧ Ext W w'
theorem sees {W w' : World} (h : Ext W w') : Sees W w' := ⟨fun b o hb => Below.cell (p := ⟨b, o, none⟩) h hb, fun b o hb => Below.frozen (p := ⟨b, o, none⟩) h hb, h⟩
theorem Sees.refl (w : World) : Sees w w := sees (Ext.refl w)
theorem Sees.alloc {a w : World} (h : Sees a w) (o : Obj) : Sees a (w.alloc o) := sees (h.2.2.alloc o)
theorem Sees.drew {a w : World} (h : Sees a w) : Sees a w.drew := sees h.2.2.drew
theorem Sees.ext {a b c : World} (h : Sees a b) (k : Ext b c) : Sees a c := sees (h.2.2.trans k)
theorem Ext.drewN {a w : World} (h : Ext a w) (n : Nat) : Ext a (w.drewN n) := ⟨h.os, h.tape, h.output, h.size, h.block⟩
theorem Ext.set {w A : World} (h : Ext w A) {b o : Nat} (hb : w.heap.size ≤ b) (v : Value) : Ext w (A.setCell ⟨b, o, none⟩ v) := Below.setCell (p := ⟨b, o, none⟩) h hb v
theorem ret_bool {a b : Bool} (h : a = b) : Ending.returned (.bool a) = .returned (.bool b) := by rw [h]
theorem ret_int {k : IntKind} {a b : Int} (h : a = b) : Ending.returned (.int k a) = .returned (.int k b) := by rw [h]
theorem extA {A B : World} (h : Ext A B := by repeat (first | with_reducible exact Ext.refl _ | with_reducible assumption | with_reducible apply Ext.drewN | with_reducible apply Ext.drew | with_reducible apply Ext.alloc | ((with_reducible refine Ext.set ?_ ?_ _); rotate_left; first | omega | (simp; omega)) | (with_reducible refine Ext.trans ?_ (by with_reducible assumption)))) : Ext A B := h
end Go.Proofs.YtdolibeceijnnaaDoor
namespace Go.Proofs.YtdolibeceijnnaaDoor
open Go.RowKit
def isRec : Obj → Bool
  | .loop _ => true
  | .deferred _ => true
  | _ => false
def Keep (n : Nat) (A B : World) : Prop := Below n A B ∧ ∀ (k : Nat) (o : Obj), A.heap[k]? = some o → isRec o = false → B.heap[k]? = some o
theorem Keep.refl (n : Nat) (A : World) : Keep n A A := ⟨Below.refl _ _, fun _ _ h _ => h⟩
theorem Keep.trans {n : Nat} {A B C : World} (h : Keep n A B) (k : Keep n B C) : Keep n A C := ⟨h.1.trans k.1, fun i o hi ho => k.2 i o (h.2 i o hi ho) ho⟩
theorem Keep.alloc {n : Nat} {A : World} (hn : n ≤ A.heap.size) (o : Obj) : Keep n A (A.alloc o) :=
  ⟨(Below.refl _ _).alloc hn o, fun k o' h _ => by
    have hk : k < A.heap.size := (Array.getElem?_eq_some_iff.1 h).1
    rw [Below.heap_alloc _ _ _ hk]; exact h⟩
theorem Keep.turn {n l : Nat} {A : World} {o o' : Obj} (hn : n ≤ l) (h : A.heap[l]? = some o) (hr : isRec o = true) : Keep n A (A.putObj l o') :=
  ⟨(Below.refl _ _).grown (grownBy_putObj' A l o') (by have := (Array.getElem?_eq_some_iff.1 h).1; omega) (fun k e => by cases e; exact hn), fun k x hx hxr => by
    have : k ≠ l := fun e => by subst e; rw [h] at hx; cases hx; rw [hr] at hxr; cases hxr
    rw [World.putObj_heap_other this]; exact hx⟩
theorem Keep.ext {n : Nat} {A B : World} (h : Ext A B) (hn : n ≤ A.heap.size) : Keep n A B :=
  ⟨h.mono hn, fun k o hk _ => by
    have hk' : k < A.heap.size := (Array.getElem?_eq_some_iff.1 hk).1
    rw [Below.block h k hk']; exact hk⟩
def Kept (Kd : Nat → Prop) (n : Nat) (A B : World) : Prop := A.heap.size ≤ B.heap.size ∧ ∀ (k : Nat) (o : Obj), Kd k → A.heap[k]? = some o → (isRec o = false ∨ n ≤ k) → B.heap[k]? = some o
theorem Kept.refl (Kd : Nat → Prop) (n : Nat) (A : World) : Kept Kd n A A := ⟨Nat.le_refl _, fun _ _ _ h _ => h⟩
theorem Kept.trans {Kd : Nat → Prop} {n : Nat} {A B C : World} (h : Kept Kd n A B) (k : Kept Kd n B C) : Kept Kd n A C := ⟨Nat.le_trans h.1 k.1, fun i o hd hi ho => k.2 i o hd (h.2 i o hd hi ho) ho⟩
theorem Kept.turn {Kd : Nat → Prop} {n l : Nat} {A : World} {o o' : Obj} (hn : l < n) (h : A.heap[l]? = some o) (hr : isRec o = true) : Kept Kd n A (A.putObj l o') :=
  ⟨(grownBy_putObj' A l o').size, fun k x _ hx hxr => by
    have : k ≠ l := fun e => by
      subst e; rw [h] at hx; cases hx
      rcases hxr with hxr | hxr
      · rw [hr] at hxr; cases hxr
      · omega
    rw [World.putObj_heap_other this]; exact hx⟩
theorem Kept.ext {A B : World} (h : Ext A B) (Kd : Nat → Prop) (n : Nat) : Kept Kd n A B :=
  ⟨h.size, fun k o _ hk _ => by rw [Below.block h k (Array.getElem?_eq_some_iff.1 hk).1]; exact hk⟩
def mark (D : Nat) : Deferred := { target := .collected D, args := #[] }
def Marks (n : Nat) (ds : List Deferred) (w : World) : Prop := ∃ Ds : List Nat, ds = Ds.map mark ∧ Ds.Nodup ∧ ∀ D ∈ Ds, n ≤ D ∧ w.heap[D]? = some (.deferred (some []))
theorem Marks.nil (n : Nat) (w : World) : Marks n [] w := ⟨[], rfl, List.nodup_nil, fun _ h => by cases h⟩
theorem Marks.kept {n : Nat} {ds : List Deferred} {A B : World} (h : Marks n ds A) (hk : ∀ D, n ≤ D → A.heap[D]? = some (.deferred (some [])) → B.heap[D]? = some (.deferred (some []))) : Marks n ds B := by
  obtain ⟨Ds, h1, h2, h3⟩ := h
  exact ⟨Ds, h1, h2, fun D hD => ⟨(h3 D hD).1, hk D (h3 D hD).1 (h3 D hD).2⟩⟩
theorem Marks.ext {n : Nat} {ds : List Deferred} {A B : World} (h : Marks n ds A) (he : Ext A B) : Marks n ds B :=
  h.kept fun D _ hD => by rw [Below.block he D (Array.getElem?_eq_some_iff.1 hD).1]; exact hD
theorem Marks.cons {n D : Nat} {ds : List Deferred} {A B : World} (h : Marks n ds A) (hA : A.heap.size ≤ D) (hn : n ≤ D) (hk : Marks n ds B) (hD : B.heap[D]? = some (.deferred (some []))) : Marks n (mark D :: ds) B := by
  obtain ⟨Ds, h1, h2, h3⟩ := h
  obtain ⟨Es, k1, k2, k3⟩ := hk
  refine ⟨D :: Ds, by rw [h1]; rfl, List.nodup_cons.2 ⟨fun hm => ?_, h2⟩, fun E hE => ?_⟩
  · have := (Array.getElem?_eq_some_iff.1 (h3 D hm).2).1
    omega
  · rcases List.mem_cons.1 hE with rfl | hE
    · exact ⟨hn, hD⟩
    · have hEs : Es = Ds := by
        have : Es.map mark = Ds.map mark := by rw [← k1, h1]
        exact List.map_inj_right (fun a b hab => by cases hab; rfl) |>.1 this
      exact k3 E (hEs ▸ hE)
end Go.Proofs.YtdolibeceijnnaaDoor
namespace Go.Proofs.YtdolibeceijnnaaDoor
open Go.RowKit
def AppEnd (w w' : World) (v v' : Value) : Prop := (v'.ownBlock = v.ownBlock ∧ v.ownBlock ≠ none ∧ w.grownBy w' v.ownBlock) ∨ (v'.ownBlock = some w.heap.size ∧ Ext w w')
theorem run_append1 {P : Program} (w : World) (t ty e : TypeId) (i : TypeInfo) (z : Value) (size bytes : Nat) (ht : P.underlying t = some (.slice e)) (hi : P.info? e = some i) (hz : i.zero = some z)
    (hsize : i.size = size) (hby : i.bytes = bytes) (hzs : z.cells.size = size) (hsz : 0 < size)
    (v : Value) (n : Nat) (xs : List Value) (hown : w.ownsRow 0 e size v n xs)
    (a : Addr) (m c : Nat) (hm : 0 < m) (news : List Value) (hl : news.length = m * size) (hnews : ∀ j u, news[j]? = some u → w.cell? (a.add j) = some u) (h1 : ∀ u ∈ news, u.oneCell' = true)
    (h63 : n + m ≤ maxLen) (hbytes : (n + m) * bytes ≤ 140737488355328) :
    ∃ v' w', (Builtin.append_ #[t, t] ty #[v, .slice (some a) m c]).run P w = .ok v' w' ∧ w'.ownsRow 0 e size v' (n + m) (xs ++ news) ∧ AppEnd w w' v v' := by
  obtain ⟨v', w', hr, h2, h3, h4⟩ := run_append_own (P := P) w 0 t ty e i z size bytes ht hi hz hsize hby hzs hsz v n xs hown a m c news hl hnews h1 h63 hbytes (Nat.zero_le _)
  refine ⟨v', w', hr, h2, ?_⟩
  subst hsize
  subst hby
  have hsmall : n + m ≤ 9223372036854775807 := by simp only [maxLen] at h63; omega
  rcases hown.2 with ⟨rfl, rfl⟩ | ⟨g, cap, cur, rfl, hbg, hg, hnc, hcm, hcs, htake⟩
  · have hx := run_append_nil (P := P) w t ty e i z ht hi hz a m c news hl hnews hm (by omega) (by have hb := hbytes; simp only [Nat.zero_add] at hb; omega)
    rw [hr] at hx
    injection hx with e1 e2
    subst e1; subst e2
    exact .inr ⟨rfl, (Ext.refl _).drew.alloc _⟩
  · by_cases hroom : n + m ≤ cap
    · have hfit : n * i.size + news.length ≤ cur.size := by rw [hl, hcs, ← Nat.add_mul]; exact Nat.mul_le_mul_right _ hroom
      have hx := run_append_room (P := P) w t ty e i ht hi g n cap cur hg a m c news hl hnews h1 hroom hfit
      rw [hr] at hx
      injection hx with e1 e2
      subst e1
      exact .inl ⟨rfl, by simp [Value.ownBlock], h3⟩
    · have holds : ∀ j u, xs[j]? = some u → w.cell? ((⟨g, 0, none⟩ : Addr).add j) = some u := hown.cells (g := g) rfl
      have hx := run_append_grow (P := P) w t ty e i z ht hi hz ⟨g, 0, none⟩ n cap xs hown.1 holds a m c news hl hnews (by omega) (by omega) (growslice_fits (by omega) hbytes)
      rw [hr] at hx
      injection hx with e1 e2
      subst e1; subst e2
      exact .inr ⟨rfl, (Ext.refl _).drew.alloc _⟩
theorem wpList_append1 {P : Program} (w : World) {ops : Array Oper} {rest : List Oper} {o : Oper} {a : Act} {Q : Exit → Act → World → Prop} (hgd : o.guard = none) (s x : Operand) (t : TypeId)
    (ho : o.op = .call { callee := .builtin .append, args := #[s, x], argTypes := #[t, t] })
    (e : TypeId) (i : TypeInfo) (z : Value) (size bytes : Nat) (ht : P.underlying t = some (.slice e)) (hi : P.info? e = some i) (hz : i.zero = some z)
    (hsize : i.size = size) (hby : i.bytes = bytes) (hzs : z.cells.size = size) (hsz : 0 < size)
    (v : Value) (n : Nat) (xs : List Value) (hs : a.eval s = v) (hown : w.ownsRow 0 e size v n xs)
    (ad : Addr) (m c : Nat) (hm : 0 < m) (news : List Value) (hx : a.eval x = .slice (some ad) m c) (hl : news.length = m * size) (hnews : ∀ j u, news[j]? = some u → w.cell? (ad.add j) = some u) (h1 : ∀ u ∈ news, u.oneCell' = true)
    (h63 : n + m ≤ maxLen) (hbytes : (n + m) * bytes ≤ 140737488355328)
    (h : ∀ v' w', w'.ownsRow 0 e size v' (n + m) (xs ++ news) → AppEnd w w' v v' → wpList P ops Q rest (a.put o.dst v') w') : wpList P ops Q (o :: rest) a w := by
  obtain ⟨v', w', hr, h2, h3⟩ := run_append1 (P := P) w t o.type e i z size bytes ht hi hz hsize hby hzs hsz v n xs hown ad m c hm news hl hnews h1 h63 hbytes
  refine wpList_plain hgd fun K hK => ?_
  unfold Oper.wp execOp
  simp only [ho, resolve, invoke, builtin, Sem.run_bind, Sem.run_pure, Result.andThen_ok, List.map_toArray, List.map_cons, List.map_nil, hs, hx, hr]
  exact hK _ _ (h v' w' h2 h3)
end Go.Proofs.YtdolibeceijnnaaDoor
namespace Go.Proofs.YtdolibeceijnnaaDoor
open Go.RowKit
theorem rowExt {A B : World} {e : TypeId} {s : Nat} {v : Value} {n : Nat} {xs : List Value} (h : A.ownsRow 0 e s v n xs) (k : Ext A B) : B.ownsRow 0 e s v n xs := by
  obtain ⟨h1, h2⟩ := h
  refine ⟨h1, ?_⟩
  rcases h2 with h2 | ⟨g, cap, cur, hv, hg, hh, r⟩
  · exact .inl h2
  · exact .inr ⟨g, cap, cur, hv, hg, (Below.block k g (Array.getElem?_eq_some_iff.1 hh).1).trans hh, r⟩
theorem rowSame {A B : World} {e : TypeId} {s : Nat} {v : Value} {n : Nat} {xs : List Value} (h : A.ownsRow 0 e s v n xs) (k : ∀ b, v.ownBlock = some b → B.heap[b]? = A.heap[b]?) : B.ownsRow 0 e s v n xs := by
  obtain ⟨h1, h2⟩ := h
  refine ⟨h1, ?_⟩
  rcases h2 with h2 | ⟨g, cap, cur, hv, hg, hh, r⟩
  · exact .inl h2
  · exact .inr ⟨g, cap, cur, hv, hg, (k g (by rw [hv]; rfl)).trans hh, r⟩
theorem rowLt {A : World} {e : TypeId} {s : Nat} {v : Value} {n : Nat} {xs : List Value} (h : A.ownsRow 0 e s v n xs) {b : Nat} (hb : v.ownBlock = some b) : b < A.heap.size := (World.ownsRow.lt h b hb).2
theorem rowReads {A : World} {e : TypeId} {s : Nat} {v : Value} {n : Nat} {xs : List Value} (h : A.ownsRow 0 e s v n xs) :
    ∃ a cap, v = .slice a n cap ∧ n ≤ maxLen ∧ ∀ j u, xs[j]? = some u → ∃ b, a = some ⟨b, 0, none⟩ ∧ v.ownBlock = some b ∧ A.cell? ⟨b, j, none⟩ = some u ∧ A.frozen? ⟨b, j, none⟩ = false := by
  rcases h.2 with ⟨hv, hn⟩ | ⟨g, cap, cur, hv, hg, hh, hnc, hm, hcs, ht⟩
  · subst hn
    exact ⟨none, 0, hv, by simp [maxLen], fun j u hj => by
      have := h.1
      simp at this; subst this; simp at hj⟩
  · refine ⟨some ⟨g, 0, none⟩, cap, hv, by omega, fun j u hj => ⟨g, rfl, by rw [hv]; rfl, ?_, ?_⟩⟩
    · have hc := World.ownsRow.cells h (g := g) (by rw [hv]; rfl) j u hj
      rwa [Addr.add_lit, Nat.zero_add] at hc
    · rw [hv] at h
      exact h.frozenAt j
theorem AppEnd.chg {A B : World} {v v' : Value} (h : AppEnd A B v v') : (∀ b, b < A.heap.size → v.ownBlock ≠ some b → B.heap[b]? = A.heap[b]?) ∧ A.heap.size ≤ B.heap.size ∧ ∀ b, v'.ownBlock = some b → v.ownBlock = some b ∨ A.heap.size ≤ b := by
  rcases h with ⟨h1, _, hg⟩ | ⟨h1, he⟩
  · exact ⟨fun b hb hne => hg.block b hb hne.symm, hg.size, fun b hb => .inl (h1 ▸ hb)⟩
  · exact ⟨fun b hb _ => Below.block he b hb, he.size, fun b hb => .inr (by rw [h1] at hb; cases hb; exact Nat.le_refl _)⟩
theorem AppEnd.below {n : Nat} {A B : World} {v v' : Value} (h : AppEnd A B v v') (hn : n ≤ A.heap.size) (hv : ∀ b, v.ownBlock = some b → n ≤ b) : Below n A B := by
  rcases h with ⟨_, _, hg⟩ | ⟨_, he⟩
  · exact (Below.refl _ _).grown hg hn hv
  · exact he.mono hn
theorem AppEnd.ge {n : Nat} {A B : World} {v v' : Value} (h : AppEnd A B v v') (hn : n ≤ A.heap.size) (hv : ∀ b, v.ownBlock = some b → n ≤ b) : ∀ b, v'.ownBlock = some b → n ≤ b := fun b hb => by
  rcases h with ⟨h1, _, _⟩ | ⟨h1, _⟩
  · exact hv b (h1 ▸ hb)
  · rw [h1] at hb; cases hb; exact hn
theorem cellB {n : Nat} {A B : World} (h : Below n A B) {p : Addr} {v : Value} (hp : p.block < n) (hc : A.cell? p = some v) : B.cell? p = some v := (Below.cell h hp).trans hc
def flat2 (l : List (Value × Value)) : List Value := l.flatMap fun p => [p.1, p.2]
theorem flat2_append (l m : List (Value × Value)) : flat2 (l ++ m) = flat2 l ++ flat2 m := by simp [flat2]
theorem flat2_length (l : List (Value × Value)) : (flat2 l).length = l.length * 2 := by
  induction l with
  | nil => rfl
  | cons a l ih => simp only [flat2, List.flatMap_cons, List.length_append, List.length_cons, List.length_nil] at *; omega
theorem flat2_get (l : List (Value × Value)) (i : Nat) (h : i < l.length) : (flat2 l)[i * 2]? = some l[i].1 ∧ (flat2 l)[i * 2 + 1]? = some l[i].2 := by
  induction l generalizing i with
  | nil => simp at h
  | cons a l ih =>
    cases i with
    | zero => simp [flat2]
    | succ i =>
      have := ih i (by simpa using h)
      rw [show (i + 1) * 2 = i * 2 + 2 from by omega]
      simpa [flat2] using this
theorem cells_one (w : World) (xs : List Value) (t : TypeId) : ∀ j u, xs[j]? = some u → (w.alloc (.cells xs.toArray t)).cell? ((⟨w.heap.size, 0, none⟩ : Addr).add j) = some u := by
  intro j u h
  rw [Addr.add_lit, World.cell?_alloc_new, Nat.zero_add]
  simpa using h
end Go.Proofs.YtdolibeceijnnaaDoor
namespace Go.Proofs.YtdolibeceijnnaaDoor
open Go.RowKit
def stk0 : Stk := (0, false)
def stp0 : Stp := ([], 0)
def CellsK (w : World) (a : Option Addr) (l : List Stk) : Prop :=
  ∀ i, i < l.length → ∃ b off, a = some ⟨b, off, none⟩ ∧ w.cell? ⟨b, off + i * 2, none⟩ = some (.int .i64 (l.getD i stk0).1) ∧ w.cell? ⟨b, off + i * 2 + 1, none⟩ = some (.bool (l.getD i stk0).2)
theorem CellsK.ext {w w' : World} {a : Option Addr} {l : List Stk} (h : CellsK w a l) (he : Ext w w') : CellsK w' a l := fun i hi => by
  obtain ⟨b, off, h1, h2, h3⟩ := h i hi
  exact ⟨b, off, h1, he.cell h2, he.cell h3⟩
theorem CellsK.nil (w : World) (a : Option Addr) : CellsK w a [] := fun i hi => by simp at hi
def SliceK (w : World) (v : Value) (l : List Stk) : Prop := ∃ a cap, v = .slice a l.length cap ∧ CellsK w a l ∧ l.length ≤ maxLen
theorem SliceK.ext {w w' : World} {v : Value} {l : List Stk} (h : SliceK w v l) (he : Ext w w') : SliceK w' v l := by
  obtain ⟨a, cap, h1, h2, h3⟩ := h
  exact ⟨a, cap, h1, h2.ext he, h3⟩
def CellsP (w : World) (a : Option Addr) (l : List Stp) : Prop :=
  ∀ i, i < l.length → ∃ b off v, a = some ⟨b, off, none⟩ ∧ w.cell? ⟨b, off + i * 2, none⟩ = some v ∧ SliceK w v (l.getD i stp0).1 ∧ w.cell? ⟨b, off + i * 2 + 1, none⟩ = some (.int .i64 (l.getD i stp0).2)
theorem CellsP.ext {w w' : World} {a : Option Addr} {l : List Stp} (h : CellsP w a l) (he : Ext w w') : CellsP w' a l := fun i hi => by
  obtain ⟨b, off, v, h1, h2, h3, h4⟩ := h i hi
  exact ⟨b, off, v, h1, he.cell h2, h3.ext he, he.cell h4⟩
def Room (a : Option Addr) (n cap : Nat) : Prop := n ≤ cap ∧ cap ≤ maxLen ∧ (0 < n → ∃ b off, a = some ⟨b, off, none⟩)
theorem Room.len {a : Option Addr} {n cap : Nat} (h : Room a n cap) : n ≤ maxLen := Nat.le_trans h.1 h.2.1
instance roomLen (a : Option Addr) (n cap : Nat) : CoeOut (Room a n cap) (n ≤ maxLen) := ⟨Room.len⟩
theorem rowRoom {A : World} {e : TypeId} {s : Nat} {v : Value} {n : Nat} {xs : List Value} {a : Option Addr} {cap : Nat} (h : A.ownsRow 0 e s v n xs) (hv : v = .slice a n cap) : Room a n cap := by
  rcases h.2 with ⟨h1, hn⟩ | ⟨g, c, cur, h1, hg, hh, hnc, hm, hcs, ht⟩
  · rw [hv] at h1
    cases h1
    exact ⟨by omega, by simp, fun h => by omega⟩
  · rw [hv] at h1
    cases h1
    exact ⟨hnc, hm, fun _ => ⟨g, 0, rfl⟩⟩
def SliceP (w : World) (v : Value) (l : List Stp) : Prop := ∃ a cap, v = .slice a l.length cap ∧ CellsP w a l ∧ Room a l.length cap
theorem SliceP.ext {w w' : World} {v : Value} {l : List Stp} (h : SliceP w v l) (he : Ext w w') : SliceP w' v l := by
  obtain ⟨a, cap, h1, h2, h3⟩ := h
  exact ⟨a, cap, h1, h2.ext he, h3⟩
def SeqV (w : World) (v : Value) (s : Sq) : Prop := ∃ u, v = .agg #[.int .i64 s.1, u] ∧ SliceP w u s.2
theorem SeqV.ext {w w' : World} {v : Value} {s : Sq} (h : SeqV w v s) (he : Ext w w') : SeqV w' v s := by
  obtain ⟨u, h1, h2⟩ := h
  exact ⟨u, h1, h2.ext he⟩
end Go.Proofs.YtdolibeceijnnaaDoor
namespace Go.Proofs.YtdolibeceijnnaaDoor
open Go.RowKit
def knownB (a : Int) : Bool := decide (0 ≤ a) && decide (a < 6)
theorem known_any (a : Int) (w : World) : Calls Tryd.prog 67 #[.int .i64 a] w fun e w' => e = .returned (.bool (knownB a)) ∧ w = w' := by
  unfold knownB
  go_enter Tryd.func67, Tryd.ntmps67
  go_wp2
  all_goals go_ret
  all_goals exact ⟨ret_bool (by first | rfl | (simp; done) | (simp; omega)), rfl⟩
theorem Actuator_any (a : Int) (w : World) : Calls Tryd.prog 86 #[.int .i64 a] w fun e w' => e = .returned (.bool (knownB a)) ∧ w = w' := by
  unfold knownB
  go_enter Tryd.func86, Tryd.ntmps86
  go_wp2
  all_goals go_ret
  all_goals exact ⟨ret_bool (by first | rfl | (simp; done) | (simp; omega)), rfl⟩
def timeB (a : Int) : Bool := decide (0 ≤ a) && decide (a ≤ 1000000)
theorem Time_any (a : Int) (w : World) : Calls Tryd.prog 87 #[.int .i64 a] w fun e w' => e = .returned (.bool (timeB a)) ∧ w = w' := by
  unfold timeB
  go_enter Tryd.func87, Tryd.ntmps87
  go_wp2
  all_goals go_ret
  all_goals exact ⟨ret_bool (by first | rfl | (simp; done) | (simp; omega)), rfl⟩
theorem ckStrokes_cons {la : Int} {y : Stk} {l : List Stk} (e : Int) (h : ckStrokes la (y :: l) = e) :
    (knownB y.1 = false → e = 2) ∧ (knownB y.1 = true → (y.1 = la → e = 7) ∧ (y.1 ≠ la → (y.1 < la → e = 9) ∧ (¬ y.1 < la → ckStrokes y.1 l = e))) := by
  unfold ckStrokes at h
  unfold knownB
  refine ⟨fun k => ?_, fun k => ⟨fun k2 => ?_, fun k2 => ⟨fun k3 => ?_, fun k3 => ?_⟩⟩⟩
  all_goals simp only [Bool.and_eq_true, Bool.and_eq_false_iff, decide_eq_true_eq, decide_eq_false_iff_not] at k
  · rw [if_pos (by omega)] at h; exact h.symm
  · rw [if_neg (by omega), if_pos k2] at h; exact h.symm
  · rw [if_neg (by omega), if_neg k2, if_pos k3] at h; exact h.symm
  · rw [if_neg (by omega), if_neg k2, if_neg k3] at h; exact h
theorem drop_cons {α : Type} (l : List α) (d : α) {k : Nat} (h : k < l.length) : l.drop k = l.getD k d :: l.drop (k + 1) := by
  rw [List.drop_eq_getElem_cons h, List.getD_eq_getElem?_getD, List.getElem?_eq_getElem h]; rfl
set_option maxHeartbeats 1000000 in
theorem CheckStep_any (l : List Stk) (wait : Int) (a : Option Addr) (cap : Nat) (w : World) (hl : l.length ≤ maxLen) (hc : CellsK w a l) :
    Calls Tryd.prog 66 #[.agg #[.slice a l.length cap, .int .i64 wait]] w fun e w' => e = .returned (.int .i64 (ckStep (l, wait))) ∧ Ext w w' := by
  have HC := Lib.hid hc
  unfold maxLen at hl
  clear hc
  by_cases h0 : l.length = 0
  · have hf : Hid (ckStep (l, wait) = 13) := by show _ = _; unfold ckStep; rw [if_pos h0]
    have h0' : ((l.length : Int) == 0) = true := by simp [h0]
    have h0b : (l.length == 0) = true := by simp [h0]
    go_enter Tryd.func66, Tryd.ntmps66
    go_wp2
    all_goals go_ret
    all_goals exact ⟨ret_int hf.out.symm, (Ext.refl _).alloc _⟩
  · have h0' : ((l.length : Int) == 0) = false := beq_eq_false_iff_ne.2 (by omega)
    have h0b : (l.length == 0) = false := beq_eq_false_iff_ne.2 h0
    by_cases h6 : 6 < l.length
    · have hf : Hid (ckStep (l, wait) = 5) := by show _ = _; unfold ckStep; rw [if_neg h0, if_pos h6]
      go_enter Tryd.func66, Tryd.ntmps66
      go_wp2
      all_goals go_ret
      all_goals exact ⟨ret_int hf.out.symm, (Ext.refl _).alloc _⟩
    · have hf : Hid (ckStep (l, wait) = if ckStrokes (-1) l ≠ 0 then ckStrokes (-1) l else if wait < 0 ∨ 1000000 < wait then 2 else 0) := by show _ = _; unfold ckStep; rw [if_neg h0, if_neg h6]
      clear h0
      go_enter Tryd.func66, Tryd.ntmps66
      go_wp2
      have H : Ext w (w.alloc (.cells #[.slice a l.length cap, .int .i64 wait] 65)) := (Ext.refl _).alloc _
      have c1 : (w.alloc (.cells #[.slice a l.length cap, .int .i64 wait] 65)).cell? ⟨w.heap.size, 1, none⟩ = some (.int .i64 wait) := by go_simp
      generalize w.alloc (.cells #[.slice a l.length cap, .int .i64 wait] 65) = W at H c1 ⊢
      have HC : Hid (CellsK W a l) := HC.out.ext H
      go_loopw [19, 4] (fun i la wr => ∃ k : Nat, k ≤ l.length ∧ i = .int .i64 k ∧ (∃ z : Int, la = .int .i64 z ∧ Hid (ckStrokes z (l.drop k) = ckStrokes (-1) l)) ∧ Ext W wr) (fun i _ _ => l.length - (intOf i).toNat)
      case atStart => exact ⟨0, Nat.zero_le _, rfl, ⟨-1, rfl, by show _ = _; rfl⟩, Ext.refl _⟩
      case round =>
        obtain ⟨k, hk, rfl, ⟨z, rfl, hz⟩, he⟩ := hrel
        have d1 := he.cell c1
        by_cases hlt : k < l.length
        · obtain ⟨b, off, ha, e1, e2⟩ := HC.out.ext he k hlt
          subst ha
          have hz1 := hz.out
          rw [drop_cons l stk0 hlt] at hz1
          have HZ := Lib.hid (ckStrokes_cons _ hz1)
          clear hz1 hz
          generalize l.getD k stk0 = y at e1 e2 HZ
          obtain ⟨ya, yo⟩ := y
          dsimp only at e1 e2 HZ
          have z1 := cell_lt e1
          dsimp only at z1
          cases hkn : knownB ya
          · have hf2 : Hid (ckStep (l, wait) = 2) := by
              show _ = _
              have h := HZ.out.1 hkn
              rw [hf.out, h]; rfl
            clear HZ
            go_wp2_with (go_at_call 67; (with_reducible refine (known_any _ _).mono ?_); rintro e w1 ⟨rfl, rfl⟩)
            go_ret
            exact ⟨ret_int hf2.out.symm, (H.trans he).alloc _⟩
          · have HZ2 := Lib.hid (HZ.out.2 hkn)
            clear HZ
            by_cases h7 : ya = z
            · have hf2 : Hid (ckStep (l, wait) = 7) := by
                show _ = _
                have h := HZ2.out.1 h7
                rw [hf.out, h]; rfl
              subst h7
              clear HZ2
              go_wp2_with (go_at_call 67; (with_reducible refine (known_any _ _).mono ?_); rintro e w1 ⟨rfl, rfl⟩)
              go_ret
              exact ⟨ret_int hf2.out.symm, (H.trans he).alloc _⟩
            · have h7b : (ya == z) = false := by simpa using h7
              have HZ3 := Lib.hid (HZ2.out.2 h7)
              clear HZ2 h7
              by_cases h9 : ya < z
              · have hf2 : Hid (ckStep (l, wait) = 9) := by
                  show _ = _
                  have h := HZ3.out.1 h9
                  rw [hf.out, h]; rfl
                clear HZ3
                go_wp2_with (go_at_call 67; (with_reducible refine (known_any _ _).mono ?_); rintro e w1 ⟨rfl, rfl⟩)
                go_ret
                exact ⟨ret_int hf2.out.symm, (H.trans he).alloc _⟩
              · have HZ4 := Lib.hid (HZ3.out.2 h9)
                clear HZ3
                go_wp2_with (go_at_call 67; (with_reducible refine (known_any _ _).mono ?_); rintro e w1 ⟨rfl, rfl⟩)
                refine ⟨⟨k + 1, by omega, by go_num, ⟨ya, rfl, HZ4⟩, he.alloc _⟩, by simp [intOf]; omega⟩
        · have hz1 := hz.out
          rw [List.drop_eq_nil_of_le (by omega)] at hz1
          have hf2 : Hid (ckStep (l, wait) = if wait < 0 ∨ 1000000 < wait then 2 else 0) := by
            show _ = _
            rw [hf.out, ← hz1]; rfl
          clear hz1 hz hf
          by_cases g1 : wait < 0
          · go_wp2
            all_goals go_ret
            all_goals exact ⟨ret_int (by rw [hf2.out, if_pos (Or.inl g1)]), H.trans he⟩
          · by_cases g2 : 1000000 < wait
            · go_wp2
              all_goals go_ret
              all_goals exact ⟨ret_int (by rw [hf2.out, if_pos (Or.inr g2)]), H.trans he⟩
            · go_wp2
              all_goals go_ret
              all_goals exact ⟨ret_int (by rw [hf2.out, if_neg (by omega)]), H.trans he⟩
def lastAt (l : List Stk) (k : Nat) : Int := if k = 0 then -1 else (l.getD (k - 1) stk0).1
set_option maxHeartbeats 2000000 in
theorem CheckStepR_any (l : List Stk) (wait : Int) (a : Option Addr) (cap : Nat) (w : World) (hl : l.length ≤ maxLen) (hc : CellsK w a l) :
    Calls Tryd.prog 74 #[.agg #[.slice a l.length cap, .int .i64 wait]] w fun e w' => e = .returned (.int .i64 (ckStep (l, wait))) ∧ Ext w w' := by
  have HC := Lib.hid hc
  unfold maxLen at hl
  clear hc
  by_cases h0 : l.length = 0
  · have hf : Hid (ckStep (l, wait) = 13) := by show _ = _; unfold ckStep; rw [if_pos h0]
    have h0' : ((l.length : Int) == 0) = true := by simp [h0]
    have h0b : (l.length == 0) = true := by simp [h0]
    go_enter Tryd.func74, Tryd.ntmps74
    go_wp2
    all_goals go_ret
    all_goals exact ⟨ret_int hf.out.symm, (Ext.refl _).alloc _⟩
  · have h0' : ((l.length : Int) == 0) = false := beq_eq_false_iff_ne.2 (by omega)
    have h0b : (l.length == 0) = false := beq_eq_false_iff_ne.2 h0
    by_cases h6 : 6 < l.length
    · have hf : Hid (ckStep (l, wait) = 5) := by show _ = _; unfold ckStep; rw [if_neg h0, if_pos h6]
      go_enter Tryd.func74, Tryd.ntmps74
      go_wp2
      all_goals go_ret
      all_goals exact ⟨ret_int hf.out.symm, (Ext.refl _).alloc _⟩
    · have hf : Hid (ckStep (l, wait) = if ckStrokes (-1) l ≠ 0 then ckStrokes (-1) l else if wait < 0 ∨ 1000000 < wait then 2 else 0) := by show _ = _; unfold ckStep; rw [if_neg h0, if_neg h6]
      clear h0
      go_enter Tryd.func74, Tryd.ntmps74
      go_wp2
      have H : Ext w (w.alloc (.cells #[.slice a l.length cap, .int .i64 wait] 65)) := (Ext.refl _).alloc _
      have c0 : (w.alloc (.cells #[.slice a l.length cap, .int .i64 wait] 65)).cell? ⟨w.heap.size, 0, none⟩ = some (.slice a l.length cap) := by go_simp
      have c1 : (w.alloc (.cells #[.slice a l.length cap, .int .i64 wait] 65)).cell? ⟨w.heap.size, 1, none⟩ = some (.int .i64 wait) := by go_simp
      generalize w.alloc (.cells #[.slice a l.length cap, .int .i64 wait] 65) = W at H c0 c1 ⊢
      have HC : Hid (CellsK W a l) := HC.out.ext H
      go_loopw [3] (fun i wr => ∃ k : Nat, k ≤ l.length ∧ i = .int .i64 k ∧ Hid (ckStrokes (lastAt l k) (l.drop k) = ckStrokes (-1) l) ∧ Ext W wr) (fun i _ => l.length - (intOf i).toNat)
      case atStart => exact ⟨0, Nat.zero_le _, rfl, by show _ = _; rfl, Ext.refl _⟩
      case round =>
        obtain ⟨k, hk, rfl, hz, he⟩ := hrel
        have d0 := he.cell c0
        have d1 := he.cell c1
        by_cases hlt : k < l.length
        · obtain ⟨b, off, ha, e1, e2⟩ := HC.out.ext he k hlt
          have hz1 := hz.out
          rw [drop_cons l stk0 hlt] at hz1
          have HZ := Lib.hid (ckStrokes_cons _ hz1)
          have HL : Hid (lastAt l (k + 1) = (l.getD k stk0).1) := by show _ = _; unfold lastAt; simp
          have HK : Hid (0 < k → ∃ z, w.heap.size = w.heap.size ∧ lastAt l k = z ∧ W.cell? ⟨b, off + (k - 1) * 2, none⟩ = some (.int .i64 z)) := fun hk0 => by
            obtain ⟨b', off', ha', e1', _⟩ := HC.out (k - 1) (by omega)
            rw [ha] at ha'
            injection ha' with ha'
            injection ha' with h1 h2 _
            subst h1; subst h2
            exact ⟨_, rfl, rfl, by rw [e1']; unfold lastAt; rw [if_neg (by omega)]⟩
          subst ha
          clear hz1 hz
          generalize l.getD k stk0 = y at e1 e2 HZ HL
          obtain ⟨ya, yo⟩ := y
          dsimp only at e1 e2 HZ HL
          have z1 := cell_lt e1
          dsimp only at z1
          cases hkn : knownB ya
          · have hf2 : Hid (ckStep (l, wait) = 2) := by
              show _ = _
              have h := HZ.out.1 hkn
              rw [hf.out, h]; rfl
            clear HZ
            go_wp2_with (go_at_call 86; (with_reducible refine (Actuator_any _ _).mono ?_); rintro e w1 ⟨rfl, rfl⟩)
            go_ret
            exact ⟨ret_int hf2.out.symm, H.trans he⟩
          · have HZ2 := Lib.hid (HZ.out.2 hkn)
            clear HZ
            have hya : 0 ≤ ya ∧ ya < 6 := by unfold knownB at hkn; simpa using hkn
            by_cases hk0 : k = 0
            · subst hk0
              have e1 : wr.cell? ⟨b, off, none⟩ = some (.int .i64 ya) := by simpa using e1
              have hlast : lastAt l 0 = -1 := rfl
              rw [hlast] at HZ2
              have hfin : Hid (ckStrokes ya (l.drop 1) = ckStrokes (-1) l) := (HZ2.out.2 (by omega)).2 (by omega)
              clear HZ2 HK hlast
              go_wp2_with (go_at_call 86; (with_reducible refine (Actuator_any _ _).mono ?_); rintro e w1 ⟨rfl, rfl⟩)
              go_quiet (fail)
              go_wp2
              go_quiet (fail)
              go_wp2
              refine ⟨⟨1, by omega, by go_num, by rw [HL.out]; exact hfin, extA⟩, by simp [intOf]; omega⟩
            · obtain ⟨z, _, hz3, hz4⟩ := HK.out (by omega)
              rw [hz3] at HZ2
              clear HK hz3
              have hz4 := he.cell hz4
              have hk1 : 0 < k := by omega
              have hk2 : ((k : Int) - 1).toNat = k - 1 := by omega
              have hk3 : 0 ≤ (k : Int) - 1 := by omega
              have hk4 : (k : Int) - 1 < l.length := by omega
              clear hk0
              by_cases h7 : ya = z
              · have hf2 : Hid (ckStep (l, wait) = 7) := by
                  show _ = _
                  have h := HZ2.out.1 h7
                  rw [hf.out, h]; rfl
                subst h7
                clear HZ2
                go_wp2_with (go_at_call 86; (with_reducible refine (Actuator_any _ _).mono ?_); rintro e w1 ⟨rfl, rfl⟩)
                go_quiet (fail)
                go_wp2
                go_ret
                exact ⟨ret_int hf2.out.symm, extA⟩
              · have h7b : (ya == z) = false := by simpa using h7
                have HZ3 := Lib.hid (HZ2.out.2 h7)
                clear HZ2 h7
                by_cases h9 : ya < z
                · have hf2 : Hid (ckStep (l, wait) = 9) := by
                    show _ = _
                    have h := HZ3.out.1 h9
                    rw [hf.out, h]; rfl
                  clear HZ3
                  go_wp2_with (go_at_call 86; (with_reducible refine (Actuator_any _ _).mono ?_); rintro e w1 ⟨rfl, rfl⟩)
                  go_quiet (fail)
                  go_wp2
                  go_quiet (fail)
                  go_wp2
                  go_ret
                  exact ⟨ret_int hf2.out.symm, extA⟩
                · have HZ4 := Lib.hid (HZ3.out.2 h9)
                  clear HZ3
                  go_wp2_with (go_at_call 86; (with_reducible refine (Actuator_any _ _).mono ?_); rintro e w1 ⟨rfl, rfl⟩)
                  go_quiet (fail)
                  go_wp2
                  go_quiet (fail)
                  go_wp2
                  refine ⟨⟨k + 1, by omega, by go_num, by rw [HL.out]; exact HZ4, extA⟩, by simp [intOf]; omega⟩
        · have hz1 := hz.out
          rw [List.drop_eq_nil_of_le (by omega)] at hz1
          have hf2 : Hid (ckStep (l, wait) = if wait < 0 ∨ 1000000 < wait then 2 else 0) := by
            show _ = _
            rw [hf.out, ← hz1]; rfl
          clear hz1 hz hf
          cases g : timeB wait
          · have hg : wait < 0 ∨ 1000000 < wait := by unfold timeB at g; simp at g; omega
            have hf2 : Hid (ckStep (l, wait) = 2) := by show _ = _; rw [hf2.out, if_pos hg]
            clear hg
            go_wp2_with (go_at_call 87; (with_reducible refine (Time_any _ _).mono ?_); rintro e w1 ⟨rfl, rfl⟩)
            go_ret
            exact ⟨ret_int hf2.out.symm, H.trans he⟩
          · have hg : ¬ (wait < 0 ∨ 1000000 < wait) := by unfold timeB at g; simp at g; omega
            have hf2 : Hid (ckStep (l, wait) = 0) := by show _ = _; rw [hf2.out, if_neg hg]
            clear hg
            go_wp2_with (go_at_call 87; (with_reducible refine (Time_any _ _).mono ?_); rintro e w1 ⟨rfl, rfl⟩)
            go_ret
            exact ⟨ret_int hf2.out.symm, H.trans he⟩
end Go.Proofs.YtdolibeceijnnaaDoor
namespace Go.Proofs.YtdolibeceijnnaaDoor
open Go.RowKit
theorem results_cell1 {fn : Func} {p : Tmp} {ty : TypeId} (h : fn.results = #[.cell p ty]) (tmps : Array Value) (P : Program) (w : World) :
    (results fn tmps).run P w = ((asAddr (tmps.getD p undef)).run P w).andThen fun a w₁ => (loadVar ty a).run P w₁ := by
  simp only [results, h]
  simp [Sem.run_bind, Result.andThen]
def endsV (e : Int → Bool) : Value := .agg #[.bool (e 0), .bool (e 1), .bool (e 2), .bool (e 3), .bool (e 4), .bool (e 5)]
def EndsAt (w : World) (p : Nat) (e : Int → Bool) : Prop := ∀ k : Nat, k < 6 → w.cell? ⟨p, k, none⟩ = some (.bool (e k)) ∧ w.frozen? ⟨p, k, none⟩ = false
theorem EndsAt.ext {w w' : World} {p : Nat} {e : Int → Bool} (h : EndsAt w p e) (he : Ext w w') : EndsAt w' p e := fun k hk =>
  ⟨he.cell (h k hk).1, (Below.frozen (p := ⟨p, k, none⟩) he (cell_lt (h k hk).1)).trans (h k hk).2⟩
theorem EndsAt.set {w : World} {p : Nat} {e : Int → Bool} (h : EndsAt w p e) {a : Int} (h0 : 0 ≤ a) (h6 : a < 6) (b : Bool) : EndsAt (w.setCell ⟨p, a.toNat, none⟩ (.bool b)) p (fun i => if i = a then b else e i) := fun k hk => by
  refine ⟨?_, by rw [World.frozen?_setCell]; exact (h k hk).2⟩
  by_cases c : k = a.toNat
  · subst c
    rw [World.cell?_setCell_same _ _ _ (h _ hk).1]; show _ = some (Value.bool (if _ then _ else _)); rw [if_pos (by omega)]
  · rw [World.cell?_setCell_other _ _ _ _ (fun x => by simp only [Addr.mk.injEq] at x; omega), (h k hk).1]; show _ = some (Value.bool (if _ then _ else _)); rw [if_neg (by omega)]
theorem EndsAt.other {w : World} {p q : Nat} {e : Int → Bool} (h : EndsAt w p e) (hq : q ≠ p) (j : Nat) (v : Value) : EndsAt (w.setCell ⟨q, j, none⟩ v) p e := fun k hk => by
  refine ⟨?_, by rw [World.frozen?_setCell]; exact (h k hk).2⟩
  rw [World.cell?_setCell_other _ _ _ _ (fun x => by simp only [Addr.mk.injEq] at x; omega), (h k hk).1]
theorem EndsAt.drew {w : World} {p : Nat} {e : Int → Bool} (h : EndsAt w p e) : EndsAt w.drew p e := h.ext (Ext.refl _).drew
theorem ends_new {w : World} {t : TypeId} {p : Nat} (hp : w.heap.size = p) (e : Int → Bool) : EndsAt (w.alloc (.cells #[.bool (e 0), .bool (e 1), .bool (e 2), .bool (e 3), .bool (e 4), .bool (e 5)] t)) p e := by
  subst hp
  intro k hk
  have : k = 0 ∨ k = 1 ∨ k = 2 ∨ k = 3 ∨ k = 4 ∨ k = 5 := by omega
  rcases this with rfl | rfl | rfl | rfl | rfl | rfl
  all_goals exact ⟨by rw [World.cell?_alloc_new]; rfl, by simp [go_sem]⟩
theorem ckStrokes_known {l : List Stk} {z : Int} (h : ckStrokes z l = 0) : ∀ y ∈ l, 0 ≤ y.1 ∧ y.1 < 6 := by
  induction l generalizing z with
  | nil => intro y hy; cases hy
  | cons x l ih =>
    unfold ckStrokes at h
    by_cases h1 : x.1 < 0 ∨ 6 ≤ x.1
    · rw [if_pos h1] at h; cases h
    · rw [if_neg h1] at h
      by_cases h2 : x.1 = z
      · rw [if_pos h2] at h; cases h
      · rw [if_neg h2] at h
        by_cases h3 : x.1 < z
        · rw [if_pos h3] at h; cases h
        · rw [if_neg h3] at h
          intro y hy
          rcases List.mem_cons.1 hy with rfl | hy
          · omega
          · exact ih h y hy
theorem ckStep_strokes {x : Stp} (h : ckStep x = 0) : ckStrokes (-1) x.1 = 0 ∧ x.1.length ≤ 6 ∧ 0 < x.1.length ∧ 0 ≤ x.2 ∧ x.2 ≤ 1000000 := by
  unfold ckStep at h
  by_cases h1 : x.1.length = 0
  · rw [if_pos h1] at h; cases h
  · rw [if_neg h1] at h
    by_cases h2 : 6 < x.1.length
    · rw [if_pos h2] at h; cases h
    · rw [if_neg h2] at h
      by_cases h3 : ckStrokes (-1) x.1 ≠ 0
      · rw [if_pos h3] at h; exact absurd h h3
      · rw [if_neg h3] at h
        by_cases h4 : x.2 < 0 ∨ 1000000 < x.2
        · rw [if_pos h4] at h; cases h
        · omega
theorem ckStep_known {x : Stp} (h : ckStep x = 0) : ∀ k, k < x.1.length → 0 ≤ (x.1.getD k stk0).1 ∧ (x.1.getD k stk0).1 < 6 := fun k hk => by
  rw [List.getD_eq_getElem?_getD, List.getElem?_eq_getElem hk]
  exact ckStrokes_known (ckStep_strokes h).1 _ (List.getElem_mem hk)
theorem any_drop {α : Type} (f : α → Bool) (l : List α) (d : α) {k : Nat} (h : k < l.length) {b : Bool} (e : (l.drop k).any f = b) : (f (l.getD k d) || (l.drop (k + 1)).any f) = b := by
  rw [drop_cons l d h, List.any_cons] at e; exact e
theorem high_drop {n : Int} {l : List Stk} {k : Nat} (h : k < l.length) {b : Bool} (e : anyHigh n (l.drop k) = b) : (decide (n ≤ (l.getD k stk0).1) || anyHigh n (l.drop (k + 1))) = b := any_drop (fun y : Stk => decide (n ≤ y.1)) l stk0 h e
theorem same_drop {f : Int → Bool} {l : List Stk} {k : Nat} (h : k < l.length) {b : Bool} (e : anySame f (l.drop k) = b) : ((f (l.getD k stk0).1 == (l.getD k stk0).2) || anySame f (l.drop (k + 1))) = b := any_drop (fun y : Stk => f y.1 == y.2) l stk0 h e
set_option maxHeartbeats 2000000 in
theorem fits_any (n : Int) (sv : Value) (l : List Stk) (wait : Int) (a : Option Addr) (cap : Nat) (e : Int → Bool) (w : World) (hl : l.length ≤ maxLen) (hc : CellsK w a l) :
    Calls Tryd.prog 56 #[.agg #[.int .i64 n, sv], .agg #[.slice a l.length cap, .int .i64 wait], endsV e] w fun r w' => r = .returned (.int .i64 (ckFit n (l, wait) e)) ∧ Ext w w' := by
  have HC := Lib.hid hc
  have HL := Lib.hid hl
  unfold maxLen at hl
  unfold endsV
  clear hc
  by_cases h0 : ckStep (l, wait) = 0
  · have hf : Hid (ckFit n (l, wait) e = if anyHigh n l then 6 else if anySame e l then 14 else 0) := by show _ = _; unfold ckFit; rw [if_neg (by simp [h0])]
    have HK := Lib.hid (ckStep_known h0)
    have H0 := Lib.hid h0
    clear h0
    go_enter Tryd.func56, Tryd.ntmps56
    go_wp2_with fail
    have E1 : Ext w (((w.alloc (.cells #[.int .i64 n, sv] 24)).alloc (.cells #[.slice a l.length cap, .int .i64 wait] 65)).alloc (.cells #[.bool (e 0), .bool (e 1), .bool (e 2), .bool (e 3), .bool (e 4), .bool (e 5)] 95)) := extA
    have c1 : (((w.alloc (.cells #[.int .i64 n, sv] 24)).alloc (.cells #[.slice a l.length cap, .int .i64 wait] 65)).alloc (.cells #[.bool (e 0), .bool (e 1), .bool (e 2), .bool (e 3), .bool (e 4), .bool (e 5)] 95)).cell? ⟨w.heap.size, 0, none⟩ = some (.int .i64 n) := by go_simp
    have c2 : (((w.alloc (.cells #[.int .i64 n, sv] 24)).alloc (.cells #[.slice a l.length cap, .int .i64 wait] 65)).alloc (.cells #[.bool (e 0), .bool (e 1), .bool (e 2), .bool (e 3), .bool (e 4), .bool (e 5)] 95)).cell? ⟨w.heap.size + 1, 0, none⟩ = some (.slice a l.length cap) := by go_simp
    have c3 : EndsAt (((w.alloc (.cells #[.int .i64 n, sv] 24)).alloc (.cells #[.slice a l.length cap, .int .i64 wait] 65)).alloc (.cells #[.bool (e 0), .bool (e 1), .bool (e 2), .bool (e 3), .bool (e 4), .bool (e 5)] 95)) (w.heap.size + 1 + 1) e := ends_new (by simp) e
    generalize ((w.alloc (.cells #[.int .i64 n, sv] 24)).alloc (.cells #[.slice a l.length cap, .int .i64 wait] 65)).alloc (.cells #[.bool (e 0), .bool (e 1), .bool (e 2), .bool (e 3), .bool (e 4), .bool (e 5)] 95) = W at E1 c1 c2 c3 ⊢
    refine (CheckStep_any l wait a cap _ HL.out (HC.out.ext E1)).mono ?_
    rintro r w1 ⟨rfl, hE⟩
    rw [H0.out]
    have E2 := E1.trans hE
    have c1 := hE.cell c1
    have c2 := hE.cell c2
    have C3 := Lib.hid (c3.ext hE)
    clear c3
    go_wp2
    go_loopw [20] (fun i wr => ∃ k : Nat, k ≤ l.length ∧ i = .int .i64 k ∧ Hid (anyHigh n (l.drop k) = anyHigh n l) ∧ Ext w1 wr) (fun i _ => l.length - (intOf i).toNat)
    case atStart => exact ⟨0, Nat.zero_le _, rfl, by show _ = _; rfl, Ext.refl _⟩
    case round =>
      obtain ⟨k, hk, rfl, hz, he⟩ := hrel
      have d1 := he.cell c1
      have d2 := he.cell c2
      have y1 := cell_lt d1
      dsimp only at y1
      by_cases hlt : k < l.length
      · obtain ⟨b, off, ha, e1, e2⟩ := HC.out.ext (E2.trans he) k hlt
        subst ha
        have HZ := Lib.hid (high_drop hlt hz.out)
        clear hz
        generalize l.getD k stk0 = y at e1 e2 HZ
        obtain ⟨ya, yo⟩ := y
        dsimp only at e1 e2 HZ
        have z1 := cell_lt e1
        dsimp only at z1
        by_cases hh : n ≤ ya
        · have hf2 : Hid (ckFit n (l, wait) e = 6) := by
            show _ = _
            have h := HZ.out
            rw [decide_eq_true hh, Bool.true_or] at h
            rw [hf.out, ← h]; rfl
          clear HZ
          go_wp2
          go_ret
          exact ⟨ret_int hf2.out.symm, extA⟩
        · have HZ2 : Hid (anyHigh n (l.drop (k + 1)) = anyHigh n l) := by
            show _ = _
            have h := HZ.out
            rw [decide_eq_false hh, Bool.false_or] at h
            exact h
          clear HZ
          go_wp2
          refine ⟨⟨k + 1, by omega, by go_num, HZ2, extA⟩, by simp [intOf]; omega⟩
      · have hf2 : Hid (ckFit n (l, wait) e = if anySame e l then 14 else 0) := by
          show _ = _
          have h := hz.out
          rw [List.drop_eq_nil_of_le (by omega)] at h
          rw [hf.out, ← h]; rfl
        clear hz hf
        have C4 := Lib.hid (C3.out.ext he)
        clear C3
        go_wp2
        generalize wr = W3 at *
        go_loopw [33] (fun i w4 => ∃ k : Nat, k ≤ l.length ∧ i = .int .i64 k ∧ Hid (anySame e (l.drop k) = anySame e l) ∧ Ext W3 w4) (fun i _ => l.length - (intOf i).toNat)
        case atStart => exact ⟨0, Nat.zero_le _, rfl, by show _ = _; rfl, Ext.refl _⟩
        case round =>
          obtain ⟨k2, hk2, rfl, hz, he2⟩ := hrel
          by_cases hlt2 : k2 < l.length
          · obtain ⟨b, off, ha, e1, e2⟩ := HC.out.ext ((E2.trans he).trans he2) k2 hlt2
            subst ha
            have HZ := Lib.hid (same_drop hlt2 hz.out)
            have hkn := HK.out k2 hlt2
            clear hz
            generalize l.getD k2 stk0 = y at e1 e2 HZ hkn
            obtain ⟨ya, yo⟩ := y
            dsimp only at e1 e2 HZ hkn
            obtain ⟨g0, g6⟩ := hkn
            have e3 := (C4.out.ext he2 ya.toNat (by omega)).1
            rw [Int.toNat_of_nonneg g0] at e3
            have z1 := cell_lt e1
            have z3 := cell_lt e3
            dsimp only at z1 z3
            cases hh : (e ya == yo)
            · have HZ2 : Hid (anySame e (l.drop (k2 + 1)) = anySame e l) := by
                show _ = _
                have h := HZ.out
                rw [hh, Bool.false_or] at h
                exact h
              clear HZ
              go_wp2
              go_quiet (fail)
              go_wp2
              refine ⟨⟨k2 + 1, by omega, by go_num, HZ2, extA⟩, by simp [intOf]; omega⟩
            · have hf3 : Hid (ckFit n (l, wait) e = 14) := by
                show _ = _
                have h := HZ.out
                rw [hh, Bool.true_or] at h
                rw [hf2.out, ← h]; rfl
              clear HZ
              go_wp2
              go_quiet (fail)
              go_wp2
              go_ret
              exact ⟨ret_int hf3.out.symm, extA⟩
          · have hf3 : Hid (ckFit n (l, wait) e = 0) := by
              show _ = _
              have h := hz.out
              rw [List.drop_eq_nil_of_le (by omega)] at h
              rw [hf2.out, ← h]; rfl
            clear hz hf2
            go_wp2
            go_ret
            exact ⟨ret_int hf3.out.symm, extA⟩
  · have hf : Hid (ckFit n (l, wait) e = ckStep (l, wait)) := by show _ = _; unfold ckFit; rw [if_pos h0]
    have hn : (ckStep (l, wait) != 0) = true := by simp [h0]
    clear h0
    generalize hz : ckStep (l, wait) = z at hf hn
    have HZ := Lib.hid hz
    clear hz
    go_enter Tryd.func56, Tryd.ntmps56
    go_wp2_with fail
    have E1 : Ext w (((w.alloc (.cells #[.int .i64 n, sv] 24)).alloc (.cells #[.slice a l.length cap, .int .i64 wait] 65)).alloc (.cells #[.bool (e 0), .bool (e 1), .bool (e 2), .bool (e 3), .bool (e 4), .bool (e 5)] 95)) := extA
    refine (CheckStep_any l wait a cap _ HL.out (HC.out.ext E1)).mono ?_
    rintro r w1 ⟨rfl, hE⟩
    rw [HZ.out]
    go_wp2
    go_ret
    exact ⟨ret_int hf.out.symm, extA⟩
end Go.Proofs.YtdolibeceijnnaaDoor
namespace Go.Proofs.YtdolibeceijnnaaDoor
open Go.RowKit
def GBits (w : World) : Prop := ∀ i : Nat, i < 6 → w.cell? ⟨0, i, none⟩ = some (.int .u64 ((2 ^ i : Nat) : Int))
theorem GBits.ext {w w' : World} (h : GBits w) (e : Ext w w') : GBits w' := fun i hi => e.cell (h i hi)
def mskK (l : List Stk) : Nat := l.foldl (fun m y => m ||| 2 ^ y.1.toNat) 0
theorem msk_lt {l : List Stk} (h : ∀ y ∈ l, 0 ≤ y.1 ∧ y.1 < 6) : mskK l < 64 := by
  have key : ∀ (l : List Stk) (m : Nat), (∀ y ∈ l, 0 ≤ y.1 ∧ y.1 < 6) → m < 2 ^ 6 → l.foldl (fun m y => m ||| 2 ^ y.1.toNat) m < 2 ^ 6 := by
    intro l
    induction l with
    | nil => intro m _ hm; exact hm
    | cons y l ih =>
      intro m hl hm
      rw [List.foldl_cons]
      have hy := hl y (List.mem_cons_self ..)
      exact ih _ (fun z hz => hl z (List.mem_cons_of_mem _ hz)) (Nat.or_lt_two_pow hm (Nat.pow_lt_pow_right (by omega) (by omega)))
  exact key l 0 h (by decide)
theorem msk_succ {l : List Stk} {k : Nat} (h : k < l.length) : mskK (l.take (k + 1)) = mskK (l.take k) ||| 2 ^ (l.getD k stk0).1.toNat := by
  unfold mskK
  rw [List.take_add_one, List.foldl_append]
  simp [List.getD, h]
theorem msk_bit (l : List Stk) (i : Nat) : (mskK l).testBit i = l.any fun y => decide (y.1.toNat = i) := by
  have key : ∀ (l : List Stk) (m : Nat), (l.foldl (fun m y => m ||| 2 ^ y.1.toNat) m).testBit i = (m.testBit i || l.any fun y => decide (y.1.toNat = i)) := by
    intro l
    induction l with
    | nil => intro m; simp
    | cons y l ih => intro m; rw [List.foldl_cons, ih, Nat.testBit_or, Nat.testBit_two_pow, List.any_cons, Bool.or_assoc]
  have := key l 0
  rw [Nat.zero_testBit, Bool.false_or] at this
  exact this
theorem getD_inn {α : Type} {l : List α} {d : α} {k : Nat} (h : k < l.length) : l.getD k d ∈ l := by
  rw [List.getD_eq_getElem?_getD, List.getElem?_eq_getElem h]; exact List.getElem_mem h
set_option maxHeartbeats 2000000 in
theorem moving_any (l : List Stk) (wait : Int) (a : Option Addr) (cap : Nat) (w : World) (hl : l.length ≤ maxLen) (hk : ∀ y ∈ l, 0 ≤ y.1 ∧ y.1 < 6) (hG : GBits w) (hc : CellsK w a l) :
    Calls Tryd.prog 46 #[.agg #[.slice a l.length cap, .int .i64 wait]] w fun r w' => r = .returned (.int .u64 ((mskK l : Nat) : Int)) ∧ Ext w w' := by
  have HC := Lib.hid hc
  have HK := Lib.hid hk
  have HG := Lib.hid hG
  unfold maxLen at hl
  clear hc hk hG
  go_enter Tryd.func46, Tryd.ntmps46
  go_wp2_with fail
  have E1 : Ext w (w.alloc (.cells #[.slice a l.length cap, .int .i64 wait] 65)) := extA
  have c1 : ((w.alloc (.cells #[.slice a l.length cap, .int .i64 wait] 65))).cell? ⟨w.heap.size, 0, none⟩ = some (.slice a l.length cap) := by go_simp
  generalize (w.alloc (.cells #[.slice a l.length cap, .int .i64 wait] 65)) = W at E1 c1 ⊢
  go_wp2
  go_loopw [9, 3] (fun i v wr => ∃ k : Nat, k ≤ l.length ∧ i = .int .i64 k ∧ v = .int .u64 ((mskK (l.take k) : Nat) : Int) ∧ Ext W wr) (fun i _ _ => l.length - (intOf i).toNat)
  case atStart => exact ⟨0, Nat.zero_le _, rfl, rfl, Ext.refl _⟩
  case round =>
    obtain ⟨k, hk, rfl, rfl, he⟩ := hrel
    have d1 := he.cell c1
    by_cases hlt : k < l.length
    · obtain ⟨b, off, ha, e1, e2⟩ := HC.out.ext (E1.trans he) k hlt
      subst ha
      have HS := Lib.hid (msk_succ hlt)
      have hy := HK.out _ (getD_inn (d := stk0) hlt)
      have hm := msk_lt (l := l.take k) (fun y hy => HK.out y (List.mem_of_mem_take hy))
      generalize l.getD k stk0 = y at e1 e2 HS hy
      generalize mskK (l.take k) = m at HS hm
      obtain ⟨ya, yo⟩ := y
      dsimp only at e1 e2 HS hy
      obtain ⟨yn, rfl⟩ := Int.eq_ofNat_of_zero_le hy.1
      have g1 := HG.out.ext (E1.trans he) yn (by omega)
      have hp : 2 ^ yn < 2 ^ 6 := Nat.pow_lt_pow_right (by omega) (by omega)
      have hb := bits_or_u64_nat m (2 ^ yn) (by omega) (by omega)
      have HS2 : Hid (m ||| 2 ^ yn = mskK (l.take (k + 1))) := by show _ = _; rw [HS.out, Int.toNat_natCast]
      rw [HS2.out] at hb
      have z1 := cell_lt e1
      have z2 := cell_lt g1
      dsimp only at z1 z2
      generalize 2 ^ yn = pw at hb g1
      clear HS HS2 hm hp
      go_wp2
      refine ⟨⟨k + 1, by omega, by go_num, rfl, extA⟩, by simp [intOf]; omega⟩
    · have : k = l.length := by omega
      subst this
      rw [List.take_length]
      go_wp2
      go_ret
      exact ⟨rfl, E1.trans he⟩
end Go.Proofs.YtdolibeceijnnaaDoor
namespace Go.Proofs.YtdolibeceijnnaaDoor
structure Her (ok : Nat → Nat → Bool) : Prop where
  one : ∀ i, ok i (i + 1) = true
  part : ∀ i j i' j', i ≤ i' → j' ≤ j → i' < j' → ok i j = true → ok i' j' = true
inductive Div (ok : Nat → Nat → Bool) : Nat → Nat → Nat → Prop
  | nil (a : Nat) : Div ok a a 0
  | cons {a c b k : Nat} : a < c → ok a c = true → Div ok c b k → Div ok a b (k + 1)
theorem Div.le {ok : Nat → Nat → Bool} {a b k : Nat} (h : Div ok a b k) : a ≤ b := by
  induction h with
  | nil => exact Nat.le_refl _
  | cons h1 _ _ ih => omega
theorem Div.join {ok : Nat → Nat → Bool} {a b c k l : Nat} (h : Div ok a b k) (g : Div ok b c l) : Div ok a c (k + l) := by
  induction h with
  | nil => rw [Nat.zero_add]; exact g
  | cons h1 h2 _ ih => rw [Nat.add_right_comm]; exact .cons h1 h2 (ih g)
theorem Div.drop {ok : Nat → Nat → Bool} (ho : Her ok) {a b k : Nat} (h : Div ok a b k) : ∀ a', a ≤ a' → a' ≤ b → ∃ k', k' ≤ k ∧ Div ok a' b k' := by
  induction h with
  | nil a => intro a' h1 h2; obtain rfl : a' = a := by omega
             exact ⟨0, Nat.le_refl _, .nil _⟩
  | cons h1 h2 h3 ih =>
    rename_i a c b k
    intro a' g1 g2
    by_cases hc : a' < c
    · exact ⟨k + 1, Nat.le_refl _, .cons hc (ho.part a c a' c g1 (Nat.le_refl _) hc h2) h3⟩
    · obtain ⟨k', e1, e2⟩ := ih a' (by omega) g2
      exact ⟨k', by omega, e2⟩
inductive Greedy (ok : Nat → Nat → Bool) : Nat → Nat → Nat → Prop
  | nil (a : Nat) : Greedy ok a a 0
  | cons {a c b k : Nat} : a < c → ok a c = true → (c = b ∨ c < b ∧ ok a (c + 1) = false) → Greedy ok c b k → Greedy ok a b (k + 1)
theorem Greedy.div {ok : Nat → Nat → Bool} {a b k : Nat} (h : Greedy ok a b k) : Div ok a b k := by
  induction h with
  | nil a => exact .nil a
  | cons h1 h2 _ _ ih => exact .cons h1 h2 ih
theorem Greedy.least {ok : Nat → Nat → Bool} (ho : Her ok) {a b k : Nat} (h : Greedy ok a b k) : ∀ {l : Nat}, Div ok a b l → k ≤ l := by
  induction h with
  | nil a => intro l _; exact Nat.zero_le _
  | cons h1 h2 h3 h4 ih =>
    rename_i a c b k
    intro l hl
    cases hl with
    | nil => have := h4.div.le; omega
    | cons g1 g2 g3 =>
      rename_i c' l
      have hcc : c' ≤ c := by
        rcases h3 with e | ⟨e1, e2⟩
        · have := g3.le; omega
        · by_cases hx : c' ≤ c
          · exact hx
          · have := ho.part a c' a (c + 1) (Nat.le_refl _) (by omega) (by omega) g2
            rw [e2] at this; cases this
      obtain ⟨l', e1, e2⟩ := g3.drop ho c hcc h4.div.le
      have := ih e2
      omega
theorem Greedy.split {ok : Nat → Nat → Bool} (ho : Her ok) {a b c k l m : Nat} (h : Greedy ok a c k) (g : Greedy ok a b l) (r : Greedy ok b c m) (hb : a ≤ b) (hc : b ≤ c) : k ≤ l + m ∧ (0 < l → 0 < m → l + m ≤ k + 1) := by
  refine ⟨h.least ho (g.div.join r.div), fun _ _ => ?_⟩
  have cut : ∀ {a c k : Nat}, Div ok a c k → a ≤ b → b ≤ c → ∃ l' m', Div ok a b l' ∧ Div ok b c m' ∧ l' + m' ≤ k + 1 := by
    intro a c k hd
    induction hd with
    | nil a => intro h1 h2; obtain rfl : a = b := by omega
               exact ⟨0, 0, .nil _, .nil _, by omega⟩
    | cons h1 h2 h3 ih =>
      rename_i a e c k
      intro h4 h5
      by_cases he : e ≤ b
      · obtain ⟨l', m', q1, q2, q3⟩ := ih he h5
        exact ⟨l' + 1, m', .cons h1 h2 q1, q2, by omega⟩
      · by_cases hab : a = b
        · subst hab
          exact ⟨0, k + 1, .nil _, .cons h1 h2 h3, by omega⟩
        · exact ⟨1, k + 1, .cons (by omega) (ho.part a e a b (Nat.le_refl _) (by omega) (by omega) h2) (.nil _), .cons (by omega) (ho.part a e b e h4 (Nat.le_refl _) (by omega) h2) h3, by omega⟩
  obtain ⟨l', m', q1, q2, q3⟩ := cut h.div hb hc
  have := g.least ho q1
  have := r.least ho q2
  omega
end Go.Proofs.YtdolibeceijnnaaDoor
namespace Go.Proofs.YtdolibeceijnnaaDoor
def backOk (ok : Nat → Nat → Bool) (n : Nat) (i j : Nat) : Bool := ok (n - j) (n - i)
theorem Div.one {ok : Nat → Nat → Bool} {a c : Nat} (h : a < c) (h2 : ok a c = true) : Div ok a c 1 := .cons h h2 (.nil _)
theorem Div.back {ok : Nat → Nat → Bool} {n a b k : Nat} (h : Div ok a b k) (hb : b ≤ n) : Div (backOk ok n) (n - b) (n - a) k := by
  induction h with
  | nil => exact .nil _
  | cons h1 h2 h3 ih =>
    rename_i a c b k
    have hcb := h3.le
    refine (ih hb).join (.one (by omega) ?_)
    unfold backOk
    rw [show n - (n - a) = a by omega, show n - (n - c) = c by omega]
    exact h2
theorem Div.congr {ok ok' : Nat → Nat → Bool} {a b k n : Nat} (h : Div ok a b k) (hb : b ≤ n) (e : ∀ i j, i ≤ n → j ≤ n → ok i j = ok' i j) : Div ok' a b k := by
  induction h with
  | nil => exact .nil _
  | cons h1 h2 h3 ih =>
    rename_i a c b k
    have hcb := h3.le
    exact .cons h1 (by rw [← e _ _ (by omega) (by omega)]; exact h2) (ih hb)
theorem Greedy.back {ok ok' : Nat → Nat → Bool} (ho : Her ok) (ho' : Her ok') {n k l : Nat} (h : Greedy ok 0 n k) (g : Greedy ok' 0 n l) (e : ∀ i j, i ≤ n → j ≤ n → ok' i j = ok (n - j) (n - i)) : k = l := by
  have d1 : Div ok' 0 n k := by
    have := h.div.back (Nat.le_refl n)
    rw [Nat.sub_self, Nat.sub_zero] at this
    exact this.congr (n := n) (Nat.le_refl _) (fun i j hi hj => (e i j hi hj).symm)
  have d2 : Div ok 0 n l := by
    have := g.div.back (Nat.le_refl n)
    rw [Nat.sub_self, Nat.sub_zero] at this
    refine this.congr (n := n) (Nat.le_refl _) (fun i j hi hj => ?_)
    unfold backOk
    rw [e _ _ (by omega) (by omega), show n - (n - i) = i by omega, show n - (n - j) = j by omega]
  have := h.least ho d2
  have := g.least ho' d1
  omega
inductive Parts (ok : Nat → Nat → Bool) : Nat → Nat → Nat → Nat → Prop
  | one {a b k : Nat} : a < b → Greedy ok a b k → Parts ok a b 1 k
  | cons {a b c k n s : Nat} : a < b → Greedy ok a b k → Parts ok b c n s → Parts ok a c (n + 1) (k + s)
theorem Parts.lt {ok : Nat → Nat → Bool} {a b n s : Nat} (h : Parts ok a b n s) : a < b ∧ 0 < n := by
  induction h with
  | one h _ => exact ⟨h, by omega⟩
  | cons h _ _ ih => exact ⟨by omega, by omega⟩
theorem far_ex {ok : Nat → Nat → Bool} {a b : Nat} : ∀ n c, b - c ≤ n → a < c → c ≤ b → ok a c = true → ∃ e, a < e ∧ e ≤ b ∧ ok a e = true ∧ (e = b ∨ e < b ∧ ok a (e + 1) = false) := by
  intro n
  induction n with
  | zero => intro c h1 h2 h3 h4; exact ⟨c, h2, h3, h4, .inl (by omega)⟩
  | succ n ih =>
    intro c h1 h2 h3 h4
    by_cases hc : c = b
    · exact ⟨c, h2, h3, h4, .inl hc⟩
    · cases hx : ok a (c + 1)
      · exact ⟨c, h2, h3, h4, .inr ⟨by omega, hx⟩⟩
      · exact ih (c + 1) (by omega) (by omega) (by omega) hx
theorem Greedy.ex {ok : Nat → Nat → Bool} (ho : Her ok) : ∀ n a b, b - a ≤ n → a ≤ b → ∃ k, Greedy ok a b k := by
  intro n
  induction n with
  | zero => intro a b h1 h2; obtain rfl : a = b := by omega
            exact ⟨0, .nil _⟩
  | succ n ih =>
    intro a b h1 h2
    by_cases hab : a = b
    · subst hab; exact ⟨0, .nil _⟩
    · obtain ⟨e, e1, e2, e3, e4⟩ := far_ex (ok := ok) (a := a) (b := b) (b - (a + 1)) (a + 1) (by omega) (by omega) (by omega) (ho.one a)
      obtain ⟨k, hk⟩ := ih e b (by omega) e2
      exact ⟨k + 1, .cons e1 e3 e4 hk⟩
end Go.Proofs.YtdolibeceijnnaaDoor
namespace Go.Proofs.YtdolibeceijnnaaDoor
theorem Div.up {ok ok' : Nat → Nat → Bool} {t a b k : Nat} (e : ∀ i j, ok' i j = ok (i + t) (j + t)) (h : Div ok' a b k) : Div ok (a + t) (b + t) k := by
  induction h with
  | nil => exact .nil _
  | cons h1 h2 _ ih => exact .cons (by omega) (by rw [← e]; exact h2) ih
theorem Div.down {ok ok' : Nat → Nat → Bool} {t : Nat} (e : ∀ i j, ok' i j = ok (i + t) (j + t)) {x y k : Nat} (h : Div ok x y k) : ∀ a b, x = a + t → y = b + t → Div ok' a b k := by
  induction h with
  | nil => intro a b h1 h2; obtain rfl : a = b := by omega
           exact .nil _
  | cons h1 h2 h3 ih =>
    rename_i x c y k
    intro a b e1 e2
    have hc : c = (c - t) + t := by omega
    refine .cons (c := c - t) (by omega) ?_ (ih (c - t) b hc e2)
    rw [e, ← e1, ← hc]
    exact h2
structure RingMin (ok : Nat → Nat → Bool) (n r : Nat) : Prop where
  some : ∃ a, a < n ∧ Greedy ok a (a + n) r
  least : ∀ a k, a < n → Greedy ok a (a + n) k → r ≤ k
def Per (ok : Nat → Nat → Bool) (n : Nat) : Prop := ∀ i j, ok (i + n) (j + n) = ok i j
theorem Div.turn {ok : Nat → Nat → Bool} {n k : Nat} (hp : Per ok n) : ∀ q a, a < n → Div ok (a + q * n) (a + q * n + n) k → Div ok a (a + n) k := by
  intro q
  induction q with
  | zero => intro a _ h; rw [Nat.zero_mul, Nat.add_zero] at h; exact h
  | succ q ih =>
    intro a ha h
    refine ih a ha (h.down (ok' := ok) (t := n) (fun i j => (hp i j).symm) _ _ ?_ ?_)
    · rw [Nat.succ_mul]; omega
    · rw [Nat.succ_mul]; omega
theorem RingMin.div {ok : Nat → Nat → Bool} {n r : Nat} (ho : Her ok) (hp : Per ok n) (hn : 0 < n) (h : RingMin ok n r) {x k : Nat} (hd : Div ok x (x + n) k) : r ≤ k := by
  have hx : x % n < n := Nat.mod_lt _ hn
  have hd2 : Div ok (x % n + x / n * n) (x % n + x / n * n + n) k := by
    have e : x % n + x / n * n = x := by
      rw [Nat.mul_comm]; exact Nat.mod_add_div x n
    rw [e]; exact hd
  have hd3 := hd2.turn hp (x / n) (x % n) hx
  obtain ⟨g, hg⟩ := Greedy.ex ho n (x % n) (x % n + n) (by omega) (by omega)
  have h1 := h.least _ _ hx hg
  have h2 := hg.least ho hd3
  omega
end Go.Proofs.YtdolibeceijnnaaDoor
namespace Go.Proofs.YtdolibeceijnnaaDoor
end Go.Proofs.YtdolibeceijnnaaDoor
namespace Go.Proofs.YtdolibeceijnnaaDoor
def lngS (ok : Nat → Nat → Bool) (b : Nat) : Nat → Nat → Nat → List Nat
  | 0, _, _ => []
  | c + 1, i, last => if ok last (b + i + 1) then lngS ok b c (i + 1) last else (b + i) :: lngS ok b c (i + 1) (b + i)
def longS (ok : Nat → Nat → Bool) (n b : Nat) : List Nat := b :: lngS ok b n 0 b
theorem lng_greedy {ok : Nat → Nat → Bool} (ho : Her ok) {b : Nat} : ∀ c i last, last < b + i → ok last (b + i) = true → Greedy ok last (b + i + c) ((lngS ok b c i last).length + 1) := by
  intro c
  induction c with
  | zero => intro i last h1 h2; exact .cons h1 h2 (.inl rfl) (.nil _)
  | succ c ih =>
    intro i last h1 h2
    unfold lngS
    cases hx : ok last (b + i + 1)
    · rw [if_neg (by simp), List.length_cons]
      have := ih (i + 1) (b + i) (by omega) (ho.one _)
      rw [show b + (i + 1) + c = b + i + (c + 1) by omega] at this
      exact .cons h1 h2 (.inr ⟨by omega, hx⟩) this
    · rw [if_pos rfl]
      have := ih (i + 1) last (by omega) hx
      rwa [show b + (i + 1) + c = b + i + (c + 1) by omega] at this
theorem lng_len {ok : Nat → Nat → Bool} {b : Nat} : ∀ c i last, (lngS ok b c i last).length ≤ c := by
  intro c
  induction c with
  | zero => intro i last; exact Nat.le_refl _
  | succ c ih =>
    intro i last
    unfold lngS
    split
    · have := ih (i + 1) last; omega
    · have := ih (i + 1) (b + i); rw [List.length_cons]; omega
theorem long_step {ok : Nat → Nat → Bool} (ho : Her ok) {n b : Nat} (hn : 0 < n) : longS ok n b = b :: lngS ok b (n - 1) 1 b := by
  obtain ⟨m, rfl⟩ : ∃ m, n = m + 1 := ⟨n - 1, by omega⟩
  unfold longS
  conv => lhs; unfold lngS
  rw [if_pos (by rw [Nat.add_zero]; exact ho.one b)]
  rfl
theorem long_greedy {ok : Nat → Nat → Bool} (ho : Her ok) {n b : Nat} (hn : 0 < n) : Greedy ok b (b + n) (longS ok n b).length := by
  rw [long_step ho hn, List.length_cons]
  have := lng_greedy ho (b := b) (n - 1) 1 b (by omega) (ho.one b)
  rwa [show b + 1 + (n - 1) = b + n by omega] at this
theorem long_len {ok : Nat → Nat → Bool} (ho : Her ok) {n b : Nat} (hn : 0 < n) : (longS ok n b).length ≤ n := by
  rw [long_step ho hn, List.length_cons]
  have := lng_len (ok := ok) (b := b) (n - 1) 1 b
  omega
theorem Greedy.same {ok : Nat → Nat → Bool} (ho : Her ok) {a b k l : Nat} (h : Greedy ok a b k) (g : Greedy ok a b l) : k = l :=
  Nat.le_antisymm (h.least ho g.div) (g.least ho h.div)
def farS (ok : Nat → Nat → Bool) (a b : Nat) : Nat → Nat → Nat
  | 0, e => e
  | f + 1, e => if e < b ∧ ok a (e + 1) = true then farS ok a b f (e + 1) else e
def needS (ok : Nat → Nat → Bool) (b : Nat) : Nat → Nat → Nat
  | 0, _ => 0
  | f + 1, a => if a < b then needS ok b f (farS ok a b (b - a) (a + 1)) + 1 else 0
theorem far_spec {ok : Nat → Nat → Bool} {a b : Nat} : ∀ f e, b ≤ e + f → a < e → e ≤ b → ok a e = true → a < farS ok a b f e ∧ farS ok a b f e ≤ b ∧ e ≤ farS ok a b f e ∧ ok a (farS ok a b f e) = true ∧ (farS ok a b f e = b ∨ farS ok a b f e < b ∧ ok a (farS ok a b f e + 1) = false) := by
  intro f
  induction f with
  | zero => intro e h1 h2 h3 h4; unfold farS; exact ⟨h2, h3, Nat.le_refl _, h4, .inl (by omega)⟩
  | succ f ih =>
    intro e h1 h2 h3 h4
    unfold farS
    split
    · rename_i hc
      obtain ⟨g1, g2, g3, g4⟩ := ih (e + 1) (by omega) (by omega) (by omega) hc.2
      exact ⟨g1, g2, by omega, g4⟩
    · rename_i hc
      refine ⟨h2, h3, Nat.le_refl _, h4, ?_⟩
      by_cases he : e = b
      · exact .inl he
      · exact .inr ⟨by omega, by cases hx : ok a (e + 1)
                                 · rfl
                                 · exact absurd ⟨by omega, hx⟩ hc⟩
theorem need_greedy {ok : Nat → Nat → Bool} (ho : Her ok) {b : Nat} : ∀ f a, b - a ≤ f → a ≤ b → Greedy ok a b (needS ok b f a) := by
  intro f
  induction f with
  | zero => intro a h1 h2; obtain rfl : a = b := by omega
            exact .nil _
  | succ f ih =>
    intro a h1 h2
    unfold needS
    split
    · rename_i hab
      obtain ⟨g1, g2, g3, g4, g5⟩ := far_spec (ok := ok) (a := a) (b := b) (b - a) (a + 1) (by omega) (by omega) (by omega) (ho.one a)
      exact .cons g1 g4 g5 (ih _ (by omega) g2)
    · obtain rfl : a = b := by omega
      exact .nil _
def tryS (ok : Nat → Nat → Bool) (last : Nat) (g : Nat → Option (List Nat)) : Nat → Nat → Option (List Nat)
  | 0, _ => none
  | c + 1, k => if ok last k then (match g k with
    | some x => some x
    | none => tryS ok last g c (k + 1)) else none
def wlkS (ok : Nat → Nat → Bool) (n r : Nat) : Nat → List Nat → Option (List Nat)
  | 0, _ => none
  | f + 1, l => if r < l.length - 1 + needS ok (l.headD 0 + n) (l.headD 0 + n - l.getLastD 0) (l.getLastD 0) then none
    else if l.length = r then some l
    else tryS ok (l.getLastD 0) (fun k => wlkS ok n r f (l ++ [k])) (n - (l.getLastD 0 + 1)) (l.getLastD 0 + 1)
def firstS (g : Nat → Option (List Nat)) : Nat → Nat → Option (List Nat)
  | 0, _ => none
  | c + 1, k => match g k with
    | some x => some x
    | none => firstS g c (k + 1)
def fewS (ok : Nat → Nat → Bool) (n : Nat) : Nat → Nat → Nat → Nat
  | 0, _, m => m
  | c + 1, a, m => fewS ok n c (a + 1) (min m (longS ok n a).length)
def minS (ok : Nat → Nat → Bool) (n : Nat) : Nat := fewS ok n n 0 n
def ringS (ok : Nat → Nat → Bool) (n : Nat) : List Nat := (firstS (fun a => wlkS ok n (minS ok n) n [a]) n 0).getD []
theorem few_spec {ok : Nat → Nat → Bool} {n : Nat} : ∀ c a m, fewS ok n c a m ≤ m ∧ (∀ x, a ≤ x → x < a + c → fewS ok n c a m ≤ (longS ok n x).length) ∧ (fewS ok n c a m = m ∨ ∃ x, a ≤ x ∧ x < a + c ∧ fewS ok n c a m = (longS ok n x).length) := by
  intro c
  induction c with
  | zero => intro a m; exact ⟨Nat.le_refl _, fun x h1 h2 => by omega, .inl rfl⟩
  | succ c ih =>
    intro a m
    unfold fewS
    obtain ⟨h1, h2, h3⟩ := ih (a + 1) (min m (longS ok n a).length)
    have hm1 : min m (longS ok n a).length ≤ m := Nat.min_le_left _ _
    have hm2 : min m (longS ok n a).length ≤ (longS ok n a).length := Nat.min_le_right _ _
    refine ⟨by omega, fun x g1 g2 => ?_, ?_⟩
    · by_cases hx : x = a
      · subst hx; omega
      · exact h2 x (by omega) (by omega)
    · rcases h3 with h3 | ⟨x, g1, g2, g3⟩
      · by_cases hc : m ≤ (longS ok n a).length
        · rw [Nat.min_eq_left hc] at h3 ⊢; exact .inl h3
        · rw [Nat.min_eq_right (by omega)] at h3 ⊢
          exact .inr ⟨a, Nat.le_refl _, by omega, h3⟩
      · exact .inr ⟨x, by omega, by omega, g3⟩
theorem min_ring {ok : Nat → Nat → Bool} (ho : Her ok) {n : Nat} (hn : 0 < n) : RingMin ok n (minS ok n) := by
  obtain ⟨h1, h2, h3⟩ := few_spec (ok := ok) (n := n) n 0 n
  refine ⟨?_, fun a k ha hk => ?_⟩
  · rcases h3 with h3 | ⟨x, g1, g2, g3⟩
    · have e1 := h2 0 (Nat.le_refl _) (by omega)
      have e2 := long_len ho (b := 0) hn
      refine ⟨0, hn, ?_⟩
      have : minS ok n = (longS ok n 0).length := by unfold minS; omega
      rw [this]
      exact long_greedy ho hn
    · refine ⟨x, by omega, ?_⟩
      unfold minS
      rw [g3]
      exact long_greedy ho hn
  · have := h2 a (Nat.zero_le _) (by omega)
    rw [(long_greedy ho hn (b := a)).same ho hk] at this
    exact this
theorem min_pos {ok : Nat → Nat → Bool} (ho : Her ok) {n : Nat} (hn : 0 < n) : 0 < minS ok n ∧ minS ok n ≤ n := by
  obtain ⟨a, h1, h2⟩ := (min_ring ho hn).some
  refine ⟨?_, (few_spec (ok := ok) (n := n) n 0 n).1⟩
  cases hm : minS ok n with
  | zero => rw [hm] at h2
            have : ∀ {a b : Nat}, Greedy ok a b 0 → a = b := fun h => by cases h; rfl
            have := this h2
            omega
  | succ _ => omega
def okB (ok : Nat → Nat → Bool) (n : Nat) : Nat → Nat → Bool := fun i j => ok i j && decide (i < n)
theorem Div.unB {ok : Nat → Nat → Bool} {n a b k : Nat} (h : Div (okB ok n) a b k) : Div ok a b k := by
  induction h with
  | nil => exact .nil _
  | cons h1 h2 _ ih => unfold okB at h2; rw [Bool.and_eq_true] at h2; exact .cons h1 h2.1 ih
theorem Div.toB {ok : Nat → Nat → Bool} {n a b k : Nat} (h : Div ok a b k) (hb : b ≤ n) : Div (okB ok n) a b k := by
  induction h with
  | nil => exact .nil _
  | cons h1 h2 h3 ih => have := h3.le; exact .cons h1 (by unfold okB; rw [h2]; simp; omega) (ih hb)
theorem Div.cutB {ok : Nat → Nat → Bool} {n a b k : Nat} (h : Div ok a b k) : a < n → n ≤ b → ∃ c k1 k2, k1 + k2 = k ∧ Div (okB ok n) a c k1 ∧ n ≤ c ∧ Div ok c b k2 := by
  induction h with
  | nil => intro h1 h2; omega
  | cons h1 h2 h3 ih =>
    rename_i a c b k
    intro g1 g2
    have hok : okB ok n a c = true := by unfold okB; rw [h2]; simp; omega
    by_cases hc : n ≤ c
    · exact ⟨c, 1, k, by omega, .cons h1 hok (.nil _), hc, h3⟩
    · obtain ⟨d, k1, k2, e1, e2, e3, e4⟩ := ih (by omega) g2
      exact ⟨d, k1 + 1, k2, by omega, .cons h1 hok e2, e3, e4⟩
theorem ring_low {ok : Nat → Nat → Bool} {n a k : Nat} (hp : Per ok n) (ha : a < n) (h : Div ok a (a + n) k) : ∃ b, b < n ∧ Div (okB ok n) b (b + n) k := by
  obtain ⟨c, k1, k2, e1, e2, e3, e4⟩ := h.cutB ha (by omega)
  have hc := e4.le
  have d := e4.down (ok' := ok) (t := n) (fun i j => (hp i j).symm) (c - n) a (by omega) rfl
  have j := (d.toB (by omega : a ≤ n)).join e2
  rw [show k2 + k1 = k by omega] at j
  refine ⟨c - n, by omega, ?_⟩
  rw [show c - n + n = c by omega]
  exact j
theorem try_some {ok : Nat → Nat → Bool} {last : Nat} {g : Nat → Option (List Nat)} {x : Nat} (hg : g x ≠ none) : ∀ c k, k ≤ x → x < k + c → (∀ y, k ≤ y → y ≤ x → ok last y = true) → tryS ok last g c k ≠ none := by
  intro c
  induction c with
  | zero => intro k h1 h2; omega
  | succ c ih =>
    intro k h1 h2 h3
    unfold tryS
    rw [if_pos (h3 k (Nat.le_refl _) h1)]
    cases hk : g k with
    | some y => dsimp only; exact fun h => by cases h
    | none =>
      dsimp only
      have hne : k ≠ x := fun e => hg (by rw [← e]; exact hk)
      exact ih (k + 1) (by omega) (by omega) fun y e1 e2 => h3 y (by omega) e2
theorem wlk_some {ok : Nat → Nat → Bool} (ho : Her ok) {n r : Nat} : ∀ f l m, 0 < l.length → l.getLastD 0 < n → n - l.getLastD 0 ≤ f → Div (okB ok n) (l.getLastD 0) (l.headD 0 + n) m → l.length - 1 + m = r → wlkS ok n r f l ≠ none := by
  intro f
  induction f with
  | zero => intro l m h0 h1 h2; omega
  | succ f ih =>
    intro l m h0 h1 h2 h3 h4
    unfold wlkS
    have hle := h3.le
    have hng := (need_greedy ho (b := l.headD 0 + n) (l.headD 0 + n - l.getLastD 0) (l.getLastD 0) (Nat.le_refl _) hle).least ho h3.unB
    rw [if_neg (by omega)]
    by_cases hr : l.length = r
    · rw [if_pos hr]; exact fun h => by cases h
    · rw [if_neg hr]
      generalize hd : l.headD 0 + n = e at h3 hle hng
      cases h3 with
      | nil => omega
      | cons g1 g2 g3 =>
        rename_i c m
        have hcn : c < n := by
          cases g3 with
          | nil => omega
          | cons _ k2 _ => unfold okB at k2; rw [Bool.and_eq_true] at k2; exact of_decide_eq_true k2.2
        have g2' : ok (l.getLastD 0) c = true := by unfold okB at g2; rw [Bool.and_eq_true] at g2; exact g2.1
        refine try_some (x := c) ?_ _ _ (by omega) (by omega) fun y e1 e2 => ho.part _ c _ y (Nat.le_refl _) e2 (by omega) g2'
        have hl : (l ++ [c]).getLastD 0 = c := by simp
        have hh : (l ++ [c]).headD 0 = l.headD 0 := by cases l with
          | nil => simp at h0
          | cons => rfl
        refine ih (l ++ [c]) m (by simp) (by rw [hl]; exact hcn) (by rw [hl]; omega) ?_ ?_
        · rw [hl, hh, hd]; exact g3
        · rw [List.length_append, List.length_singleton]; omega
theorem try_len {ok : Nat → Nat → Bool} {last : Nat} {g : Nat → Option (List Nat)} {r : Nat} (hg : ∀ k x, g k = some x → x.length = r) : ∀ c k x, tryS ok last g c k = some x → x.length = r := by
  intro c
  induction c with
  | zero => intro k x h; cases h
  | succ c ih =>
    intro k x h
    unfold tryS at h
    split at h
    · split at h
      · rename_i y hy; cases h; exact hg _ _ hy
      · exact ih _ _ h
    · cases h
theorem wlk_len {ok : Nat → Nat → Bool} {n r : Nat} : ∀ f l x, wlkS ok n r f l = some x → x.length = r := by
  intro f
  induction f with
  | zero => intro l x h; cases h
  | succ f ih =>
    intro l x h
    unfold wlkS at h
    split at h
    · cases h
    · split at h
      · cases h; assumption
      · exact try_len (fun k x => ih _ x) _ _ _ h
theorem first_some {g : Nat → Option (List Nat)} {x : Nat} (hg : g x ≠ none) : ∀ c k, k ≤ x → x < k + c → firstS g c k ≠ none := by
  intro c
  induction c with
  | zero => intro k h1 h2; omega
  | succ c ih =>
    intro k h1 h2
    unfold firstS
    cases hk : g k with
    | some y => dsimp only; exact fun h => by cases h
    | none =>
      dsimp only
      have hne : k ≠ x := fun e => hg (by rw [← e]; exact hk)
      exact ih (k + 1) (by omega) (by omega)
theorem first_len {g : Nat → Option (List Nat)} {r : Nat} (hg : ∀ k x, g k = some x → x.length = r) : ∀ c k x, firstS g c k = some x → x.length = r := by
  intro c
  induction c with
  | zero => intro k x h; cases h
  | succ c ih =>
    intro k x h
    unfold firstS at h
    split at h
    · rename_i y hy; cases h; exact hg _ _ hy
    · exact ih _ _ h
theorem ring_len {ok : Nat → Nat → Bool} (ho : Her ok) {n : Nat} (hp : Per ok n) (hn : 0 < n) : (ringS ok n).length = minS ok n := by
  obtain ⟨a, ha, ga⟩ := (min_ring ho hn).some
  obtain ⟨b, hb, d⟩ := ring_low hp ha ga.div
  have h1 : wlkS ok n (minS ok n) n [b] ≠ none := wlk_some ho n [b] (minS ok n) (by simp) hb (by simp) d (by simp)
  have h2 := first_some (g := fun a => wlkS ok n (minS ok n) n [a]) h1 n 0 (Nat.zero_le _) (by omega)
  unfold ringS
  cases hx : firstS (fun a => wlkS ok n (minS ok n) n [a]) n 0 with
  | none => exact absurd hx h2
  | some x => exact first_len (fun k x => wlk_len n [k] x) _ _ _ hx
end Go.Proofs.YtdolibeceijnnaaDoor
namespace Go.Proofs.YtdolibeceijnnaaDoor
open Go.RowKit
theorem foldl_drop {α β : Type} (f : β → α → β) (l : List α) (d : α) (b : β) {k : Nat} (h : k < l.length) : (l.take (k + 1)).foldl f b = f ((l.take k).foldl f b) (l.getD k d) := by
  rw [List.take_succ_eq_append_getElem h, List.foldl_append, List.getD_eq_getElem?_getD, List.getElem?_eq_getElem h]; rfl
theorem beh_take (e : Int → Bool) (l : List Stk) {k : Nat} (h : k < l.length) : beh e (l.take (k + 1)) = fun i => if i = (l.getD k stk0).1 then (l.getD k stk0).2 else beh e (l.take k) i := foldl_drop _ l stk0 e h
def Known (l : List Stk) : Prop := ∀ k, k < l.length → 0 ≤ (l.getD k stk0).1 ∧ (l.getD k stk0).1 < 6
set_option maxHeartbeats 2000000 in
theorem behind_any (l : List Stk) (wait : Int) (a : Option Addr) (cap : Nat) (e : Int → Bool) (w : World) (hl : l.length ≤ maxLen) (hc : CellsK w a l) (hk : Known l) :
    Calls Tryd.prog 57 #[endsV e, .agg #[.slice a l.length cap, .int .i64 wait]] w fun r w' => r = .returned (endsV (beh e l)) ∧ Ext w w' := by
  have HC := Lib.hid hc
  have HK := Lib.hid hk
  unfold maxLen at hl
  unfold endsV
  clear hc hk
  go_enter Tryd.func57, Tryd.ntmps57
  go_wp2
  have E1 : Ext w (((w.alloc (.cells #[.bool (e 0), .bool (e 1), .bool (e 2), .bool (e 3), .bool (e 4), .bool (e 5)] 95)).alloc (.cells #[.slice a l.length cap, .int .i64 wait] 65)).alloc (.cells #[.bool false, .bool false, .bool false, .bool false, .bool false, .bool false] 95)) := extA
  have c1 : EndsAt (((w.alloc (.cells #[.bool (e 0), .bool (e 1), .bool (e 2), .bool (e 3), .bool (e 4), .bool (e 5)] 95)).alloc (.cells #[.slice a l.length cap, .int .i64 wait] 65)).alloc (.cells #[.bool false, .bool false, .bool false, .bool false, .bool false, .bool false] 95)) w.heap.size e := ((ends_new rfl e).ext ((Ext.refl _).alloc _)).ext ((Ext.refl _).alloc _)
  have c2 : EndsAt (((w.alloc (.cells #[.bool (e 0), .bool (e 1), .bool (e 2), .bool (e 3), .bool (e 4), .bool (e 5)] 95)).alloc (.cells #[.slice a l.length cap, .int .i64 wait] 65)).alloc (.cells #[.bool false, .bool false, .bool false, .bool false, .bool false, .bool false] 95)) (w.heap.size + 1 + 1) (fun _ => false) := ends_new (by simp) (fun _ => false)
  have s1 : w.heap.size + 1 + 1 < (((w.alloc (.cells #[.bool (e 0), .bool (e 1), .bool (e 2), .bool (e 3), .bool (e 4), .bool (e 5)] 95)).alloc (.cells #[.slice a l.length cap, .int .i64 wait] 65)).alloc (.cells #[.bool false, .bool false, .bool false, .bool false, .bool false, .bool false] 95)).heap.size := by simp
  generalize (((w.alloc (.cells #[.bool (e 0), .bool (e 1), .bool (e 2), .bool (e 3), .bool (e 4), .bool (e 5)] 95)).alloc (.cells #[.slice a l.length cap, .int .i64 wait] 65)).alloc (.cells #[.bool false, .bool false, .bool false, .bool false, .bool false, .bool false] 95)) = W at E1 c1 c2 s1 ⊢
  have C1 := Lib.hid c1
  have C2 := Lib.hid c2
  clear c1 c2
  go_loopw [10] (fun i wr => ∃ k : Nat, k ≤ l.length ∧ i = .int .i64 k ∧ Ext w wr ∧ W.heap.size ≤ wr.heap.size ∧ Hid (EndsAt wr w.heap.size (beh e (l.take k))) ∧ Hid (EndsAt wr (w.heap.size + 1 + 1) (fun _ => false))) (fun i _ => l.length - (intOf i).toNat)
  case atStart => exact ⟨0, Nat.zero_le _, rfl, E1, Nat.le_refl _, C1, C2⟩
  case round =>
    obtain ⟨k, hk, rfl, he, hsz, D1, D2⟩ := hrel
    clear C1 C2
    by_cases hlt : k < l.length
    · obtain ⟨b, off, ha, e1, e2⟩ := HC.out.ext he k hlt
      subst ha
      have hkn := HK.out k hlt
      have hb := beh_take e l hlt
      have HB := Lib.hid hb
      clear hb
      generalize l.getD k stk0 = y at e1 e2 hkn HB
      obtain ⟨ya, yo⟩ := y
      dsimp only at e1 e2 hkn HB
      obtain ⟨g0, g6⟩ := hkn
      obtain ⟨e3, e4⟩ := D1.out ya.toNat (by omega)
      rw [Int.toNat_of_nonneg g0] at e3
      have z1 := cell_lt e1
      dsimp only at z1
      have z2 : w.heap.size < wr.heap.size := by omega
      have E5 : Ext w ((wr.setCell ⟨w.heap.size, ya.toNat, none⟩ (.bool yo)).alloc (.cells #[.int .i64 ya, .bool yo] 67)) := (Below.setCell (p := ⟨w.heap.size, ya.toNat, none⟩) he (Nat.le_refl _) (.bool yo)).alloc (by simp; omega) _
      have F1 : Hid (EndsAt ((wr.setCell ⟨w.heap.size, ya.toNat, none⟩ (.bool yo)).alloc (.cells #[.int .i64 ya, .bool yo] 67)) w.heap.size (beh e (l.take (k + 1)))) := by
        show EndsAt _ _ _
        rw [HB.out]
        exact (D1.out.set g0 g6 yo).ext ((Ext.refl _).alloc _)
      have F2 : Hid (EndsAt ((wr.setCell ⟨w.heap.size, ya.toNat, none⟩ (.bool yo)).alloc (.cells #[.int .i64 ya, .bool yo] 67)) (w.heap.size + 1 + 1) (fun _ => false)) :=
        (D2.out.other (by omega) _ _).ext ((Ext.refl _).alloc _)
      clear D1 D2
      go_wp2
      refine ⟨⟨k + 1, by omega, by go_num, E5, by simp; omega, F1, F2⟩, by simp [intOf]; omega⟩
    · have ht : l.take k = l := List.take_of_length_le (by omega)
      rw [ht] at D1
      clear ht
      obtain ⟨f, hf⟩ : ∃ f, f = beh e l := ⟨_, rfl⟩
      rw [← hf] at D1
      have HF := Lib.hid hf
      clear hf
      have h0 := D1.out 0 (by omega)
      have h1 := D1.out 1 (by omega)
      have h2 := D1.out 2 (by omega)
      have h3 := D1.out 3 (by omega)
      have h4 := D1.out 4 (by omega)
      have h5 := D1.out 5 (by omega)
      have i0 := D2.out 0 (by omega)
      have i1 := D2.out 1 (by omega)
      have i2 := D2.out 2 (by omega)
      have i3 := D2.out 3 (by omega)
      have i4 := D2.out 4 (by omega)
      have i5 := D2.out 5 (by omega)
      simp only [Int.cast_ofNat_Int] at h0 h1 h2 h3 h4 h5
      obtain ⟨h0, _⟩ := h0
      obtain ⟨h1, _⟩ := h1
      obtain ⟨h2, _⟩ := h2
      obtain ⟨h3, _⟩ := h3
      obtain ⟨h4, _⟩ := h4
      obtain ⟨h5, _⟩ := h5
      obtain ⟨i0, j0⟩ := i0
      obtain ⟨i1, j1⟩ := i1
      obtain ⟨i2, j2⟩ := i2
      obtain ⟨i3, j3⟩ := i3
      obtain ⟨i4, j4⟩ := i4
      obtain ⟨i5, j5⟩ := i5
      clear D1 D2
      go_wp2
      refine bodyPost_ret (v := .agg #[.bool (f 0), .bool (f 1), .bool (f 2), .bool (f 3), .bool (f 4), .bool (f 5)]) (by rw [results_cell1 rfl]; go_simp) rfl ⟨by rw [← HF.out], extA⟩
end Go.Proofs.YtdolibeceijnnaaDoor
namespace Go.Proofs.YtdolibeceijnnaaDoor
open Go.RowKit
theorem neqEnds (b0 b1 b2 b3 b4 b5 : Bool) (w : World) : (binOp .neq 95 (.agg #[.bool b0, .bool b1, .bool b2, .bool b3, .bool b4, .bool b5]) (.agg #[.bool false, .bool false, .bool false, .bool false, .bool false, .bool false])).run Tryd.prog w = .ok (.bool (b0 || (b1 || (b2 || (b3 || (b4 || b5)))))) w := by
  cases b0 <;> cases b1 <;> cases b2 <;> cases b3 <;> cases b4 <;> cases b5 <;> kernel_rfl
def any6 (f : Int → Bool) : Bool := f 0 || (f 1 || (f 2 || (f 3 || (f 4 || f 5))))
def CellsB (w : World) (a : Option Addr) (n : Nat) (f : Int → Bool) : Prop := ∀ i : Nat, i < n → ∃ b off, a = some ⟨b, off, none⟩ ∧ w.cell? ⟨b, off + i, none⟩ = some (.bool (f i))
theorem CellsB.ext {w w' : World} {a : Option Addr} {n : Nat} {f : Int → Bool} (h : CellsB w a n f) (he : Ext w w') : CellsB w' a n f := fun i hi => by
  obtain ⟨b, off, h1, h2⟩ := h i hi
  exact ⟨b, off, h1, he.cell h2⟩
def hasB (n : Nat) (f : Int → Bool) (x : Bool) : Bool := (List.range n).any fun i => f i == x
theorem hasB_of {n : Nat} {f : Int → Bool} {x : Bool} {k : Nat} (hk : k < n) (h : f k = x) : hasB n f x = true := List.any_eq_true.2 ⟨k, List.mem_range.2 hk, by simp [h]⟩
theorem hasB_none {n : Nat} {f : Int → Bool} {x : Bool} (h : ∀ j : Nat, j < n → f j ≠ x) : hasB n f x = false := List.any_eq_false.2 fun i hi => by simpa using h i (List.mem_range.1 hi)
set_option maxHeartbeats 1000000 in
theorem IndexB_any (n : Nat) (f : Int → Bool) (x : Bool) (a : Option Addr) (cap : Nat) (w : World) (hl : n ≤ maxLen) (hc : CellsB w a n f) :
    Calls Tryd.prog 60 #[.slice a n cap, .bool x] w fun e w' => (∃ r : Int, e = .returned (.int .i64 r) ∧ decide (0 ≤ r) = hasB n f x) ∧ w = w' := by
  unfold maxLen at hl
  have HC := Lib.hid hc
  clear hc
  go_enter Tryd.func60, Tryd.ntmps60
  go_wp2
  go_loop [8] (fun i => ∃ k : Nat, k ≤ n ∧ i = .int .i64 k ∧ Hid (∀ j : Nat, j < k → f j ≠ x)) (fun i => n - (intOf i).toNat)
  case atStart => exact ⟨0, Nat.zero_le _, rfl, fun j hj => by omega⟩
  case round =>
    obtain ⟨k, hk, rfl, hnn⟩ := hrel
    by_cases hlt : k < n
    · obtain ⟨b, off, rfl, c1⟩ := HC.out k hlt
      by_cases hx : f k = x
      · have HB := Lib.hid (hasB_of hlt hx)
        subst hx
        go_wp2
        go_ret
        exact ⟨⟨(k : Int), rfl, by rw [HB.out]; simp⟩, rfl⟩
      · have HX := Lib.hid hx
        have hx' : (x == f k) = false := by cases hxx : x <;> cases hff : f k <;> simp_all
        clear hx
        go_wp2
        refine ⟨⟨k + 1, by omega, by go_num, fun j hj => ?_⟩, by simp [intOf]; omega⟩
        rcases Nat.lt_or_eq_of_le (Nat.le_of_lt_succ hj) with h | rfl
        · exact hnn.out j h
        · exact HX.out
    · have HB := Lib.hid (hasB_none (x := x) (f := f) (n := n) (fun j hj => hnn.out j (by omega)))
      go_wp2
      go_ret
      exact ⟨⟨-1, rfl, by rw [HB.out]; simp⟩, rfl⟩
theorem ContainsB_any (n : Nat) (f : Int → Bool) (x : Bool) (a : Option Addr) (cap : Nat) (w : World) (hl : n ≤ maxLen) (hc : CellsB w a n f) :
    Calls Tryd.prog 30 #[.slice a n cap, .bool x] w fun e w' => e = .returned (.bool (hasB n f x)) ∧ w = w' := by
  have HC := Lib.hid hc
  have HL := Lib.hid hl
  clear hc hl
  go_enter Tryd.func30, Tryd.ntmps30
  go_wp2_with fail
  refine (IndexB_any n f x a cap _ HL.out HC.out).mono ?_
  rintro e w1 ⟨⟨r, rfl, hr⟩, rfl⟩
  have HR := Lib.hid hr
  clear hr
  go_wp2
  all_goals go_ret
  all_goals exact ⟨ret_bool HR.out, rfl⟩
theorem EndsAt.store6 {w : World} {p : Nat} {e : Int → Bool} (h : EndsAt w p e) (f : Int → Bool) :
    EndsAt ((((((w.setCell ⟨p, 0, none⟩ (.bool (f 0))).setCell ⟨p, 1, none⟩ (.bool (f 1))).setCell ⟨p, 2, none⟩ (.bool (f 2))).setCell ⟨p, 3, none⟩ (.bool (f 3))).setCell ⟨p, 4, none⟩ (.bool (f 4))).setCell ⟨p, 5, none⟩ (.bool (f 5))) p f := by
  have h' := (((((h.set (a := 0) (by omega) (by omega) (f 0)).set (a := 1) (by omega) (by omega) (f 1)).set (a := 2) (by omega) (by omega) (f 2)).set (a := 3) (by omega) (by omega) (f 3)).set (a := 4) (by omega) (by omega) (f 4)).set (a := 5) (by omega) (by omega) (f 5)
  intro k hk
  refine ⟨(h' k hk).1.trans ?_, (h' k hk).2⟩
  have : k = 0 ∨ k = 1 ∨ k = 2 ∨ k = 3 ∨ k = 4 ∨ k = 5 := by omega
  rcases this with rfl | rfl | rfl | rfl | rfl | rfl <;> rfl
theorem EndsAt.six {w : World} {p : Nat} {e : Int → Bool} (h : EndsAt w p e) : ((w.cell? ⟨p, 0, none⟩ = some (.bool (e 0)) ∧ w.cell? ⟨p, 1, none⟩ = some (.bool (e 1)) ∧ w.cell? ⟨p, 2, none⟩ = some (.bool (e 2)) ∧ w.cell? ⟨p, 3, none⟩ = some (.bool (e 3)) ∧ w.cell? ⟨p, 4, none⟩ = some (.bool (e 4)) ∧ w.cell? ⟨p, 5, none⟩ = some (.bool (e 5)))) ∧
    (w.frozen? ⟨p, 0, none⟩ = false ∧ w.frozen? ⟨p, 1, none⟩ = false ∧ w.frozen? ⟨p, 2, none⟩ = false ∧ w.frozen? ⟨p, 3, none⟩ = false ∧ w.frozen? ⟨p, 4, none⟩ = false ∧ w.frozen? ⟨p, 5, none⟩ = false) :=
  ⟨⟨(h 0 (by omega)).1, (h 1 (by omega)).1, (h 2 (by omega)).1, (h 3 (by omega)).1, (h 4 (by omega)).1, (h 5 (by omega)).1⟩, (h 0 (by omega)).2, (h 1 (by omega)).2, (h 2 (by omega)).2, (h 3 (by omega)).2, (h 4 (by omega)).2, (h 5 (by omega)).2⟩
theorem ckFit_ok {n : Int} {x : Stp} {e : Int → Bool} (h : ckFit n x e = 0) : ckStep x = 0 ∧ anyHigh n x.1 = false ∧ anySame e x.1 = false := by
  unfold ckFit at h
  by_cases h1 : ckStep x = 0
  · rw [if_neg (by simp [h1])] at h
    cases h2 : anyHigh n x.1
    · cases h3 : anySame e x.1
      · exact ⟨h1, rfl, rfl⟩
      · rw [h2, h3] at h; cases h
    · rw [h2] at h; cases h
  · rw [if_pos h1] at h; exact absurd h h1
theorem ckWalk_cons {n : Int} {e : Int → Bool} {x : Stp} {l : List Stp} {r : Int} (h : ckWalk n e (x :: l) = r) : (ckFit n x e ≠ 0 → r = ckFit n x e) ∧ (ckFit n x e = 0 → ckWalk n (beh e x.1) l = r) := by
  unfold ckWalk at h
  refine ⟨fun k => ?_, fun k => ?_⟩
  · rw [if_pos k] at h; exact h.symm
  · rw [if_neg (by simp [k])] at h; exact h
theorem behAll_take (e : Int → Bool) (l : List Stp) {k : Nat} (h : k < l.length) : behAll e (l.take (k + 1)) = beh (behAll e (l.take k)) (l.getD k stp0).1 := foldl_drop _ l stp0 e h
theorem movedIn_take (a : Int) (l : List Stp) {k : Nat} (h : k < l.length) : movedIn a (l.take (k + 1)) = (movedIn a (l.take k) || movesIn a (l.getD k stp0)) := by
  unfold movedIn
  rw [List.take_succ_eq_append_getElem h, List.any_append, List.getD_eq_getElem?_getD, List.getElem?_eq_getElem h]; simp
def movesL (a : Int) (l : List Stk) : Bool := l.any fun y => y.1 == a
theorem movesL_take (a : Int) (l : List Stk) {k : Nat} (h : k < l.length) : movesL a (l.take (k + 1)) = (movesL a (l.take k) || ((l.getD k stk0).1 == a)) := by
  unfold movesL
  rw [List.take_succ_eq_append_getElem h, List.any_append, List.getD_eq_getElem?_getD, List.getElem?_eq_getElem h]; simp
theorem beh_high {n : Int} {l : List Stk} {e : Int → Bool} (h : anyHigh n l = false) {i : Int} (hi : n ≤ i) : beh e l i = e i := by
  induction l generalizing e with
  | nil => rfl
  | cons y l ih =>
    unfold anyHigh at h
    rw [List.any_cons, Bool.or_eq_false_iff] at h
    have h1 := h.1
    simp only [decide_eq_false_iff_not] at h1
    show beh (fun i => if i = y.1 then y.2 else e i) l i = _
    rw [ih h.2]
    show (if i = y.1 then y.2 else e i) = _
    rw [if_neg (by omega)]
theorem behAll_high {n : Int} {l : List Stp} {e : Int → Bool} (h : ckWalk n e l = 0) {i : Int} (hi : n ≤ i) : behAll e l i = e i := by
  induction l generalizing e with
  | nil => rfl
  | cons x l ih =>
    have hc := ckWalk_cons h
    by_cases hf : ckFit n x e = 0
    · show behAll (beh e x.1) l i = _
      rw [ih (hc.2 hf), beh_high (ckFit_ok hf).2.1 hi]
    · exact absurd (hc.1 hf).symm hf
theorem any6_ints {n : Int} {l : List Stp} (h1 : 1 ≤ n) (h6 : n ≤ 6) (h : ckWalk n none6 l = 0) : any6 (behAll none6 l) = (ints n).any (behAll none6 l) := by
  have hh : ∀ i : Int, n ≤ i → behAll none6 l i = false := fun i hi => behAll_high h hi
  generalize behAll none6 l = f at hh
  have : n = 1 ∨ n = 2 ∨ n = 3 ∨ n = 4 ∨ n = 5 ∨ n = 6 := by omega
  unfold any6
  rcases this with rfl | rfl | rfl | rfl | rfl | rfl
  · rw [hh 1 (by omega), hh 2 (by omega), hh 3 (by omega), hh 4 (by omega), hh 5 (by omega)]; rfl
  · rw [hh 2 (by omega), hh 3 (by omega), hh 4 (by omega), hh 5 (by omega)]; rfl
  · rw [hh 3 (by omega), hh 4 (by omega), hh 5 (by omega)]; rfl
  · rw [hh 4 (by omega), hh 5 (by omega)]; rfl
  · rw [hh 5 (by omega)]; rfl
  · simp [ints, List.range, List.range.loop, Bool.or_false]
theorem hasB_ints (n : Int) (f : Int → Bool) : hasB n.toNat f false = (ints n).any (fun a => !f a) := by
  unfold hasB ints
  rw [List.any_map]
  congr 1
  funext i
  show (f i == false) = !f (Int.ofNat i)
  cases f (Int.ofNat i) <;> rfl
end Go.Proofs.YtdolibeceijnnaaDoor
namespace Go.Proofs.YtdolibeceijnnaaDoor
open Go.RowKit
structure CkSt (h : Nat) (W wr : World) (e m : Int → Bool) : Prop where
  be : Below (h + 1) W wr
  x : EndsAt wr (h + 1) e
  m : EndsAt wr (h + 1 + 1) m
theorem CkSt.ext {h : Nat} {W A B : World} {e m : Int → Bool} (k : CkSt h W A e m) (x : Ext A B) : CkSt h W B e m :=
  ⟨k.be.trans (x.mono (Nat.le_trans (by have := cell_lt (k.x 0 (by omega)).1; exact Nat.le_of_lt this) (Nat.le_refl _))), k.x.ext x, k.m.ext x⟩
theorem CkSt.setX {h : Nat} {W A : World} {e m : Int → Bool} (k : CkSt h W A e m) (f : Int → Bool) :
    CkSt h W ((((((A.setCell ⟨h + 1, 0, none⟩ (.bool (f 0))).setCell ⟨h + 1, 1, none⟩ (.bool (f 1))).setCell ⟨h + 1, 2, none⟩ (.bool (f 2))).setCell ⟨h + 1, 3, none⟩ (.bool (f 3))).setCell ⟨h + 1, 4, none⟩ (.bool (f 4))).setCell ⟨h + 1, 5, none⟩ (.bool (f 5))) f m :=
  ⟨((((((k.be.setCell (p := ⟨h + 1, 0, none⟩) (Nat.le_refl _) _).setCell (p := ⟨h + 1, 1, none⟩) (Nat.le_refl _) _).setCell (p := ⟨h + 1, 2, none⟩) (Nat.le_refl _) _).setCell (p := ⟨h + 1, 3, none⟩) (Nat.le_refl _) _).setCell (p := ⟨h + 1, 4, none⟩) (Nat.le_refl _) _).setCell (p := ⟨h + 1, 5, none⟩) (Nat.le_refl _) _),
   k.x.store6 f, (((((k.m.other (by omega) _ _).other (by omega) _ _).other (by omega) _ _).other (by omega) _ _).other (by omega) _ _).other (by omega) _ _⟩
theorem CkSt.setM {h : Nat} {W A : World} {e m : Int → Bool} (k : CkSt h W A e m) {a : Int} (h0 : 0 ≤ a) (h6 : a < 6) : CkSt h W (A.setCell ⟨h + 1 + 1, a.toNat, none⟩ (.bool true)) e (fun i => if i = a then true else m i) :=
  ⟨k.be.setCell (p := ⟨h + 1 + 1, a.toNat, none⟩) (by show h + 1 ≤ h + 1 + 1; omega) _, k.x.other (by omega) _ _, k.m.set h0 h6 true⟩
theorem CkSt.congr {h : Nat} {W A : World} {e m m' : Int → Bool} (k : CkSt h W A e m) (hm : ∀ i, m i = m' i) : CkSt h W A e m' := by rw [← (funext hm : m = m')]; exact k
def MovedAt (l : List Stp) (k : Nat) (st : List Stk) (j : Nat) : Int → Bool := fun a => movedIn a (l.take k) || movesL a (st.take j)
theorem MovedAt_zero (l : List Stp) (k : Nat) (st : List Stk) : MovedAt l k st 0 = fun a => movedIn a (l.take k) := by
  funext a; unfold MovedAt; simp [movesL]
theorem MovedAt_succ (l : List Stp) (k : Nat) (st : List Stk) {j : Nat} (h : j < st.length) (i : Int) : (if i = (st.getD j stk0).1 then true else MovedAt l k st j i) = MovedAt l k st (j + 1) i := by
  unfold MovedAt
  rw [movesL_take i st h]
  by_cases c : i = (st.getD j stk0).1
  · rw [if_pos c, c]; simp
  · have : ((st.getD j stk0).1 == i) = false := by simp; exact fun x => c x.symm
    rw [if_neg c, this]; simp
theorem MovedAt_end (l : List Stp) {k : Nat} (h : k < l.length) (i : Int) : MovedAt l k (l.getD k stp0).1 (l.getD k stp0).1.length i = movedIn i (l.take (k + 1)) := by
  unfold MovedAt
  rw [movedIn_take i l h, List.take_of_length_le (Nat.le_refl _)]
  rfl
theorem sliceEnds (p : Nat) (n : Int) (h0 : 0 ≤ n) (h6 : n ≤ 6) (w : World) : (Instr.sliceAt 95 (.pointer (some ⟨p, 0, none⟩)) none (some (.int .i64 n)) none).run Tryd.prog w = .ok (.slice (some ⟨p, 0, none⟩) n.toNat 6) w := by
  have hu : Tryd.prog.underlying 95 = some (.array (Tryd.prog.arrayLen 95) (Tryd.prog.elem 95)) := by kernel_rfl
  have hl : Tryd.prog.arrayLen 95 = 6 := by kernel_rfl
  have hs : ∀ w, (sizeOf (Tryd.prog.elem 95)).run Tryd.prog w = .ok 1 w := fun _ => by kernel_rfl
  rw [run_sliceAt_array_h w _ _ hu _ _ h0 (by rw [hl]; exact h6), hs, hl]
  simp [slicedAt, Result.andThen, Addr.add]
theorem EndsAt.cells {w : World} {p : Nat} {f : Int → Bool} (h : EndsAt w p f) {n : Nat} (hn : n ≤ 6) : CellsB w (some ⟨p, 0, none⟩) n f := fun i hi => ⟨p, 0, rfl, by rw [Nat.zero_add]; exact (h i (by omega)).1⟩
set_option maxHeartbeats 4000000 in
set_option maxRecDepth 100000 in
theorem Check_any (n : Int) (l : List Stp) (a : Option Addr) (cap : Nat) (w : World) (hl : l.length ≤ maxLen) (hc : CellsP w a l) :
    Calls Tryd.prog 28 #[.agg #[.int .i64 n, .slice a l.length cap]] w fun r w' => r = .returned (.int .i64 (ckSeq (n, l))) ∧ Ext w w' := by
  have HC := Lib.hid hc
  have HL := Lib.hid hl
  unfold maxLen at hl
  clear hc
  have E0 : Ext w (w.alloc (.cells #[.int .i64 n, .slice a l.length cap] 24)) := extA
  by_cases h1 : n < 1
  · have hf : Hid (ckSeq (n, l) = 2) := by show _ = _; unfold ckSeq; rw [if_pos (Or.inl h1)]
    go_enter Tryd.func28, Tryd.ntmps28
    go_wp2
    all_goals go_ret
    all_goals exact ⟨ret_int hf.out.symm, extA⟩
  by_cases h2 : 6 < n
  · have hf : Hid (ckSeq (n, l) = 2) := by show _ = _; unfold ckSeq; rw [if_pos (Or.inr h2)]
    go_enter Tryd.func28, Tryd.ntmps28
    go_wp2
    all_goals go_ret
    all_goals exact ⟨ret_int hf.out.symm, extA⟩
  by_cases h0 : l.length = 0
  · have hf : Hid (ckSeq (n, l) = 13) := by show _ = _; unfold ckSeq; rw [if_neg (by dsimp only; omega), if_pos h0]
    have h0' : ((l.length : Int) == 0) = true := by simp [h0]
    have h0b : (l.length == 0) = true := by simp [h0]
    go_enter Tryd.func28, Tryd.ntmps28
    go_wp2
    all_goals go_ret
    all_goals exact ⟨ret_int hf.out.symm, extA⟩
  have h0' : ((l.length : Int) == 0) = false := beq_eq_false_iff_ne.2 (by omega)
  have h0b : (l.length == 0) = false := beq_eq_false_iff_ne.2 h0
  by_cases h6 : 64 < l.length
  · have hf : Hid (ckSeq (n, l) = 5) := by show _ = _; unfold ckSeq; rw [if_neg (by dsimp only; omega), if_neg h0, if_pos h6]
    go_enter Tryd.func28, Tryd.ntmps28
    go_wp2
    all_goals go_ret
    all_goals exact ⟨ret_int hf.out.symm, extA⟩
  have hf : Hid (ckSeq (n, l) = if ckWalk n none6 l ≠ 0 then ckWalk n none6 l else if (ints n).any (behAll none6 l) then 9 else if (ints n).any (fun a => !movedIn a l) then 13 else 0) := by
    show _ = _; unfold ckSeq; rw [if_neg (by dsimp only; omega), if_neg h0, if_neg h6]
  clear h0
  go_enter Tryd.func28, Tryd.ntmps28
  go_wp2
  have E1 : Ext w (((w.alloc (.cells #[.int .i64 n, .slice a l.length cap] 24)).alloc (.cells #[.bool false, .bool false, .bool false, .bool false, .bool false, .bool false] 95)).alloc (.cells #[.bool false, .bool false, .bool false, .bool false, .bool false, .bool false] 95)) := extA
  have c1 : (((w.alloc (.cells #[.int .i64 n, .slice a l.length cap] 24)).alloc (.cells #[.bool false, .bool false, .bool false, .bool false, .bool false, .bool false] 95)).alloc (.cells #[.bool false, .bool false, .bool false, .bool false, .bool false, .bool false] 95)).cell? ⟨w.heap.size, 0, none⟩ = some (.int .i64 n) := by go_simp
  have c2 : (((w.alloc (.cells #[.int .i64 n, .slice a l.length cap] 24)).alloc (.cells #[.bool false, .bool false, .bool false, .bool false, .bool false, .bool false] 95)).alloc (.cells #[.bool false, .bool false, .bool false, .bool false, .bool false, .bool false] 95)).cell? ⟨w.heap.size, 1, none⟩ = some (.slice a l.length cap) := by go_simp
  have c3 : CkSt w.heap.size (((w.alloc (.cells #[.int .i64 n, .slice a l.length cap] 24)).alloc (.cells #[.bool false, .bool false, .bool false, .bool false, .bool false, .bool false] 95)).alloc (.cells #[.bool false, .bool false, .bool false, .bool false, .bool false, .bool false] 95)) (((w.alloc (.cells #[.int .i64 n, .slice a l.length cap] 24)).alloc (.cells #[.bool false, .bool false, .bool false, .bool false, .bool false, .bool false] 95)).alloc (.cells #[.bool false, .bool false, .bool false, .bool false, .bool false, .bool false] 95)) none6 none6 :=
    ⟨Below.refl _ _, (ends_new (by simp) none6).ext ((Ext.refl _).alloc _), ends_new (by simp) none6⟩
  generalize (((w.alloc (.cells #[.int .i64 n, .slice a l.length cap] 24)).alloc (.cells #[.bool false, .bool false, .bool false, .bool false, .bool false, .bool false] 95)).alloc (.cells #[.bool false, .bool false, .bool false, .bool false, .bool false, .bool false] 95)) = W at E1 c1 c2 c3 ⊢
  have C3 := Lib.hid c3
  clear c3
  have HW : Hid (w.heap.size + 1 ≤ W.heap.size) := by have := cell_lt (C3.out.x 0 (by omega)).1; dsimp only at this; show _ ≤ _; omega
  go_loopw [32] (fun i wr => ∃ k : Nat, k ≤ l.length ∧ i = .int .i64 k ∧ Hid (CkSt w.heap.size W wr (behAll none6 (l.take k)) (fun a => movedIn a (l.take k))) ∧ Hid (ckWalk n (behAll none6 (l.take k)) (l.drop k) = ckWalk n none6 l)) (fun i _ => l.length - (intOf i).toNat)
  case atStart => exact ⟨0, Nat.zero_le _, rfl, C3, by show _ = _; rfl⟩
  case round =>
    obtain ⟨k, hk, rfl, D, hz⟩ := hrel
    clear C3
    have E2 : Ext w wr := E1.trans' D.out.be (by omega)
    have d1 := cellB D.out.be (p := ⟨w.heap.size, 0, none⟩) (by show w.heap.size < _; omega) c1
    have d2 := cellB D.out.be (p := ⟨w.heap.size, 1, none⟩) (by show w.heap.size < _; omega) c2
    have ym := cell_lt (D.out.m 0 (by omega)).1
    dsimp only at ym
    have y1 : w.heap.size < wr.heap.size := by omega
    have y2 : w.heap.size + 1 < wr.heap.size := by omega
    by_cases hlt : k < l.length
    · obtain ⟨b, off, v, ha, e1, hv, e2⟩ := HC.out k hlt
      subst ha
      obtain ⟨sa, sc, rfl, hcs, hls⟩ := hv
      have e1 := E2.cell e1
      have e2 := E2.cell e2
      have hz1 := hz.out
      rw [drop_cons l stp0 hlt] at hz1
      have HZ := Lib.hid (ckWalk_cons hz1)
      have HB := Lib.hid (behAll_take none6 l hlt)
      have HM := Lib.hid (MovedAt_end l hlt)
      have HM2 := Lib.hid (fun st : List Stk => MovedAt_zero l k st)
      have HM3 := Lib.hid (fun (st : List Stk) (j : Nat) (h : j < st.length) (i : Int) => MovedAt_succ l k st h i)
      clear hz1 hz
      generalize l.getD k stp0 = x at e1 e2 hcs hls HZ HB HM
      obtain ⟨st, wait⟩ := x
      dsimp only at e1 e2 hcs hls HZ HB HM
      generalize hg : MovedAt l k st = mm at HM
      have HG := Lib.hid hg
      clear hg
      generalize hee : behAll none6 (l.take k) = ee at D HZ HB
      have HEE := Lib.hid hee
      clear hee
      have HCS := Lib.hid hcs
      have HLS := Lib.hid hls
      clear hcs hls
      have z1 := cell_lt e1
      dsimp only at z1
      have hx6 := D.out.x.six
      obtain ⟨⟨x0, x1, x2, x3, x4, x5⟩, _⟩ := hx6
      by_cases hfit : ckFit n (st, wait) ee = 0
      · have HF := Lib.hid hfit
        have HO := Lib.hid (ckFit_ok hfit)
        have HZ2 := Lib.hid (HZ.out.2 hfit)
        clear hfit HZ
        go_wp2_with fail
        have F1 : Ext w (wr.alloc (.cells #[.slice sa st.length sc, .int .i64 wait] 65)) := extA
        have D1 : Hid (CkSt w.heap.size W (wr.alloc (.cells #[.slice sa st.length sc, .int .i64 wait] 65)) ee (fun a => movedIn a (l.take k))) := D.out.ext ((Ext.refl _).alloc _)
        have f1 : (wr.alloc (.cells #[.slice sa st.length sc, .int .i64 wait] 65)).cell? ⟨wr.heap.size, 0, none⟩ = some (.slice sa st.length sc) := by go_simp
        have f2 : (wr.alloc (.cells #[.slice sa st.length sc, .int .i64 wait] 65)).cell? ⟨wr.heap.size, 1, none⟩ = some (.int .i64 wait) := by go_simp
        have HW1 : Hid (w.heap.size + 1 + 1 < wr.heap.size) := ym
        generalize wr.alloc (.cells #[.slice sa st.length sc, .int .i64 wait] 65) = W1 at F1 D1 f1 f2 ⊢
        clear x0 x1 x2 x3 x4 x5 d1 d2
        refine (fits_any n _ st wait sa sc ee _ HLS.out (HCS.out.ext F1)).mono ?_
        rintro r w2 ⟨rfl, hE2⟩
        rw [HF.out]
        have F2 := F1.trans hE2
        have D2 : Hid (CkSt w.heap.size W w2 ee (fun a => movedIn a (l.take k))) := D1.out.ext hE2
        have f1 := hE2.cell f1
        have f2 := hE2.cell f2
        obtain ⟨⟨x0, x1, x2, x3, x4, x5⟩, g0, g1, g2, g3, g4, g5⟩ := D2.out.x.six
        go_wp2_with fail
        refine (behind_any st wait sa sc ee _ HLS.out (HCS.out.ext F2) (ckStep_known HO.out.1)).mono ?_
        rintro r w3 ⟨rfl, hE3⟩
        have F3 := F2.trans hE3
        have D3 : Hid (CkSt w.heap.size W w3 ee (fun a => movedIn a (l.take k))) := D2.out.ext hE3
        have f1 := hE3.cell f1
        have f2 := hE3.cell f2
        have hq6 : st.length ≤ 6 := (ckStep_strokes HO.out.1).2.1
        have HKN : Hid (Known st) := ckStep_known HO.out.1
        clear x0 x1 x2 x3 x4 x5 g0 g1 g2 g3 g4 g5
        obtain ⟨⟨x0, x1, x2, x3, x4, x5⟩, g0, g1, g2, g3, g4, g5⟩ := D3.out.x.six
        generalize beh ee st = ff at HB HZ2 ⊢
        unfold endsV
        have hsz : wr.heap.size < w3.heap.size := cell_lt f1
        go_wp2
        have F4 : Ext w ((((((w3.setCell ⟨w.heap.size + 1, 0, none⟩ (.bool (ff 0))).setCell ⟨w.heap.size + 1, 1, none⟩ (.bool (ff 1))).setCell ⟨w.heap.size + 1, 2, none⟩ (.bool (ff 2))).setCell ⟨w.heap.size + 1, 3, none⟩ (.bool (ff 3))).setCell ⟨w.heap.size + 1, 4, none⟩ (.bool (ff 4))).setCell ⟨w.heap.size + 1, 5, none⟩ (.bool (ff 5))) := extA
        have D4 : Hid (CkSt w.heap.size W ((((((w3.setCell ⟨w.heap.size + 1, 0, none⟩ (.bool (ff 0))).setCell ⟨w.heap.size + 1, 1, none⟩ (.bool (ff 1))).setCell ⟨w.heap.size + 1, 2, none⟩ (.bool (ff 2))).setCell ⟨w.heap.size + 1, 3, none⟩ (.bool (ff 3))).setCell ⟨w.heap.size + 1, 4, none⟩ (.bool (ff 4))).setCell ⟨w.heap.size + 1, 5, none⟩ (.bool (ff 5))) ff (fun a => movedIn a (l.take k))) := D3.out.setX ff
        have B4 : Below (w.heap.size + 1) w3 ((((((w3.setCell ⟨w.heap.size + 1, 0, none⟩ (.bool (ff 0))).setCell ⟨w.heap.size + 1, 1, none⟩ (.bool (ff 1))).setCell ⟨w.heap.size + 1, 2, none⟩ (.bool (ff 2))).setCell ⟨w.heap.size + 1, 3, none⟩ (.bool (ff 3))).setCell ⟨w.heap.size + 1, 4, none⟩ (.bool (ff 4))).setCell ⟨w.heap.size + 1, 5, none⟩ (.bool (ff 5))) :=
          ((((((Below.refl _ _).setCell (p := ⟨w.heap.size + 1, 0, none⟩) (Nat.le_refl _) _).setCell (p := ⟨w.heap.size + 1, 1, none⟩) (Nat.le_refl _) _).setCell (p := ⟨w.heap.size + 1, 2, none⟩) (Nat.le_refl _) _).setCell (p := ⟨w.heap.size + 1, 3, none⟩) (Nat.le_refl _) _).setCell (p := ⟨w.heap.size + 1, 4, none⟩) (Nat.le_refl _) _).setCell (p := ⟨w.heap.size + 1, 5, none⟩) (Nat.le_refl _) _
        have hs4 : ((((((w3.setCell ⟨w.heap.size + 1, 0, none⟩ (.bool (ff 0))).setCell ⟨w.heap.size + 1, 1, none⟩ (.bool (ff 1))).setCell ⟨w.heap.size + 1, 2, none⟩ (.bool (ff 2))).setCell ⟨w.heap.size + 1, 3, none⟩ (.bool (ff 3))).setCell ⟨w.heap.size + 1, 4, none⟩ (.bool (ff 4))).setCell ⟨w.heap.size + 1, 5, none⟩ (.bool (ff 5))).heap.size = w3.heap.size := by simp
        generalize (((((w3.setCell ⟨w.heap.size + 1, 0, none⟩ (.bool (ff 0))).setCell ⟨w.heap.size + 1, 1, none⟩ (.bool (ff 1))).setCell ⟨w.heap.size + 1, 2, none⟩ (.bool (ff 2))).setCell ⟨w.heap.size + 1, 3, none⟩ (.bool (ff 3))).setCell ⟨w.heap.size + 1, 4, none⟩ (.bool (ff 4))).setCell ⟨w.heap.size + 1, 5, none⟩ (.bool (ff 5)) = w4 at F4 D4 B4 hs4 ⊢
        clear x0 x1 x2 x3 x4 x5 g0 g1 g2 g3 g4 g5 hs4
        have DM : Hid (CkSt w.heap.size W w4 ff (mm 0)) := by
          show CkSt _ _ _ _ _
          rw [← HG.out]
          exact D4.out.congr (fun i => by rw [HM2.out])
        obtain ⟨wo, rfl⟩ : ∃ wo : World, wo = wr := ⟨_, rfl⟩
        go_loopw [49] (fun j w5 => ∃ q : Nat, q ≤ st.length ∧ j = .int .i64 q ∧ Ext w w5 ∧ Hid (CkSt w.heap.size W w5 ff (mm q))) (fun j _ => st.length - (intOf j).toNat)
        case atStart => exact ⟨0, Nat.zero_le _, rfl, F4, DM⟩
        case round =>
          obtain ⟨q, hq, rfl, G5, DQ⟩ := hrel
          clear DM
          by_cases hltq : q < st.length
          · obtain ⟨b', off', ha', p1, p2⟩ := HCS.out.ext G5 q hltq
            subst ha'
            have hkn := HKN.out q hltq
            have HS := Lib.hid (HM3.out st q hltq)
            generalize st.getD q stk0 = y at p1 p2 hkn HS
            obtain ⟨ya, yo⟩ := y
            dsimp only at p1 p2 hkn HS
            obtain ⟨g0, g6⟩ := hkn
            obtain ⟨m1, m2⟩ := DQ.out.m ya.toNat (by omega)
            rw [Int.toNat_of_nonneg g0] at m1
            have zq := cell_lt p1
            have zm := cell_lt m1
            dsimp only at zq zm
            have DN : Hid (CkSt w.heap.size W ((wr.setCell ⟨w.heap.size + 1 + 1, ya.toNat, none⟩ (.bool true)).alloc (.cells #[.int .i64 ya, .bool yo] 67)) ff (mm (q + 1))) := by
              show CkSt _ _ _ _ _
              refine ((DQ.out.setM g0 g6).congr fun i => ?_).ext ((Ext.refl _).alloc _)
              rw [← HG.out]
              exact HS.out i
            have EN : Ext w ((wr.setCell ⟨w.heap.size + 1 + 1, ya.toNat, none⟩ (.bool true)).alloc (.cells #[.int .i64 ya, .bool yo] 67)) := extA
            clear DQ HS
            go_wp2
            refine ⟨⟨q + 1, by omega, by go_num, EN, DN⟩, by simp [intOf]; omega⟩
          · have DE : Hid (CkSt w.heap.size W wr (behAll none6 (l.take (k + 1))) (fun a => movedIn a (l.take (k + 1)))) := by
              show CkSt _ _ _ _ _
              rw [HB.out]
              have hqe : q = st.length := by omega
              subst hqe
              exact DQ.out.congr HM.out
            have ZE : Hid (ckWalk n (behAll none6 (l.take (k + 1))) (l.drop (k + 1)) = ckWalk n none6 l) := by
              show _ = _
              rw [HB.out]; exact HZ2.out
            clear DQ
            go_wp2
            refine ⟨⟨k + 1, by omega, by go_num, DE, ZE⟩, by simp [intOf]; omega⟩
      · have hfit' : (ckFit n (st, wait) ee != 0) = true := by simp [hfit]
        have HF : Hid (ckSeq (n, l) = ckFit n (st, wait) ee) := by
          show _ = _
          have h := HZ.out.1 hfit
          rw [hf.out, h, if_pos hfit]
        clear hfit HZ
        generalize hcf : ckFit n (st, wait) ee = cf at HF hfit'
        have HCF := Lib.hid hcf
        clear hcf
        go_wp2_with fail
        have F1 : Ext w (wr.alloc (.cells #[.slice sa st.length sc, .int .i64 wait] 65)) := extA
        refine (fits_any n _ st wait sa sc ee _ HLS.out (HCS.out.ext F1)).mono ?_
        rintro r w2 ⟨rfl, hE2⟩
        rw [HCF.out]
        go_wp2
        go_ret
        exact ⟨ret_int HF.out.symm, extA⟩
    · have hlt' : l.take k = l := List.take_of_length_le (by omega)
      have hz1 := hz.out
      rw [List.drop_eq_nil_of_le (by omega)] at hz1
      have hz0 : ckWalk n none6 l = 0 := hz1.symm
      have HFF : Hid (ckSeq (n, l) = if any6 (behAll none6 l) then 9 else if hasB n.toNat (fun a => movedIn a l) false then 13 else 0) := by
        show _ = _
        rw [hf.out, hz0, any6_ints h1 h2 hz0, hasB_ints]
        rfl
      rw [hlt'] at D
      clear hz1 hz0 hz hlt' hf
      generalize behAll none6 l = ee at D HFF
      obtain ⟨⟨x0, x1, x2, x3, x4, x5⟩, g0, g1, g2, g3, g4, g5⟩ := D.out.x.six
      have hneq := fun w => neqEnds (ee 0) (ee 1) (ee 2) (ee 3) (ee 4) (ee 5) w
      have hzz : ∀ w, (zeroValue 95).run Tryd.prog w = .ok (.agg #[.bool false, .bool false, .bool false, .bool false, .bool false, .bool false]) w := fun _ => by kernel_rfl
      have DM := Lib.hid D.out.m
      clear D
      cases h9 : any6 ee
      · unfold any6 at h9
        rw [h9] at hneq
        have HF2 : Hid (ckSeq (n, l) = if hasB n.toNat (fun a => movedIn a l) false then 13 else 0) := by
          show _ = _
          rw [HFF.out, if_neg (by unfold any6; rw [h9]; simp)]
        clear h9 HFF
        have hn3 : n.toNat ≤ 6 := by omega
        have hsl := fun w' => sliceEnds (w.heap.size + 1 + 1) n (by omega) h2 w'
        have HCB := Lib.hid (DM.out.cells hn3)
        cases hh : hasB n.toNat (fun a => movedIn a l) false
        · rw [hh] at HF2
          have HH := Lib.hid hh
          clear hh
          go_wp2_with ((refine (ContainsB_any n.toNat (fun a => movedIn a l) false _ 6 _ (by unfold maxLen; omega) HCB.out).mono ?_); rintro e w1 ⟨rfl, rfl⟩; rw [HH.out])
          go_ret
          exact ⟨ret_int HF2.out.symm, extA⟩
        · rw [hh] at HF2
          have HH := Lib.hid hh
          clear hh
          go_wp2_with ((refine (ContainsB_any n.toNat (fun a => movedIn a l) false _ 6 _ (by unfold maxLen; omega) HCB.out).mono ?_); rintro e w1 ⟨rfl, rfl⟩; rw [HH.out])
          go_ret
          exact ⟨ret_int HF2.out.symm, extA⟩
      · have HF2 : Hid (ckSeq (n, l) = 9) := by
          show _ = _
          rw [HFF.out, if_pos h9]
        unfold any6 at h9
        rw [h9] at hneq
        clear h9
        go_wp2
        go_ret
        exact ⟨ret_int HF2.out.symm, extA⟩
end Go.Proofs.YtdolibeceijnnaaDoor
