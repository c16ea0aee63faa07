/- Steps of the proof: FLRin. No conditions. -/
import Derived.Test.YtpfanpkinlklnaaGreatDoorZFB1
import Derived.Test.YtpfanpkinlklnaaGreatDoorZFB2
import Derived.Test.YtpfanpkinlklnaaGreatDoorZFB3
import Derived.Test.YtpfanpkinlklnaaGreatDoorZFB4
import Derived.Test.YtpfanpkinlklnaaGreatDoorZFB5
import Derived.Test.YtpfanpkinlklnaaGreatDoorZFB6
import Derived.Test.YtpfanpkinlklnaaGreatDoorZFB7
import Derived.Test.YtpfanpkinlklnaaGreatDoorZFB8
import Derived.Test.YtpfanpkinlklnaaGreatDoorZFB9
import Derived.Test.YtpfanpkinlklnaaGreatDoorZFB10
import Derived.Test.YtpfanpkinlklnaaGreatDoorZFB11
import Derived.Test.YtpfanpkinlklnaaGreatDoorZFRin1
/- The law's function FractionRing. (Printed by genring.py.) -/
namespace Go.Proofs.YtpfanpkinlklnaaGreatDoor
open Go.RowKit
open Go.Lib (decDigits itoa)

/-- what an operation of the chain has left, if it has come up -/
def rs (s i : Nat) (x : Value) : Value := if i < s then x else undef
set_option maxHeartbeats 64000000 in
set_option maxRecDepth 100000 in
theorem lawRing_any (a b c : Txt) (w : World) (hG : Glob w) : Calls Tryz.prog 9 #[txt a, txt b, txt c] w (TrueP w) := by
  have HG := Lib.hid hG
  have HA : Hid (∀ W, Ext w W → Calls Tryz.prog 13 #[] W fun e w' => e = .returned (.bool true) ∧ Ext W w') := fun W h => awake_any W (HG.out.ext h)
  have HR := Lib.hid (rightF_any [a, b, c] (some ⟨w.heap.size, 0, none⟩) 3 _ (cells_txts w [a, b, c] 23) (by simp))
  have E1 : Ext w (w.alloc (.cells #[txt a, txt b, txt c] 23)) := (by repeat (first | with_reducible exact Ext.refl _ | with_reducible assumption | with_reducible apply Ext.drewN | with_reducible apply Ext.drew | with_reducible apply Ext.alloc | ((with_reducible refine Ext.set ?_ ?_ _); rotate_left; first | omega | (simp; omega)) | (with_reducible refine Ext.trans ?_ (by with_reducible assumption))))
  have hall : [a, b, c].all okS = (okS a && (okS b && okS c)) := by simp
  rw [hall] at HR
  have hmf : ∀ (fn : Fn) (first cap : Array Value) (w : World), (Instr.makeFunc fn first cap).run Tryz.prog w = .ok (.func fn first cap) w := fun _ _ _ _ => rfl
  clear hG hall
  unfold TrueP
  by_cases hok : (okS a && (okS b && okS c)) = true
  rotate_left
  · have hok2 : (okS a && (okS b && okS c)) = false := by simpa using hok
    rw [hok2] at HR
    clear hok hok2
    go_enter Tryz.func9, Tryz.ntmps9
    go_wp2_with fail
    refine HR.out.mono ?_
    rintro e w1 ⟨rfl, h⟩
    have E := E1.trans h
    go_wp2_with (go_at_call 13; refine (HA.out _ E).mono ?_; rintro e w3 ⟨rfl, h3⟩)
    go_ret
    exact ⟨rfl, E.trans h3⟩
  rw [hok] at HR
  obtain ⟨oa, obc⟩ := Bool.and_eq_true_iff.1 hok
  obtain ⟨ob, oc⟩ := Bool.and_eq_true_iff.1 obc
  obtain ⟨la, fa⟩ := okS_iff.1 oa
  obtain ⟨lb, fb⟩ := okS_iff.1 ob
  obtain ⟨lc, fc⟩ := okS_iff.1 oc
  obtain ⟨ab, mab, bc, abc, X, acm, bcm, ac, nb, L⟩ := ring_law fa fb fc la lb lc
  have hlen : ∀ x ∈ [a, b, c, ab, mab, bc, abc, X, acm, bcm, ac, nb, [48]], x.length ≤ 400 := fun x hx => Nat.le_trans (frac_len (L.right x hx)) (by omega)
  have HCK : Hid (∀ z ∈ [a, b, c, ab, mab, bc, abc, X, acm, bcm, ac, nb, [48]], ∀ W, Ext w W → Calls Tryz.prog 44 #[txt z] W fun e w' => e = .returned (.int .i64 0) ∧ Ext W w') := fun z hz W h => by
    have k := check_any z W (HG.out.ext h) (hlen z hz)
    rw [L.right z hz] at k
    exact k
  have HCA : Hid (∀ (x y z : Txt) (p q : Nat), addS x y = (z, 0) → x.length ≤ 400 → y.length ≤ 400 → ∀ W, Ext w W → SumsOk p q W → Calls Tryz.prog 41 #[txt x, txt y, .pointer (some ⟨q, 0, none⟩)] W fun e w' => e = .returned (txt z) ∧ Ext W w') :=
    fun x y z p q hz hx hy W h hs => addC_any x y z p q W hs (HG.out.ext h) hx hy hz
  have HCM : Hid (∀ (x y z : Txt) (p q : Nat), mulS x y = (z, 0) → x.length ≤ 400 → y.length ≤ 400 → ∀ W, Ext w W → SumsOk p q W → Calls Tryz.prog 43 #[txt x, txt y, .pointer (some ⟨q, 0, none⟩)] W fun e w' => e = .returned (txt z) ∧ Ext W w') :=
    fun x y z p q hz hx hy W h hs => mulC_any x y z p q W hs (HG.out.ext h) hx hy hz
  have HSB : Hid (∀ W, Ext w W → Calls Tryz.prog 31 #[txt ac, txt c] W fun e w' => e = .returned (.tuple #[txt a, .int .i64 0]) ∧ Ext W w') := fun W h => by
    have k := sub_any ac c W (HG.out.ext h) (hlen _ (by simp)) (hlen _ (by simp))
    rw [L.e13] at k
    exact k
  have HNG : Hid (∀ W, Ext w W → Calls Tryz.prog 20 #[txt b] W fun e w' => e = .returned (.tuple #[txt nb, .int .i64 0]) ∧ Ext W w') := fun W h => by
    have k := neg_any b W (HG.out.ext h) (hlen _ (by simp))
    rw [L.e15] at k
    exact k
  have HSM : Hid (∀ W g, Ext w W → CellsT W (some ⟨g, 0, none⟩) [c, b, a] → Calls Tryz.prog 27 #[.slice (some ⟨g, 0, none⟩) 3 3] W fun e w' => e = .returned (.tuple #[txt abc, .int .i64 0]) ∧ Ext W w') := fun W g h hc => by
    have k := sumF_any [c, b, a] (some ⟨g, 0, none⟩) 3 W (HG.out.ext h) hc (by simp) (.inl ⟨by simp, fun x hx => by
      simp only [List.mem_cons, List.mem_nil_iff, or_false] at hx
      rcases hx with rfl | rfl | rfl <;> omega⟩)
    rw [L.e14] at k
    exact k
  have HDZ : Hid (c = [48] → ∀ W, Ext w W → Calls Tryz.prog 35 #[txt a, txt c] W fun e w' => e = .returned (.tuple #[txt [], .int .i64 10]) ∧ Ext W w') := fun hz W h => by
    have k := div_any a c W (HG.out.ext h) (hlen _ (by simp)) (hlen _ (by simp))
    rw [L.e17 hz] at k
    exact k
  have HDN : Hid (c ≠ [48] → ∀ W, Ext w W → Calls Tryz.prog 35 #[txt bcm, txt c] W fun e w' => e = .returned (.tuple #[txt b, .int .i64 0]) ∧ Ext W w') := fun hz W h => by
    have k := div_any bcm c W (HG.out.ext h) (hlen _ (by simp)) (hlen _ (by simp))
    rw [L.e18 hz] at k
    exact k
  have HL := Lib.hid L
  have HLN := Lib.hid hlen
  clear L hlen hok oa obc ob oc la lb lc fa fb fc
  go_enter Tryz.func9, Tryz.ntmps9
  simp only [List.append_eq, List.cons_append, List.nil_append]
  go_wp2_with fail
  refine HR.out.mono ?_
  rintro e w1 ⟨rfl, h⟩
  have E := E1.trans h
  clear h E1 HR
  have X0 : SumsOk w1.heap.size (w1.heap.size + 1) ((w1.alloc (.cells #[.bool true] 55)).alloc (.cells #[.pointer (some ⟨w1.heap.size, 0, none⟩)] 53)) := ⟨by go_simp, by go_simp, by go_simp⟩
  have HWS : Hid (w.heap.size ≤ w1.heap.size) := E.size
  replace E : Ext w ((w1.alloc (.cells #[.bool true] 55)).alloc (.cells #[.pointer (some ⟨w1.heap.size, 0, none⟩)] 53)) := E.trans (by repeat (first | with_reducible exact Ext.refl _ | with_reducible assumption | with_reducible apply Ext.drewN | with_reducible apply Ext.drew | with_reducible apply Ext.alloc | ((with_reducible refine Ext.set ?_ ?_ _); rotate_left; first | omega | (simp; omega)) | (with_reducible refine Ext.trans ?_ (by with_reducible assumption))))
  go_wp2_with fail
  obtain ⟨p, hp⟩ : ∃ p, p = w1.heap.size := ⟨_, rfl⟩
  obtain ⟨q, hq⟩ : ∃ q, q = w1.heap.size + 1 := ⟨_, rfl⟩
  have hpq : p < q := by omega
  rw [← hq, ← hp] at X0 ⊢
  rw [← hp] at E HWS
  have hpw : w.heap.size ≤ p := by have := HWS.out; omega
  clear hp hq HWS
  generalize ((w1.alloc (.cells #[.bool true] 55)).alloc (.cells #[.pointer (some ⟨p, 0, none⟩)] 53)) = V0 at X0 E ⊢
  have hdr : Ext V0 V0.drew := (by repeat (first | with_reducible exact Ext.refl _ | with_reducible assumption | with_reducible apply Ext.drewN | with_reducible apply Ext.drew | with_reducible apply Ext.alloc | ((with_reducible refine Ext.set ?_ ?_ _); rotate_left; first | omega | (simp; omega)) | (with_reducible refine Ext.trans ?_ (by with_reducible assumption))))
  replace X0 := X0.ext hdr
  replace E := E.trans hdr
  have hS := X0.at_
  refine wp_region_heldE 99 (fun w' => w'.cell? ⟨q, 0, none⟩ = some (.pointer (some ⟨p, 0, none⟩))) (by kernel_rfl) ?_
  clear hdr
  generalize V0.drew = V0 at X0 E hS ⊢
  ((refine wpAnyE_take (i := 0) (oi := ?_) (v := ?_) ?_ (by kernel_rfl) ?_ ?_ (by assumption) ?_; rotate_left 2; (focus ((simp only [List.getElem?_toArray, List.getElem?_cons_zero]; exact rfl))); (focus (exact fun _ _ _ h => h)); (focus (refine Or.inl ⟨by rfl, ?_⟩; intro w hSw; (try dsimp only at hSw); (first | (go_simp; done) | (go_simp; with_reducible rfl)))); (try simp only [Act.put, List.setIfInBounds_toArray, List.set_cons_zero, List.set_cons_succ])); (refine wpAnyE_take (i := 1) (oi := ?_) (v := ?_) ?_ (by kernel_rfl) ?_ ?_ (by assumption) ?_; rotate_left 2; (focus ((simp only [List.getElem?_toArray, List.getElem?_cons_succ, List.getElem?_cons_zero]; exact rfl))); (focus (exact fun _ _ _ h => h)); (focus (refine Or.inl ⟨by rfl, ?_⟩; intro w hSw; (try dsimp only at hSw); (first | (go_simp; done) | (go_simp; with_reducible rfl)))); (try simp only [Act.put, List.setIfInBounds_toArray, List.set_cons_zero, List.set_cons_succ])); (refine wpAnyE_take (i := 2) (oi := ?_) (v := ?_) ?_ (by kernel_rfl) ?_ ?_ (by assumption) ?_; rotate_left 2; (focus ((simp only [List.getElem?_toArray, List.getElem?_cons_succ, List.getElem?_cons_zero]; exact rfl))); (focus (exact fun _ _ _ h => h)); (focus (refine Or.inl ⟨by rfl, ?_⟩; intro w hSw; (try dsimp only at hSw); (first | (go_simp; done) | (go_simp; with_reducible rfl)))); (try simp only [Act.put, List.setIfInBounds_toArray, List.set_cons_zero, List.set_cons_succ])); (refine wpAnyE_take (i := 4) (oi := ?_) (v := ?_) ?_ (by kernel_rfl) ?_ ?_ (by assumption) ?_; rotate_left 2; (focus ((simp only [List.getElem?_toArray, List.getElem?_cons_succ, List.getElem?_cons_zero]; exact rfl))); (focus (exact fun _ _ _ h => h)); (focus (refine Or.inl ⟨by rfl, ?_⟩; intro w hSw; (try dsimp only at hSw); (first | (go_simp; done) | (go_simp; with_reducible rfl)))); (try simp only [Act.put, List.setIfInBounds_toArray, List.set_cons_zero, List.set_cons_succ])); (refine wpAnyE_take (i := 5) (oi := ?_) (v := ?_) ?_ (by kernel_rfl) ?_ ?_ (by assumption) ?_; rotate_left 2; (focus ((simp only [List.getElem?_toArray, List.getElem?_cons_succ, List.getElem?_cons_zero]; exact rfl))); (focus (exact fun _ _ _ h => h)); (focus (refine Or.inl ⟨by rfl, ?_⟩; intro w hSw; (try dsimp only at hSw); (first | (go_simp; done) | (go_simp; with_reducible rfl)))); (try simp only [Act.put, List.setIfInBounds_toArray, List.set_cons_zero, List.set_cons_succ])); (refine wpAnyE_take (i := 6) (oi := ?_) (v := ?_) ?_ (by kernel_rfl) ?_ ?_ (by assumption) ?_; rotate_left 2; (focus ((simp only [List.getElem?_toArray, List.getElem?_cons_succ, List.getElem?_cons_zero]; exact rfl))); (focus (exact fun _ _ _ h => h)); (focus (refine Or.inl ⟨by rfl, ?_⟩; intro w hSw; (try dsimp only at hSw); (first | (go_simp; done) | (go_simp; with_reducible rfl)))); (try simp only [Act.put, List.setIfInBounds_toArray, List.set_cons_zero, List.set_cons_succ])); (refine wpAnyE_take (i := 9) (oi := ?_) (v := ?_) ?_ (by kernel_rfl) ?_ ?_ (by assumption) ?_; rotate_left 2; (focus ((simp only [List.getElem?_toArray, List.getElem?_cons_succ, List.getElem?_cons_zero]; exact rfl))); (focus (exact fun _ _ _ h => h)); (focus (refine Or.inl ⟨by rfl, ?_⟩; intro w hSw; (try dsimp only at hSw); (first | (go_simp; done) | (go_simp; with_reducible rfl)))); (try simp only [Act.put, List.setIfInBounds_toArray, List.set_cons_zero, List.set_cons_succ])); (refine wpAnyE_take (i := 10) (oi := ?_) (v := ?_) ?_ (by kernel_rfl) ?_ ?_ (by assumption) ?_; rotate_left 2; (focus ((simp only [List.getElem?_toArray, List.getElem?_cons_succ, List.getElem?_cons_zero]; exact rfl))); (focus (exact fun _ _ _ h => h)); (focus (refine Or.inl ⟨by rfl, ?_⟩; intro w hSw; (try dsimp only at hSw); (first | (go_simp; done) | (go_simp; with_reducible rfl)))); (try simp only [Act.put, List.setIfInBounds_toArray, List.set_cons_zero, List.set_cons_succ])); (refine wpAnyE_take (i := 11) (oi := ?_) (v := ?_) ?_ (by kernel_rfl) ?_ ?_ (by assumption) ?_; rotate_left 2; (focus ((simp only [List.getElem?_toArray, List.getElem?_cons_succ, List.getElem?_cons_zero]; exact rfl))); (focus (exact fun _ _ _ h => h)); (focus (refine Or.inl ⟨by rfl, ?_⟩; intro w hSw; (try dsimp only at hSw); (first | (go_simp; done) | (go_simp; with_reducible rfl)))); (try simp only [Act.put, List.setIfInBounds_toArray, List.set_cons_zero, List.set_cons_succ])); (refine wpAnyE_take (i := 13) (oi := ?_) (v := ?_) ?_ (by kernel_rfl) ?_ ?_ (by assumption) ?_; rotate_left 2; (focus ((simp only [List.getElem?_toArray, List.getElem?_cons_succ, List.getElem?_cons_zero]; exact rfl))); (focus (exact fun _ _ _ h => h)); (focus (refine Or.inl ⟨by rfl, ?_⟩; intro w hSw; (try dsimp only at hSw); (first | (go_simp; done) | (go_simp; with_reducible rfl)))); (try simp only [Act.put, List.setIfInBounds_toArray, List.set_cons_zero, List.set_cons_succ])); (refine wpAnyE_take (i := 14) (oi := ?_) (v := ?_) ?_ (by kernel_rfl) ?_ ?_ (by assumption) ?_; rotate_left 2; (focus ((simp only [List.getElem?_toArray, List.getElem?_cons_succ, List.getElem?_cons_zero]; exact rfl))); (focus (exact fun _ _ _ h => h)); (focus (refine Or.inl ⟨by rfl, ?_⟩; intro w hSw; (try dsimp only at hSw); (first | (go_simp; done) | (go_simp; with_reducible rfl)))); (try simp only [Act.put, List.setIfInBounds_toArray, List.set_cons_zero, List.set_cons_succ])); (refine wpAnyE_take (i := 15) (oi := ?_) (v := ?_) ?_ (by kernel_rfl) ?_ ?_ (by assumption) ?_; rotate_left 2; (focus ((simp only [List.getElem?_toArray, List.getElem?_cons_succ, List.getElem?_cons_zero]; exact rfl))); (focus (exact fun _ _ _ h => h)); (focus (refine Or.inl ⟨by rfl, ?_⟩; intro w hSw; (try dsimp only at hSw); (first | (go_simp; done) | (go_simp; with_reducible rfl)))); (try simp only [Act.put, List.setIfInBounds_toArray, List.set_cons_zero, List.set_cons_succ])); (refine wpAnyE_take (i := 18) (oi := ?_) (v := ?_) ?_ (by kernel_rfl) ?_ ?_ (by assumption) ?_; rotate_left 2; (focus ((simp only [List.getElem?_toArray, List.getElem?_cons_succ, List.getElem?_cons_zero]; exact rfl))); (focus (exact fun _ _ _ h => h)); (focus (refine Or.inl ⟨by rfl, ?_⟩; intro w hSw; (try dsimp only at hSw); (first | (go_simp; done) | (go_simp; with_reducible rfl)))); (try simp only [Act.put, List.setIfInBounds_toArray, List.set_cons_zero, List.set_cons_succ])); (refine wpAnyE_take (i := 19) (oi := ?_) (v := ?_) ?_ (by kernel_rfl) ?_ ?_ (by assumption) ?_; rotate_left 2; (focus ((simp only [List.getElem?_toArray, List.getElem?_cons_succ, List.getElem?_cons_zero]; exact rfl))); (focus (exact fun _ _ _ h => h)); (focus (refine Or.inl ⟨by rfl, ?_⟩; intro w hSw; (try dsimp only at hSw); (first | (go_simp; done) | (go_simp; with_reducible rfl)))); (try simp only [Act.put, List.setIfInBounds_toArray, List.set_cons_zero, List.set_cons_succ])); (refine wpAnyE_take (i := 20) (oi := ?_) (v := ?_) ?_ (by kernel_rfl) ?_ ?_ (by assumption) ?_; rotate_left 2; (focus ((simp only [List.getElem?_toArray, List.getElem?_cons_succ, List.getElem?_cons_zero]; exact rfl))); (focus (exact fun _ _ _ h => h)); (focus (refine Or.inl ⟨by rfl, ?_⟩; intro w hSw; (try dsimp only at hSw); (first | (go_simp; done) | (go_simp; with_reducible rfl)))); (try simp only [Act.put, List.setIfInBounds_toArray, List.set_cons_zero, List.set_cons_succ])); (refine wpAnyE_take (i := 21) (oi := ?_) (v := ?_) ?_ (by kernel_rfl) ?_ ?_ (by assumption) ?_; rotate_left 2; (focus ((simp only [List.getElem?_toArray, List.getElem?_cons_succ, List.getElem?_cons_zero]; exact rfl))); (focus (exact fun _ _ _ h => h)); (focus (refine Or.inl ⟨by rfl, ?_⟩; intro w hSw; (try dsimp only at hSw); (first | (go_simp; done) | (go_simp; with_reducible rfl)))); (try simp only [Act.put, List.setIfInBounds_toArray, List.set_cons_zero, List.set_cons_succ])); (refine wpAnyE_take (i := 22) (oi := ?_) (v := ?_) ?_ (by kernel_rfl) ?_ ?_ (by assumption) ?_; rotate_left 2; (focus ((simp only [List.getElem?_toArray, List.getElem?_cons_succ, List.getElem?_cons_zero]; exact rfl))); (focus (exact fun _ _ _ h => h)); (focus (refine Or.inl ⟨by rfl, ?_⟩; intro w hSw; (try dsimp only at hSw); (first | (go_simp; done) | (go_simp; with_reducible rfl)))); (try simp only [Act.put, List.setIfInBounds_toArray, List.set_cons_zero, List.set_cons_succ])); (refine wpAnyE_take (i := 25) (oi := ?_) (v := ?_) ?_ (by kernel_rfl) ?_ ?_ (by assumption) ?_; rotate_left 2; (focus ((simp only [List.getElem?_toArray, List.getElem?_cons_succ, List.getElem?_cons_zero]; exact rfl))); (focus (exact fun _ _ _ h => h)); (focus (refine Or.inl ⟨by rfl, ?_⟩; intro w hSw; (try dsimp only at hSw); (first | (go_simp; done) | (go_simp; with_reducible rfl)))); (try simp only [Act.put, List.setIfInBounds_toArray, List.set_cons_zero, List.set_cons_succ])); (refine wpAnyE_take (i := 26) (oi := ?_) (v := ?_) ?_ (by kernel_rfl) ?_ ?_ (by assumption) ?_; rotate_left 2; (focus ((simp only [List.getElem?_toArray, List.getElem?_cons_succ, List.getElem?_cons_zero]; exact rfl))); (focus (exact fun _ _ _ h => h)); (focus (refine Or.inl ⟨by rfl, ?_⟩; intro w hSw; (try dsimp only at hSw); (first | (go_simp; done) | (go_simp; with_reducible rfl)))); (try simp only [Act.put, List.setIfInBounds_toArray, List.set_cons_zero, List.set_cons_succ])); (refine wpAnyE_take (i := 27) (oi := ?_) (v := ?_) ?_ (by kernel_rfl) ?_ ?_ (by assumption) ?_; rotate_left 2; (focus ((simp only [List.getElem?_toArray, List.getElem?_cons_succ, List.getElem?_cons_zero]; exact rfl))); (focus (exact fun _ _ _ h => h)); (focus (refine Or.inl ⟨by rfl, ?_⟩; intro w hSw; (try dsimp only at hSw); (first | (go_simp; done) | (go_simp; with_reducible rfl)))); (try simp only [Act.put, List.setIfInBounds_toArray, List.set_cons_zero, List.set_cons_succ])); (refine wpAnyE_take (i := 28) (oi := ?_) (v := ?_) ?_ (by kernel_rfl) ?_ ?_ (by assumption) ?_; rotate_left 2; (focus ((simp only [List.getElem?_toArray, List.getElem?_cons_succ, List.getElem?_cons_zero]; exact rfl))); (focus (exact fun _ _ _ h => h)); (focus (refine Or.inl ⟨by rfl, ?_⟩; intro w hSw; (try dsimp only at hSw); (first | (go_simp; done) | (go_simp; with_reducible rfl)))); (try simp only [Act.put, List.setIfInBounds_toArray, List.set_cons_zero, List.set_cons_succ])); (refine wpAnyE_take (i := 30) (oi := ?_) (v := ?_) ?_ (by kernel_rfl) ?_ ?_ (by assumption) ?_; rotate_left 2; (focus ((simp only [List.getElem?_toArray, List.getElem?_cons_succ, List.getElem?_cons_zero]; exact rfl))); (focus (exact fun _ _ _ h => h)); (focus (refine Or.inl ⟨by rfl, ?_⟩; intro w hSw; (try dsimp only at hSw); (first | (go_simp; done) | (go_simp; with_reducible rfl)))); (try simp only [Act.put, List.setIfInBounds_toArray, List.set_cons_zero, List.set_cons_succ])); (refine wpAnyE_take (i := 33) (oi := ?_) (v := ?_) ?_ (by kernel_rfl) ?_ ?_ (by assumption) ?_; rotate_left 2; (focus ((simp only [List.getElem?_toArray, List.getElem?_cons_succ, List.getElem?_cons_zero]; exact rfl))); (focus (exact fun _ _ _ h => h)); (focus (refine Or.inl ⟨by rfl, ?_⟩; intro w hSw; (try dsimp only at hSw); (first | (go_simp; done) | (go_simp; with_reducible rfl)))); (try simp only [Act.put, List.setIfInBounds_toArray, List.set_cons_zero, List.set_cons_succ])); (refine wpAnyE_take (i := 34) (oi := ?_) (v := ?_) ?_ (by kernel_rfl) ?_ ?_ (by assumption) ?_; rotate_left 2; (focus ((simp only [List.getElem?_toArray, List.getElem?_cons_succ, List.getElem?_cons_zero]; exact rfl))); (focus (exact fun _ _ _ h => h)); (focus (refine Or.inl ⟨by rfl, ?_⟩; intro w hSw; (try dsimp only at hSw); (first | (go_simp; done) | (go_simp; with_reducible rfl)))); (try simp only [Act.put, List.setIfInBounds_toArray, List.set_cons_zero, List.set_cons_succ])); (refine wpAnyE_take (i := 35) (oi := ?_) (v := ?_) ?_ (by kernel_rfl) ?_ ?_ (by assumption) ?_; rotate_left 2; (focus ((simp only [List.getElem?_toArray, List.getElem?_cons_succ, List.getElem?_cons_zero]; exact rfl))); (focus (exact fun _ _ _ h => h)); (focus (refine Or.inl ⟨by rfl, ?_⟩; intro w hSw; (try dsimp only at hSw); (first | (go_simp; done) | (go_simp; with_reducible rfl)))); (try simp only [Act.put, List.setIfInBounds_toArray, List.set_cons_zero, List.set_cons_succ])); (refine wpAnyE_take (i := 36) (oi := ?_) (v := ?_) ?_ (by kernel_rfl) ?_ ?_ (by assumption) ?_; rotate_left 2; (focus ((simp only [List.getElem?_toArray, List.getElem?_cons_succ, List.getElem?_cons_zero]; exact rfl))); (focus (exact fun _ _ _ h => h)); (focus (refine Or.inl ⟨by rfl, ?_⟩; intro w hSw; (try dsimp only at hSw); (first | (go_simp; done) | (go_simp; with_reducible rfl)))); (try simp only [Act.put, List.setIfInBounds_toArray, List.set_cons_zero, List.set_cons_succ])); (refine wpAnyE_take (i := 38) (oi := ?_) (v := ?_) ?_ (by kernel_rfl) ?_ ?_ (by assumption) ?_; rotate_left 2; (focus ((simp only [List.getElem?_toArray, List.getElem?_cons_succ, List.getElem?_cons_zero]; exact rfl))); (focus (exact fun _ _ _ h => h)); (focus (refine Or.inl ⟨by rfl, ?_⟩; intro w hSw; (try dsimp only at hSw); (first | (go_simp; done) | (go_simp; with_reducible rfl)))); (try simp only [Act.put, List.setIfInBounds_toArray, List.set_cons_zero, List.set_cons_succ])); (refine wpAnyE_take (i := 40) (oi := ?_) (v := ?_) ?_ (by kernel_rfl) ?_ ?_ (by assumption) ?_; rotate_left 2; (focus ((simp only [List.getElem?_toArray, List.getElem?_cons_succ, List.getElem?_cons_zero]; exact rfl))); (focus (exact fun _ _ _ h => h)); (focus (refine Or.inl ⟨by rfl, ?_⟩; intro w hSw; (try dsimp only at hSw); (first | (go_simp; done) | (go_simp; with_reducible rfl)))); (try simp only [Act.put, List.setIfInBounds_toArray, List.set_cons_zero, List.set_cons_succ])); (refine wpAnyE_take (i := 41) (oi := ?_) (v := ?_) ?_ (by kernel_rfl) ?_ ?_ (by assumption) ?_; rotate_left 2; (focus ((simp only [List.getElem?_toArray, List.getElem?_cons_succ, List.getElem?_cons_zero]; exact rfl))); (focus (exact fun _ _ _ h => h)); (focus (refine Or.inl ⟨by rfl, ?_⟩; intro w hSw; (try dsimp only at hSw); (first | (go_simp; done) | (go_simp; with_reducible rfl)))); (try simp only [Act.put, List.setIfInBounds_toArray, List.set_cons_zero, List.set_cons_succ])); (refine wpAnyE_take (i := 42) (oi := ?_) (v := ?_) ?_ (by kernel_rfl) ?_ ?_ (by assumption) ?_; rotate_left 2; (focus ((simp only [List.getElem?_toArray, List.getElem?_cons_succ, List.getElem?_cons_zero]; exact rfl))); (focus (exact fun _ _ _ h => h)); (focus (refine Or.inl ⟨by rfl, ?_⟩; intro w hSw; (try dsimp only at hSw); (first | (go_simp; done) | (go_simp; with_reducible rfl)))); (try simp only [Act.put, List.setIfInBounds_toArray, List.set_cons_zero, List.set_cons_succ])); (refine wpAnyE_take (i := 43) (oi := ?_) (v := ?_) ?_ (by kernel_rfl) ?_ ?_ (by assumption) ?_; rotate_left 2; (focus ((simp only [List.getElem?_toArray, List.getElem?_cons_succ, List.getElem?_cons_zero]; exact rfl))); (focus (exact fun _ _ _ h => h)); (focus (refine Or.inl ⟨by rfl, ?_⟩; intro w hSw; (try dsimp only at hSw); (first | (go_simp; done) | (go_simp; with_reducible rfl)))); (try simp only [Act.put, List.setIfInBounds_toArray, List.set_cons_zero, List.set_cons_succ])); (refine wpAnyE_take (i := 45) (oi := ?_) (v := ?_) ?_ (by kernel_rfl) ?_ ?_ (by assumption) ?_; rotate_left 2; (focus ((simp only [List.getElem?_toArray, List.getElem?_cons_succ, List.getElem?_cons_zero]; exact rfl))); (focus (exact fun _ _ _ h => h)); (focus (refine Or.inl ⟨by rfl, ?_⟩; intro w hSw; (try dsimp only at hSw); (first | (go_simp; done) | (go_simp; with_reducible rfl)))); (try simp only [Act.put, List.setIfInBounds_toArray, List.set_cons_zero, List.set_cons_succ])); (refine wpAnyE_take (i := 46) (oi := ?_) (v := ?_) ?_ (by kernel_rfl) ?_ ?_ (by assumption) ?_; rotate_left 2; (focus ((simp only [List.getElem?_toArray, List.getElem?_cons_succ, List.getElem?_cons_zero]; exact rfl))); (focus (exact fun _ _ _ h => h)); (focus (refine Or.inl ⟨by rfl, ?_⟩; intro w hSw; (try dsimp only at hSw); (first | (go_simp; done) | (go_simp; with_reducible rfl)))); (try simp only [Act.put, List.setIfInBounds_toArray, List.set_cons_zero, List.set_cons_succ])); (refine wpAnyE_take (i := 47) (oi := ?_) (v := ?_) ?_ (by kernel_rfl) ?_ ?_ (by assumption) ?_; rotate_left 2; (focus ((simp only [List.getElem?_toArray, List.getElem?_cons_succ, List.getElem?_cons_zero]; exact rfl))); (focus (exact fun _ _ _ h => h)); (focus (refine Or.inl ⟨by rfl, ?_⟩; intro w hSw; (try dsimp only at hSw); (first | (go_simp; done) | (go_simp; with_reducible rfl)))); (try simp only [Act.put, List.setIfInBounds_toArray, List.set_cons_zero, List.set_cons_succ])); (refine wpAnyE_take (i := 51) (oi := ?_) (v := ?_) ?_ (by kernel_rfl) ?_ ?_ (by assumption) ?_; rotate_left 2; (focus ((simp only [List.getElem?_toArray, List.getElem?_cons_succ, List.getElem?_cons_zero]; exact rfl))); (focus (exact fun _ _ _ h => h)); (focus (refine Or.inl ⟨by rfl, ?_⟩; intro w hSw; (try dsimp only at hSw); (first | (go_simp; done) | (go_simp; with_reducible rfl)))); (try simp only [Act.put, List.setIfInBounds_toArray, List.set_cons_zero, List.set_cons_succ])); (refine wpAnyE_take (i := 52) (oi := ?_) (v := ?_) ?_ (by kernel_rfl) ?_ ?_ (by assumption) ?_; rotate_left 2; (focus ((simp only [List.getElem?_toArray, List.getElem?_cons_succ, List.getElem?_cons_zero]; exact rfl))); (focus (exact fun _ _ _ h => h)); (focus (refine Or.inl ⟨by rfl, ?_⟩; intro w hSw; (try dsimp only at hSw); (first | (go_simp; done) | (go_simp; with_reducible rfl)))); (try simp only [Act.put, List.setIfInBounds_toArray, List.set_cons_zero, List.set_cons_succ])); (refine wpAnyE_take (i := 53) (oi := ?_) (v := ?_) ?_ (by kernel_rfl) ?_ ?_ (by assumption) ?_; rotate_left 2; (focus ((simp only [List.getElem?_toArray, List.getElem?_cons_succ, List.getElem?_cons_zero]; exact rfl))); (focus (exact fun _ _ _ h => h)); (focus (refine Or.inl ⟨by rfl, ?_⟩; intro w hSw; (try dsimp only at hSw); (first | (go_simp; done) | (go_simp; with_reducible rfl)))); (try simp only [Act.put, List.setIfInBounds_toArray, List.set_cons_zero, List.set_cons_succ])); (refine wpAnyE_take (i := 54) (oi := ?_) (v := ?_) ?_ (by kernel_rfl) ?_ ?_ (by assumption) ?_; rotate_left 2; (focus ((simp only [List.getElem?_toArray, List.getElem?_cons_succ, List.getElem?_cons_zero]; exact rfl))); (focus (exact fun _ _ _ h => h)); (focus (refine Or.inl ⟨by rfl, ?_⟩; intro w hSw; (try dsimp only at hSw); (first | (go_simp; done) | (go_simp; with_reducible rfl)))); (try simp only [Act.put, List.setIfInBounds_toArray, List.set_cons_zero, List.set_cons_succ])); (refine wpAnyE_take (i := 56) (oi := ?_) (v := ?_) ?_ (by kernel_rfl) ?_ ?_ (by assumption) ?_; rotate_left 2; (focus ((simp only [List.getElem?_toArray, List.getElem?_cons_succ, List.getElem?_cons_zero]; exact rfl))); (focus (exact fun _ _ _ h => h)); (focus (refine Or.inl ⟨by rfl, ?_⟩; intro w hSw; (try dsimp only at hSw); (first | (go_simp; done) | (go_simp; with_reducible rfl)))); (try simp only [Act.put, List.setIfInBounds_toArray, List.set_cons_zero, List.set_cons_succ])); (refine wpAnyE_take (i := 61) (oi := ?_) (v := ?_) ?_ (by kernel_rfl) ?_ ?_ (by assumption) ?_; rotate_left 2; (focus ((simp only [List.getElem?_toArray, List.getElem?_cons_succ, List.getElem?_cons_zero]; exact rfl))); (focus (exact fun _ _ _ h => h)); (focus (refine Or.inl ⟨by rfl, ?_⟩; intro w hSw; (try dsimp only at hSw); (first | (go_simp; done) | (go_simp; with_reducible rfl)))); (try simp only [Act.put, List.setIfInBounds_toArray, List.set_cons_zero, List.set_cons_succ])); (refine wpAnyE_take (i := 63) (oi := ?_) (v := ?_) ?_ (by kernel_rfl) ?_ ?_ (by assumption) ?_; rotate_left 2; (focus ((simp only [List.getElem?_toArray, List.getElem?_cons_succ, List.getElem?_cons_zero]; exact rfl))); (focus (exact fun _ _ _ h => h)); (focus (refine Or.inl ⟨by rfl, ?_⟩; intro w hSw; (try dsimp only at hSw); (first | (go_simp; done) | (go_simp; with_reducible rfl)))); (try simp only [Act.put, List.setIfInBounds_toArray, List.set_cons_zero, List.set_cons_succ])); (refine wpAnyE_take (i := 64) (oi := ?_) (v := ?_) ?_ (by kernel_rfl) ?_ ?_ (by assumption) ?_; rotate_left 2; (focus ((simp only [List.getElem?_toArray, List.getElem?_cons_succ, List.getElem?_cons_zero]; exact rfl))); (focus (exact fun _ _ _ h => h)); (focus (refine Or.inl ⟨by rfl, ?_⟩; intro w hSw; (try dsimp only at hSw); (first | (go_simp; done) | (go_simp; with_reducible rfl)))); (try simp only [Act.put, List.setIfInBounds_toArray, List.set_cons_zero, List.set_cons_succ])); (refine wpAnyE_take (i := 65) (oi := ?_) (v := ?_) ?_ (by kernel_rfl) ?_ ?_ (by assumption) ?_; rotate_left 2; (focus ((simp only [List.getElem?_toArray, List.getElem?_cons_succ, List.getElem?_cons_zero]; exact rfl))); (focus (exact fun _ _ _ h => h)); (focus (refine Or.inl ⟨by rfl, ?_⟩; intro w hSw; (try dsimp only at hSw); (first | (go_simp; done) | (go_simp; with_reducible rfl)))); (try simp only [Act.put, List.setIfInBounds_toArray, List.set_cons_zero, List.set_cons_succ])); (refine wpAnyE_take (i := 66) (oi := ?_) (v := ?_) ?_ (by kernel_rfl) ?_ ?_ (by assumption) ?_; rotate_left 2; (focus ((simp only [List.getElem?_toArray, List.getElem?_cons_succ, List.getElem?_cons_zero]; exact rfl))); (focus (exact fun _ _ _ h => h)); (focus (refine Or.inl ⟨by rfl, ?_⟩; intro w hSw; (try dsimp only at hSw); (first | (go_simp; done) | (go_simp; with_reducible rfl)))); (try simp only [Act.put, List.setIfInBounds_toArray, List.set_cons_zero, List.set_cons_succ])); (refine wpAnyE_take (i := 72) (oi := ?_) (v := ?_) ?_ (by kernel_rfl) ?_ ?_ (by assumption) ?_; rotate_left 2; (focus ((simp only [List.getElem?_toArray, List.getElem?_cons_succ, List.getElem?_cons_zero]; exact rfl))); (focus (exact fun _ _ _ h => h)); (focus (refine Or.inl ⟨by rfl, ?_⟩; intro w hSw; (try dsimp only at hSw); (first | (go_simp; done) | (go_simp; with_reducible rfl)))); (try simp only [Act.put, List.setIfInBounds_toArray, List.set_cons_zero, List.set_cons_succ])); (refine wpAnyE_take (i := 73) (oi := ?_) (v := ?_) ?_ (by kernel_rfl) ?_ ?_ (by assumption) ?_; rotate_left 2; (focus ((simp only [List.getElem?_toArray, List.getElem?_cons_succ, List.getElem?_cons_zero]; exact rfl))); (focus (exact fun _ _ _ h => h)); (focus (refine Or.inl ⟨by rfl, ?_⟩; intro w hSw; (try dsimp only at hSw); (first | (go_simp; done) | (go_simp; with_reducible rfl)))); (try simp only [Act.put, List.setIfInBounds_toArray, List.set_cons_zero, List.set_cons_succ])); (refine wpAnyE_take (i := 74) (oi := ?_) (v := ?_) ?_ (by kernel_rfl) ?_ ?_ (by assumption) ?_; rotate_left 2; (focus ((simp only [List.getElem?_toArray, List.getElem?_cons_succ, List.getElem?_cons_zero]; exact rfl))); (focus (exact fun _ _ _ h => h)); (focus (refine Or.inl ⟨by rfl, ?_⟩; intro w hSw; (try dsimp only at hSw); (first | (go_simp; done) | (go_simp; with_reducible rfl)))); (try simp only [Act.put, List.setIfInBounds_toArray, List.set_cons_zero, List.set_cons_succ])); (refine wpAnyE_take (i := 75) (oi := ?_) (v := ?_) ?_ (by kernel_rfl) ?_ ?_ (by assumption) ?_; rotate_left 2; (focus ((simp only [List.getElem?_toArray, List.getElem?_cons_succ, List.getElem?_cons_zero]; exact rfl))); (focus (exact fun _ _ _ h => h)); (focus (refine Or.inl ⟨by rfl, ?_⟩; intro w hSw; (try dsimp only at hSw); (first | (go_simp; done) | (go_simp; with_reducible rfl)))); (try simp only [Act.put, List.setIfInBounds_toArray, List.set_cons_zero, List.set_cons_succ])); (refine wpAnyE_take (i := 77) (oi := ?_) (v := ?_) ?_ (by kernel_rfl) ?_ ?_ (by assumption) ?_; rotate_left 2; (focus ((simp only [List.getElem?_toArray, List.getElem?_cons_succ, List.getElem?_cons_zero]; exact rfl))); (focus (exact fun _ _ _ h => h)); (focus (refine Or.inl ⟨by rfl, ?_⟩; intro w hSw; (try dsimp only at hSw); (first | (go_simp; done) | (go_simp; with_reducible rfl)))); (try simp only [Act.put, List.setIfInBounds_toArray, List.set_cons_zero, List.set_cons_succ])); (refine wpAnyE_take (i := 80) (oi := ?_) (v := ?_) ?_ (by kernel_rfl) ?_ ?_ (by assumption) ?_; rotate_left 2; (focus ((simp only [List.getElem?_toArray, List.getElem?_cons_succ, List.getElem?_cons_zero]; exact rfl))); (focus (exact fun _ _ _ h => h)); (focus (refine Or.inl ⟨by rfl, ?_⟩; intro w hSw; (try dsimp only at hSw); (first | (go_simp; done) | (go_simp; with_reducible rfl)))); (try simp only [Act.put, List.setIfInBounds_toArray, List.set_cons_zero, List.set_cons_succ])); (refine wpAnyE_take (i := 81) (oi := ?_) (v := ?_) ?_ (by kernel_rfl) ?_ ?_ (by assumption) ?_; rotate_left 2; (focus ((simp only [List.getElem?_toArray, List.getElem?_cons_succ, List.getElem?_cons_zero]; exact rfl))); (focus (exact fun _ _ _ h => h)); (focus (refine Or.inl ⟨by rfl, ?_⟩; intro w hSw; (try dsimp only at hSw); (first | (go_simp; done) | (go_simp; with_reducible rfl)))); (try simp only [Act.put, List.setIfInBounds_toArray, List.set_cons_zero, List.set_cons_succ])); (refine wpAnyE_take (i := 82) (oi := ?_) (v := ?_) ?_ (by kernel_rfl) ?_ ?_ (by assumption) ?_; rotate_left 2; (focus ((simp only [List.getElem?_toArray, List.getElem?_cons_succ, List.getElem?_cons_zero]; exact rfl))); (focus (exact fun _ _ _ h => h)); (focus (refine Or.inl ⟨by rfl, ?_⟩; intro w hSw; (try dsimp only at hSw); (first | (go_simp; done) | (go_simp; with_reducible rfl)))); (try simp only [Act.put, List.setIfInBounds_toArray, List.set_cons_zero, List.set_cons_succ])); (refine wpAnyE_take (i := 83) (oi := ?_) (v := ?_) ?_ (by kernel_rfl) ?_ ?_ (by assumption) ?_; rotate_left 2; (focus ((simp only [List.getElem?_toArray, List.getElem?_cons_succ, List.getElem?_cons_zero]; exact rfl))); (focus (exact fun _ _ _ h => h)); (focus (refine Or.inl ⟨by rfl, ?_⟩; intro w hSw; (try dsimp only at hSw); (first | (go_simp; done) | (go_simp; with_reducible rfl)))); (try simp only [Act.put, List.setIfInBounds_toArray, List.set_cons_zero, List.set_cons_succ])))
  have HX0 := Lib.hid X0
  have HE := Lib.hid E
  clear X0 E hS
  refine wpAnyE_swap (l := (fun s : Nat => #[true, true, true, decide (0 < s), true, true, true, decide (1 < s), decide (1 < s), true, true, true, decide (2 < s), true, true, true, decide (3 < s), decide (3 < s), true, true, true, true, true, decide (4 < s), decide (5 < s), true, true, true, true, decide (6 < s), true, decide (7 < s), decide (7 < s), true, true, true, true, decide (8 < s), true, decide (9 < s), true, true, true, true, decide (10 < s), true, true, true, decide (11 < s), decide (12 < s), decide (12 < s), true, true, true, true, decide (13 < s), true, decide (14 < s), decide (14 < s), decide (14 < s), decide (15 < s), true, decide (15 < s), true, true, true, true, false, false, false, false, false, true, true, true, true, false, true, false, false, true, true, true, true, false, false, false, false, false, false, false, false]) 0) (by kernel_rfl) ?_
  refine chain_float 16 (fun s => ([38, 37, 35, 34, 32, 31, 30, 29, 27, 26, 25, 24, 23, 21, 20, 17, 15] : List Nat).getD s 0) (fun s => ([39, 38, 36, 35, 33, 32, 31, 30, 28, 27, 26, 25, 24, 22, 21, 18, 16] : List Nat).getD s 0) (fun s : Nat => #[true, true, true, decide (0 < s), true, true, true, decide (1 < s), decide (1 < s), true, true, true, decide (2 < s), true, true, true, decide (3 < s), decide (3 < s), true, true, true, true, true, decide (4 < s), decide (5 < s), true, true, true, true, decide (6 < s), true, decide (7 < s), decide (7 < s), true, true, true, true, decide (8 < s), true, decide (9 < s), true, true, true, true, decide (10 < s), true, true, true, decide (11 < s), decide (12 < s), decide (12 < s), true, true, true, true, decide (13 < s), true, decide (14 < s), decide (14 < s), decide (14 < s), decide (15 < s), true, decide (15 < s), true, true, true, true, true, false, false, false, false, true, true, true, true, false, true, false, false, true, true, true, true, false, false, false, false, false, false, false, false]) (fun s : Nat => #[true, true, true, decide (0 < s), true, true, true, decide (1 < s), decide (1 < s), true, true, true, decide (2 < s), true, true, true, decide (3 < s), decide (3 < s), true, true, true, true, true, decide (4 < s), decide (5 < s), true, true, true, true, decide (6 < s), true, decide (7 < s), decide (7 < s), true, true, true, true, decide (8 < s), true, decide (9 < s), true, true, true, true, decide (10 < s), true, true, true, decide (11 < s), decide (12 < s), decide (12 < s), true, true, true, true, decide (13 < s), true, decide (14 < s), decide (14 < s), decide (14 < s), decide (15 < s), true, decide (15 < s), true, true, true, true, false, false, false, false, false, true, true, true, true, false, true, false, false, true, true, true, true, false, false, false, false, false, false, false, false]) (fun (s : Nat) (g : Nat) => ({ tmps := #[txt a, txt b, txt c, undef, undef, undef, Value.bool false, Value.pointer (some ⟨q, 0, none⟩), Value.func (Fn.func 41) #[] #[Value.pointer (some ⟨q, 0, none⟩)], Value.func (Fn.func 43) #[] #[Value.pointer (some ⟨q, 0, none⟩)], undef, undef, undef, undef, undef, txt a, txt b, txt c, Value.slice (some ⟨w.heap.size, 0, none⟩) 3 3, Value.bool true, Value.bool false, undef, Value.agg #[Value.bool true], Value.pointer (some ⟨p, 0, none⟩), Value.func (Fn.func 41) #[] #[Value.pointer (some ⟨q, 0, none⟩)], Value.func (Fn.func 43) #[] #[Value.pointer (some ⟨q, 0, none⟩)], Value.func (Fn.func 41) #[] #[Value.pointer (some ⟨q, 0, none⟩)], txt b, txt a, rs s 0 (txt ab), Value.func (Fn.func 41) #[] #[Value.pointer (some ⟨q, 0, none⟩)], txt a, txt b, rs s 1 (txt ab), rs s 1 (.agg #[txt ab, txt ab]), Value.func (Fn.func 43) #[] #[Value.pointer (some ⟨q, 0, none⟩)], txt b, txt a, rs s 2 (txt mab), Value.func (Fn.func 43) #[] #[Value.pointer (some ⟨q, 0, none⟩)], txt a, txt b, rs s 3 (txt mab), rs s 3 (.agg #[txt mab, txt mab]), Value.func (Fn.func 41) #[] #[Value.pointer (some ⟨q, 0, none⟩)], txt a, Value.func (Fn.func 41) #[] #[Value.pointer (some ⟨q, 0, none⟩)], txt b, txt c, rs s 4 (txt bc), rs s 5 (txt abc), Value.func (Fn.func 41) #[] #[Value.pointer (some ⟨q, 0, none⟩)], Value.func (Fn.func 41) #[] #[Value.pointer (some ⟨q, 0, none⟩)], txt a, txt b, rs s 6 (txt ab), txt c, rs s 7 (txt abc), rs s 7 (.agg #[txt abc, txt abc]), Value.func (Fn.func 43) #[] #[Value.pointer (some ⟨q, 0, none⟩)], Value.func (Fn.func 41) #[] #[Value.pointer (some ⟨q, 0, none⟩)], txt a, txt b, rs s 8 (txt ab), txt c, rs s 9 (txt X), Value.func (Fn.func 41) #[] #[Value.pointer (some ⟨q, 0, none⟩)], Value.func (Fn.func 43) #[] #[Value.pointer (some ⟨q, 0, none⟩)], txt a, txt c, rs s 10 (txt acm), Value.func (Fn.func 43) #[] #[Value.pointer (some ⟨q, 0, none⟩)], txt b, txt c, rs s 11 (txt bcm), rs s 12 (txt X), rs s 12 (.agg #[txt X, txt X]), Value.pointer (some ⟨p, 0, none⟩), Value.func (Fn.func 41) #[] #[Value.pointer (some ⟨q, 0, none⟩)], txt a, txt c, rs s 13 (txt ac), txt c, rs s 14 (.tuple #[txt a, .int .i64 0]), rs s 14 (txt a), rs s 14 (.int .i64 0), rs s 15 (txt a), txt a, rs s 15 (.agg #[txt a, txt a]), Value.pointer (some ⟨p, 0, none⟩), txt c, txt b, txt a, .slice (some ⟨g, 0, none⟩) 3 3, undef, undef, undef, undef, Value.func (Fn.func 41) #[] #[Value.pointer (some ⟨q, 0, none⟩)], Value.func (Fn.func 41) #[] #[Value.pointer (some ⟨q, 0, none⟩)], txt a, txt b, undef, txt c, undef, undef, Value.func (Fn.func 41) #[] #[Value.pointer (some ⟨q, 0, none⟩)], txt b, Value.pointer (some ⟨p, 0, none⟩), txt b, undef, undef, undef, undef, undef, undef, undef, undef, undef, undef, undef, undef, undef, undef, undef, undef, undef, undef, undef, undef, undef, undef, undef, undef, undef, undef, undef, undef, undef, undef, undef, undef, undef, undef, undef, undef, undef, undef, undef, undef, undef, undef, undef, undef, undef, undef, undef, undef, undef, undef, undef, undef, undef, undef, undef, undef, undef], defers := [] } : Act)) (fun s : Nat => ({ tmps := #[txt a, txt b, txt c, undef, undef, undef, Value.bool false, Value.pointer (some ⟨q, 0, none⟩), Value.func (Fn.func 41) #[] #[Value.pointer (some ⟨q, 0, none⟩)], Value.func (Fn.func 43) #[] #[Value.pointer (some ⟨q, 0, none⟩)], undef, undef, undef, undef, undef, txt a, txt b, txt c, Value.slice (some ⟨w.heap.size, 0, none⟩) 3 3, Value.bool true, Value.bool false, undef, Value.agg #[Value.bool true], Value.pointer (some ⟨p, 0, none⟩), Value.func (Fn.func 41) #[] #[Value.pointer (some ⟨q, 0, none⟩)], Value.func (Fn.func 43) #[] #[Value.pointer (some ⟨q, 0, none⟩)], Value.func (Fn.func 41) #[] #[Value.pointer (some ⟨q, 0, none⟩)], txt b, txt a, rs s 0 (txt ab), Value.func (Fn.func 41) #[] #[Value.pointer (some ⟨q, 0, none⟩)], txt a, txt b, rs s 1 (txt ab), rs s 1 (.agg #[txt ab, txt ab]), Value.func (Fn.func 43) #[] #[Value.pointer (some ⟨q, 0, none⟩)], txt b, txt a, rs s 2 (txt mab), Value.func (Fn.func 43) #[] #[Value.pointer (some ⟨q, 0, none⟩)], txt a, txt b, rs s 3 (txt mab), rs s 3 (.agg #[txt mab, txt mab]), Value.func (Fn.func 41) #[] #[Value.pointer (some ⟨q, 0, none⟩)], txt a, Value.func (Fn.func 41) #[] #[Value.pointer (some ⟨q, 0, none⟩)], txt b, txt c, rs s 4 (txt bc), rs s 5 (txt abc), Value.func (Fn.func 41) #[] #[Value.pointer (some ⟨q, 0, none⟩)], Value.func (Fn.func 41) #[] #[Value.pointer (some ⟨q, 0, none⟩)], txt a, txt b, rs s 6 (txt ab), txt c, rs s 7 (txt abc), rs s 7 (.agg #[txt abc, txt abc]), Value.func (Fn.func 43) #[] #[Value.pointer (some ⟨q, 0, none⟩)], Value.func (Fn.func 41) #[] #[Value.pointer (some ⟨q, 0, none⟩)], txt a, txt b, rs s 8 (txt ab), txt c, rs s 9 (txt X), Value.func (Fn.func 41) #[] #[Value.pointer (some ⟨q, 0, none⟩)], Value.func (Fn.func 43) #[] #[Value.pointer (some ⟨q, 0, none⟩)], txt a, txt c, rs s 10 (txt acm), Value.func (Fn.func 43) #[] #[Value.pointer (some ⟨q, 0, none⟩)], txt b, txt c, rs s 11 (txt bcm), rs s 12 (txt X), rs s 12 (.agg #[txt X, txt X]), Value.pointer (some ⟨p, 0, none⟩), Value.func (Fn.func 41) #[] #[Value.pointer (some ⟨q, 0, none⟩)], txt a, txt c, rs s 13 (txt ac), txt c, rs s 14 (.tuple #[txt a, .int .i64 0]), rs s 14 (txt a), rs s 14 (.int .i64 0), rs s 15 (txt a), txt a, rs s 15 (.agg #[txt a, txt a]), Value.pointer (some ⟨p, 0, none⟩), txt c, txt b, txt a, undef, undef, undef, undef, undef, Value.func (Fn.func 41) #[] #[Value.pointer (some ⟨q, 0, none⟩)], Value.func (Fn.func 41) #[] #[Value.pointer (some ⟨q, 0, none⟩)], txt a, txt b, undef, txt c, undef, undef, Value.func (Fn.func 41) #[] #[Value.pointer (some ⟨q, 0, none⟩)], txt b, Value.pointer (some ⟨p, 0, none⟩), txt b, undef, undef, undef, undef, undef, undef, undef, undef, undef, undef, undef, undef, undef, undef, undef, undef, undef, undef, undef, undef, undef, undef, undef, undef, undef, undef, undef, undef, undef, undef, undef, undef, undef, undef, undef, undef, undef, undef, undef, undef, undef, undef, undef, undef, undef, undef, undef, undef, undef, undef, undef, undef, undef, undef, undef, undef, undef], defers := [] } : Act)) (fun W => Ext V0 W ∧ SumsOk p q W) (fun g W => CellsT W (some ⟨g, 0, none⟩) [c, b, a]) ?_ ?_ ?_ V0 ⟨Ext.refl _, HX0.out⟩
  case refine_1 =>
    intro g W hJ hJA
    dsimp only [List.getD_cons_zero, List.getD_cons_succ]; simp only [rs, Nat.reduceLT, if_true, decide_true]
    have EV := hJ.1
    have XV := hJ.2
    have hh := HSM.out W g (HE.out.trans EV) hJA
    clear hJ hJA
    (refine wpAnyE_one (i := 68) (o := ?_) ?_ (by kernel_rfl) (fun K hK => ?_); rotate_left; (focus ((simp only [List.getElem?_toArray, List.getElem?_cons_succ, List.getElem?_cons_zero]; exact rfl))); go_simp; go_at_call 27; refine hh.mono ?_; rintro e W1 ⟨rfl, hE⟩; go_wp2_with fail; refine hK.out _ _ ?_ (fun hHeld => ?_); rotate_left; clear hK K; (try simp only [List.setIfInBounds_toArray, List.set_cons_zero, List.set_cons_succ]))
    rotate_left
    · exact (XV.ext hE).at_
    replace EV := EV.trans hE
    replace XV := XV.ext hE
    clear hh hE hHeld
    have hSn := XV.at_
    ((refine wpAnyE_pure (i := 69) (oi := ?_) (v := ?_) ?_ (by kernel_rfl) ?_ ?_ ?_ ?_; rotate_left 2; (focus ((simp only [List.getElem?_toArray, List.getElem?_cons_succ, List.getElem?_cons_zero]; exact rfl))); (focus (exact fun _ _ _ h => h)); (focus (refine Or.inl ⟨by rfl, ?_⟩; intro w hSw; clear hSw; (first | (go_simp; done) | (go_simp; with_reducible rfl)))); (focus (first | exact (fun _ => by assumption) | (intro hlst; exact absurd hlst (by kernel_rfl)) | (intro hlst; cases hlst))); (try simp only [Act.put, List.setIfInBounds_toArray, List.set_cons_zero, List.set_cons_succ])); (refine wpAnyE_pure (i := 70) (oi := ?_) (v := ?_) ?_ (by kernel_rfl) ?_ ?_ ?_ ?_; rotate_left 2; (focus ((simp only [List.getElem?_toArray, List.getElem?_cons_succ, List.getElem?_cons_zero]; exact rfl))); (focus (exact fun _ _ _ h => h)); (focus (refine Or.inl ⟨by rfl, ?_⟩; intro w hSw; clear hSw; (first | (go_simp; done) | (go_simp; with_reducible rfl)))); (focus (first | exact (fun _ => by assumption) | (intro hlst; exact absurd hlst (by kernel_rfl)) | (intro hlst; cases hlst))); (try simp only [Act.put, List.setIfInBounds_toArray, List.set_cons_zero, List.set_cons_succ])))
    have hh := of_ok abc p q W1 XV
    clear hSn
    (refine wpAnyE_one (i := 71) (o := ?_) ?_ (by kernel_rfl) (fun K hK => ?_); rotate_left; (focus ((simp only [List.getElem?_toArray, List.getElem?_cons_succ, List.getElem?_cons_zero]; exact rfl))); go_simp; go_at_call 42; refine hh.mono ?_; rintro e W2 ⟨rfl, hE⟩; go_wp2_with fail; refine hK.out _ _ ?_ (fun hHeld => ?_); rotate_left; clear hK K; (try simp only [List.setIfInBounds_toArray, List.set_cons_zero, List.set_cons_succ]))
    rotate_left
    · exact (XV.ext hE).at_
    replace EV := EV.trans hE
    replace XV := XV.ext hE
    clear hh hE hHeld
    have hSn := XV.at_
    have hh := HCA.out a b ab p q HL.out.e2 (HLN.out _ (by simp)) (HLN.out _ (by simp)) W2 (HE.out.trans EV) XV
    clear hSn
    (refine wpAnyE_one (i := 76) (o := ?_) ?_ (by kernel_rfl) (fun K hK => ?_); rotate_left; (focus ((simp only [List.getElem?_toArray, List.getElem?_cons_succ, List.getElem?_cons_zero]; exact rfl))); go_simp; go_at_call 41; refine hh.mono ?_; rintro e W3 ⟨rfl, hE⟩; go_wp2_with fail; refine hK.out _ _ ?_ (fun hHeld => ?_); rotate_left; clear hK K; (try simp only [List.setIfInBounds_toArray, List.set_cons_zero, List.set_cons_succ]))
    rotate_left
    · exact (XV.ext hE).at_
    replace EV := EV.trans hE
    replace XV := XV.ext hE
    clear hh hE hHeld
    have hSn := XV.at_
    have hh := HCA.out ab c abc p q HL.out.e7 (HLN.out _ (by simp)) (HLN.out _ (by simp)) W3 (HE.out.trans EV) XV
    clear hSn
    (refine wpAnyE_one (i := 78) (o := ?_) ?_ (by kernel_rfl) (fun K hK => ?_); rotate_left; (focus ((simp only [List.getElem?_toArray, List.getElem?_cons_succ, List.getElem?_cons_zero]; exact rfl))); go_simp; go_at_call 41; refine hh.mono ?_; rintro e W4 ⟨rfl, hE⟩; go_wp2_with fail; refine hK.out _ _ ?_ (fun hHeld => ?_); rotate_left; clear hK K; (try simp only [List.setIfInBounds_toArray, List.set_cons_zero, List.set_cons_succ]))
    rotate_left
    · exact (XV.ext hE).at_
    replace EV := EV.trans hE
    replace XV := XV.ext hE
    clear hh hE hHeld
    have hSn := XV.at_
    ((refine wpAnyE_pure (i := 79) (oi := ?_) (v := ?_) ?_ (by kernel_rfl) ?_ ?_ ?_ ?_; rotate_left 2; (focus ((simp only [List.getElem?_toArray, List.getElem?_cons_succ, List.getElem?_cons_zero]; exact rfl))); (focus (exact fun _ _ _ h => h)); (focus (refine Or.inl ⟨by rfl, ?_⟩; intro w hSw; clear hSw; (first | (go_simp; done) | (go_simp; with_reducible rfl)))); (focus (first | exact (fun _ => by assumption) | (intro hlst; exact absurd hlst (by kernel_rfl)) | (intro hlst; cases hlst))); (try simp only [Act.put, List.setIfInBounds_toArray, List.set_cons_zero, List.set_cons_succ])))
    have hh := HNG.out W4 (HE.out.trans EV)
    clear hSn
    (refine wpAnyE_one (i := 84) (o := ?_) ?_ (by kernel_rfl) (fun K hK => ?_); rotate_left; (focus ((simp only [List.getElem?_toArray, List.getElem?_cons_succ, List.getElem?_cons_zero]; exact rfl))); go_simp; go_at_call 20; refine hh.mono ?_; rintro e W5 ⟨rfl, hE⟩; go_wp2_with fail; refine hK.out _ _ ?_ (fun hHeld => ?_); rotate_left; clear hK K; (try simp only [List.setIfInBounds_toArray, List.set_cons_zero, List.set_cons_succ]))
    rotate_left
    · exact (XV.ext hE).at_
    replace EV := EV.trans hE
    replace XV := XV.ext hE
    clear hh hE hHeld
    have hSn := XV.at_
    ((refine wpAnyE_pure (i := 85) (oi := ?_) (v := ?_) ?_ (by kernel_rfl) ?_ ?_ ?_ ?_; rotate_left 2; (focus ((simp only [List.getElem?_toArray, List.getElem?_cons_succ, List.getElem?_cons_zero]; exact rfl))); (focus (exact fun _ _ _ h => h)); (focus (refine Or.inl ⟨by rfl, ?_⟩; intro w hSw; clear hSw; (first | (go_simp; done) | (go_simp; with_reducible rfl)))); (focus (first | exact (fun _ => by assumption) | (intro hlst; exact absurd hlst (by kernel_rfl)) | (intro hlst; cases hlst))); (try simp only [Act.put, List.setIfInBounds_toArray, List.set_cons_zero, List.set_cons_succ])); (refine wpAnyE_pure (i := 86) (oi := ?_) (v := ?_) ?_ (by kernel_rfl) ?_ ?_ ?_ ?_; rotate_left 2; (focus ((simp only [List.getElem?_toArray, List.getElem?_cons_succ, List.getElem?_cons_zero]; exact rfl))); (focus (exact fun _ _ _ h => h)); (focus (refine Or.inl ⟨by rfl, ?_⟩; intro w hSw; clear hSw; (first | (go_simp; done) | (go_simp; with_reducible rfl)))); (focus (first | exact (fun _ => by assumption) | (intro hlst; exact absurd hlst (by kernel_rfl)) | (intro hlst; cases hlst))); (try simp only [Act.put, List.setIfInBounds_toArray, List.set_cons_zero, List.set_cons_succ])))
    have hh := of_ok nb p q W5 XV
    clear hSn
    (refine wpAnyE_one (i := 87) (o := ?_) ?_ (by kernel_rfl) (fun K hK => ?_); rotate_left; (focus ((simp only [List.getElem?_toArray, List.getElem?_cons_succ, List.getElem?_cons_zero]; exact rfl))); go_simp; go_at_call 42; refine hh.mono ?_; rintro e W6 ⟨rfl, hE⟩; go_wp2_with fail; refine hK.out _ _ ?_ (fun hHeld => ?_); rotate_left; clear hK K; (try simp only [List.setIfInBounds_toArray, List.set_cons_zero, List.set_cons_succ]))
    rotate_left
    · exact (XV.ext hE).at_
    replace EV := EV.trans hE
    replace XV := XV.ext hE
    clear hh hE hHeld
    have hSn := XV.at_
    have hh := (show Calls Tryz.prog 41 #[txt b, txt nb, .pointer (some ⟨q, 0, none⟩)] W6 (fun e w' => e = .returned (.string ⟨#[48]⟩) ∧ Ext W6 w') from HCA.out b nb [48] p q HL.out.e16 (HLN.out _ (by simp)) (HLN.out _ (by simp)) W6 (HE.out.trans EV) XV)
    clear hSn
    (refine wpAnyE_one (i := 88) (o := ?_) ?_ (by kernel_rfl) (fun K hK => ?_); rotate_left; (focus ((simp only [List.getElem?_toArray, List.getElem?_cons_succ, List.getElem?_cons_zero]; exact rfl))); go_simp; go_at_call 41; refine hh.mono ?_; rintro e u ⟨rfl, hE⟩; go_wp2_with fail; refine hK.out _ _ ?_ (fun hHeld => ?_); rotate_left; clear hK K; (try simp only [List.setIfInBounds_toArray, List.set_cons_zero, List.set_cons_succ]))
    rotate_left
    · exact (XV.ext hE).at_
    replace EV := EV.trans hE
    replace XV := XV.ext hE
    clear hh hE hHeld
    have hSn := XV.at_
    ((refine wpAnyE_pure (i := 89) (oi := ?_) (v := ?_) ?_ (by kernel_rfl) ?_ ?_ ?_ ?_; rotate_left 2; (focus ((simp only [List.getElem?_toArray, List.getElem?_cons_succ, List.getElem?_cons_zero]; exact rfl))); (focus (exact fun _ _ _ h => h)); (focus (refine Or.inl ⟨by rfl, ?_⟩; intro w hSw; clear hSw; (first | (go_simp; done) | (go_simp; with_reducible rfl)))); (focus (first | exact (fun _ => by assumption) | (intro hlst; exact absurd hlst (by kernel_rfl)) | (intro hlst; cases hlst))); (try simp only [Act.put, List.setIfInBounds_toArray, List.set_cons_zero, List.set_cons_succ])))
    clear hSn
    have HO0 := own_new u [ab, mab, abc, X, a, abc, [48]] 7 rfl (by unfold maxLen; omega)
    have E7 : Ext u (u.alloc (.cells #[txt ab, txt ab, txt mab, txt mab, txt abc, txt abc, txt X, txt X, txt a, txt a, txt abc, txt abc, .string ⟨#[48]⟩, .string ⟨#[48]⟩] 58)) := (by repeat (first | with_reducible exact Ext.refl _ | with_reducible assumption | with_reducible apply Ext.drewN | with_reducible apply Ext.drew | with_reducible apply Ext.alloc | ((with_reducible refine Ext.set ?_ ?_ _); rotate_left; first | omega | (simp; omega)) | (with_reducible refine Ext.trans ?_ (by with_reducible assumption))))
    have HO : Hid (OwnPr (u.alloc (.cells #[txt ab, txt ab, txt mab, txt mab, txt abc, txt abc, txt X, txt X, txt a, txt a, txt abc, txt abc, .string ⟨#[48]⟩, .string ⟨#[48]⟩] 58)) (.slice (some ⟨u.heap.size, 0, none⟩) 7 7) [ab, mab, abc, X, a, abc, [48]]) := HO0
    have XU := Lib.hid XV
    have EU := Lib.hid (HE.out.trans EV)
    clear HO0 EV XV
    (refine wpAnyE_one (i := 90) (o := ?_) ?_ (by kernel_rfl) (fun K hK => ?_); rotate_left; (focus ((simp only [List.getElem?_toArray, List.getElem?_cons_succ, List.getElem?_cons_zero]; exact rfl))); go_simp; refine hK.out _ _ ?_ (fun hHeld => ?_); rotate_left; clear hK K; (try simp only [List.setIfInBounds_toArray, List.set_cons_zero, List.set_cons_succ]))
    rotate_left
    · exact (XU.out.ext E7).at_
    have hSn := (XU.out.ext E7).at_
    (refine wpAnyE_pure (i := 91) (oi := ?_) (v := ?_) ?_ (by kernel_rfl) ?_ ?_ ?_ ?_; rotate_left 2; (focus ((simp only [List.getElem?_toArray, List.getElem?_cons_succ, List.getElem?_cons_zero]; exact rfl))); (focus (exact fun _ _ _ h => h)); (focus (refine Or.inl ⟨by rfl, ?_⟩; intro w hSw; clear hSw; (first | (go_simp; done) | (go_simp; with_reducible rfl)))); (focus (first | exact (fun _ => by assumption) | (intro hlst; exact absurd hlst (by kernel_rfl)) | (intro hlst; cases hlst))); (try simp only [Act.put, List.setIfInBounds_toArray, List.set_cons_zero, List.set_cons_succ]))
    clear hSn hHeld
    refine wpAnyE_done (by kernel_rfl) ?_ _
    have X7 := XU.out.ext E7
    have E := EU.out.trans E7
    by_cases hc0 : c = [48]
    · have hcz : (c == [48]) = true := by rw [hc0]; rfl
      have HDV := Lib.hid (HDZ.out hc0)
      clear hc0 HDZ HDN
      obtain ⟨g2, cap, hv, hzs0⟩ := HO.out.reads (by simp)
      simp only [Value.slice.injEq, Option.some.injEq, Addr.mk.injEq] at hv
      obtain ⟨⟨rfl, _⟩, _, rfl⟩ := hv
      have HZ0 := Lib.hid hzs0
      clear hzs0 HO
      generalize (u.alloc (.cells #[txt ab, txt ab, txt mab, txt mab, txt abc, txt abc, txt X, txt X, txt a, txt a, txt abc, txt abc, .string ⟨#[48]⟩, .string ⟨#[48]⟩] 58)) = W8 at X7 E HZ0 ⊢
      clear E7
      go_wp2_with (go_at_call 35; refine (HDV.out _ E).mono ?_; rintro e w4 ⟨rfl, h⟩)
      have HZ : Hid (∀ k, k < ([ab, mab, abc, X, a, abc, [48]] : List Txt).length → w4.cell? ⟨u.heap.size, k * 2, none⟩ = some (txt (([ab, mab, abc, X, a, abc, [48]] : List Txt).getD k [])) ∧ w4.cell? ⟨u.heap.size, k * 2 + 1, none⟩ = some (txt (([ab, mab, abc, X, a, abc, [48]] : List Txt).getD k []))) := fun k hk => ⟨h.cell (HZ0.out k hk).1, h.cell (HZ0.out k hk).2⟩
      replace X7 := X7.ext h
      replace E := E.trans h
      clear h HZ0
      have HZ2 : Hid (∀ z ∈ ([ab, mab, abc, X, a, abc, [48]] : List Txt), z ∈ [a, b, c, ab, mab, bc, abc, X, acm, bcm, ac, nb, [48]]) := fun z hz => by
        simp only [List.mem_cons, List.mem_nil_iff, or_false] at hz ⊢
        rcases hz with rfl | rfl | rfl | rfl | rfl | rfl | rfl <;> simp
      obtain ⟨zs, hzs⟩ : ∃ zs, zs = ([ab, mab, abc, X, a, abc, [48]] : List Txt) := ⟨_, rfl⟩
      rw [← hzs] at HZ HZ2
      have hzl : zs.length = 7 := by rw [hzs]; rfl
      clear hzs
      obtain ⟨x0, xf, xq⟩ := X7
      clear xf
      go_loopw [144] (fun i wr => ∃ k : Nat, k ≤ 7 ∧ i = .int .i64 k ∧ Ext w4 wr) (fun i _ => 7 - (intOf i).toNat)
      case atStart => exact ⟨0, by omega, rfl, Ext.refl _⟩
      case round =>
        obtain ⟨k, hk, rfl, he⟩ := hrel
        by_cases hlt : k < 7
        · have hki : (k : Int) < 7 := by omega
          obtain ⟨z1, z2⟩ := HZ.out k (by omega)
          replace z1 := he.cell z1
          replace z2 := he.cell z2
          have hck := HCK.out _ (HZ2.out _ (mem_txt (l := zs) (k := k) (by omega)))
          generalize zs.getD k [] = z at *
          have hzz : (z != z) = false := bne_self_eq_false _
          have HCZ := Lib.hid (fun W (hW : Ext wr W) => hck W ((E.trans he).trans hW))
          clear hck
          go_wp2_with (go_at_call 44; refine (HCZ.out _ (by repeat (first | with_reducible exact Ext.refl _ | with_reducible assumption | with_reducible apply Ext.drewN | with_reducible apply Ext.drew | with_reducible apply Ext.alloc | ((with_reducible refine Ext.set ?_ ?_ _); rotate_left; first | omega | (simp; omega)) | (with_reducible refine Ext.trans ?_ (by with_reducible assumption))))).mono ?_; rintro e w5 ⟨rfl, hE⟩)
          refine ⟨⟨k + 1, by omega, by go_num, he.trans (Ext.trans ((Ext.refl _).alloc _) hE)⟩, by simp [intOf]; omega⟩
        · have hki : ¬ (k : Int) < 7 := by omega
          have c0 := he.cell x0
          have cq := he.cell xq
          have E9 := E.trans he
          go_wp2_with (go_at_call 13; refine (HA.out _ E9).mono ?_; rintro e w9 ⟨rfl, h⟩)
          go_ret
          exact ⟨rfl, E9.trans h⟩
    · have hcz : (c == [48]) = false := by rw [beq_eq_false_iff_ne]; exact hc0
      have HDV := Lib.hid (HDN.out hc0)
      clear hc0 HDZ HDN
      go_wp2_with fail
      generalize (u.alloc (.cells #[txt ab, txt ab, txt mab, txt mab, txt abc, txt abc, txt X, txt X, txt a, txt a, txt abc, txt abc, .string ⟨#[48]⟩, .string ⟨#[48]⟩] 58)) = W8 at X7 E HO E7 ⊢
      have hdr : Ext W8 W8.drew := (by repeat (first | with_reducible exact Ext.refl _ | with_reducible assumption | with_reducible apply Ext.drewN | with_reducible apply Ext.drew | with_reducible apply Ext.alloc | ((with_reducible refine Ext.set ?_ ?_ _); rotate_left; first | omega | (simp; omega)) | (with_reducible refine Ext.trans ?_ (by with_reducible assumption))))
      replace X7 := X7.ext hdr
      replace E7 := E7.trans hdr
      replace HO := Lib.hid (HO.out.ext hdr)
      have hSn := X7.at_
      clear E
      refine wp_region_heldE 99 (fun w' => w'.cell? ⟨q, 0, none⟩ = some (.pointer (some ⟨p, 0, none⟩))) (by kernel_rfl) ?_
      clear hdr
      generalize W8.drew = W8 at X7 E7 HO hSn ⊢
      have hS := hSn
      ((refine wpAnyE_take (i := 0) (oi := ?_) (v := ?_) ?_ (by kernel_rfl) ?_ ?_ (by assumption) ?_; rotate_left 2; (focus ((simp only [List.getElem?_toArray, List.getElem?_cons_zero]; exact rfl))); (focus (exact fun _ _ _ h => h)); (focus (refine Or.inl ⟨by rfl, ?_⟩; intro w hSw; (try dsimp only at hSw); (first | (go_simp; done) | (go_simp; with_reducible rfl)))); (try simp only [Act.put, List.setIfInBounds_toArray, List.set_cons_zero, List.set_cons_succ])); (refine wpAnyE_take (i := 1) (oi := ?_) (v := ?_) ?_ (by kernel_rfl) ?_ ?_ (by assumption) ?_; rotate_left 2; (focus ((simp only [List.getElem?_toArray, List.getElem?_cons_succ, List.getElem?_cons_zero]; exact rfl))); (focus (exact fun _ _ _ h => h)); (focus (refine Or.inl ⟨by rfl, ?_⟩; intro w hSw; (try dsimp only at hSw); (first | (go_simp; done) | (go_simp; with_reducible rfl)))); (try simp only [Act.put, List.setIfInBounds_toArray, List.set_cons_zero, List.set_cons_succ])); (refine wpAnyE_take (i := 2) (oi := ?_) (v := ?_) ?_ (by kernel_rfl) ?_ ?_ (by assumption) ?_; rotate_left 2; (focus ((simp only [List.getElem?_toArray, List.getElem?_cons_succ, List.getElem?_cons_zero]; exact rfl))); (focus (exact fun _ _ _ h => h)); (focus (refine Or.inl ⟨by rfl, ?_⟩; intro w hSw; (try dsimp only at hSw); (first | (go_simp; done) | (go_simp; with_reducible rfl)))); (try simp only [Act.put, List.setIfInBounds_toArray, List.set_cons_zero, List.set_cons_succ])); (refine wpAnyE_take (i := 3) (oi := ?_) (v := ?_) ?_ (by kernel_rfl) ?_ ?_ (by assumption) ?_; rotate_left 2; (focus ((simp only [List.getElem?_toArray, List.getElem?_cons_succ, List.getElem?_cons_zero]; exact rfl))); (focus (exact fun _ _ _ h => h)); (focus (refine Or.inl ⟨by rfl, ?_⟩; intro w hSw; (try dsimp only at hSw); (first | (go_simp; done) | (go_simp; with_reducible rfl)))); (try simp only [Act.put, List.setIfInBounds_toArray, List.set_cons_zero, List.set_cons_succ])); (refine wpAnyE_take (i := 4) (oi := ?_) (v := ?_) ?_ (by kernel_rfl) ?_ ?_ (by assumption) ?_; rotate_left 2; (focus ((simp only [List.getElem?_toArray, List.getElem?_cons_succ, List.getElem?_cons_zero]; exact rfl))); (focus (exact fun _ _ _ h => h)); (focus (refine Or.inl ⟨by rfl, ?_⟩; intro w hSw; (try dsimp only at hSw); (first | (go_simp; done) | (go_simp; with_reducible rfl)))); (try simp only [Act.put, List.setIfInBounds_toArray, List.set_cons_zero, List.set_cons_succ])); (refine wpAnyE_take (i := 6) (oi := ?_) (v := ?_) ?_ (by kernel_rfl) ?_ ?_ (by assumption) ?_; rotate_left 2; (focus ((simp only [List.getElem?_toArray, List.getElem?_cons_succ, List.getElem?_cons_zero]; exact rfl))); (focus (exact fun _ _ _ h => h)); (focus (refine Or.inl ⟨by rfl, ?_⟩; intro w hSw; (try dsimp only at hSw); (first | (go_simp; done) | (go_simp; with_reducible rfl)))); (try simp only [Act.put, List.setIfInBounds_toArray, List.set_cons_zero, List.set_cons_succ])); (refine wpAnyE_take (i := 11) (oi := ?_) (v := ?_) ?_ (by kernel_rfl) ?_ ?_ (by assumption) ?_; rotate_left 2; (focus ((simp only [List.getElem?_toArray, List.getElem?_cons_succ, List.getElem?_cons_zero]; exact rfl))); (focus (exact fun _ _ _ h => h)); (focus (refine Or.inl ⟨by rfl, ?_⟩; intro w hSw; (try dsimp only at hSw); (first | (go_simp; done) | (go_simp; with_reducible rfl)))); (try simp only [Act.put, List.setIfInBounds_toArray, List.set_cons_zero, List.set_cons_succ])))
      clear hS
      have hh := HCM.out b c bcm p q HL.out.e10 (HLN.out _ (by simp)) (HLN.out _ (by simp)) W8 (EU.out.trans E7) X7
      clear hSn
      (refine wpAnyE_one (i := 5) (o := ?_) ?_ (by kernel_rfl) (fun K hK => ?_); rotate_left; (focus ((simp only [List.getElem?_toArray, List.getElem?_cons_succ, List.getElem?_cons_zero]; exact rfl))); go_simp; go_at_call 43; refine hh.mono ?_; rintro e W9 ⟨rfl, hE⟩; go_wp2_with fail; refine hK.out _ _ ?_ (fun hHeld => ?_); rotate_left; clear hK K; (try simp only [Act.put, List.setIfInBounds_toArray, List.set_cons_zero, List.set_cons_succ]))
      rotate_left
      · exact (X7.ext hE).at_
      replace X7 := X7.ext hE
      replace E7 := E7.trans hE
      replace HO := Lib.hid (HO.out.ext hE)
      clear hh hE hHeld
      have hh := HDV.out W9 (EU.out.trans E7)
      (refine wpAnyE_one (i := 7) (o := ?_) ?_ (by kernel_rfl) (fun K hK => ?_); rotate_left; (focus ((simp only [List.getElem?_toArray, List.getElem?_cons_succ, List.getElem?_cons_zero]; exact rfl))); go_simp; go_at_call 35; refine hh.mono ?_; rintro e W10 ⟨rfl, hE⟩; go_wp2_with fail; refine hK.out _ _ ?_ (fun hHeld => ?_); rotate_left; clear hK K; (try simp only [Act.put, List.setIfInBounds_toArray, List.set_cons_zero, List.set_cons_succ]))
      rotate_left
      · exact (X7.ext hE).at_
      replace X7 := X7.ext hE
      replace E7 := E7.trans hE
      replace HO := Lib.hid (HO.out.ext hE)
      clear hh hE hHeld
      have hSn := X7.at_
      ((refine wpAnyE_pure (i := 8) (oi := ?_) (v := ?_) ?_ (by kernel_rfl) ?_ ?_ ?_ ?_; rotate_left 2; (focus ((simp only [List.getElem?_toArray, List.getElem?_cons_succ, List.getElem?_cons_zero]; exact rfl))); (focus (exact fun _ _ _ h => h)); (focus (refine Or.inl ⟨by rfl, ?_⟩; intro w hSw; clear hSw; (first | (go_simp; done) | (go_simp; with_reducible rfl)))); (focus (first | exact (fun _ => by assumption) | (intro hlst; exact absurd hlst (by kernel_rfl)) | (intro hlst; cases hlst))); (try simp only [Act.put, List.setIfInBounds_toArray, List.set_cons_zero, List.set_cons_succ])); (refine wpAnyE_pure (i := 9) (oi := ?_) (v := ?_) ?_ (by kernel_rfl) ?_ ?_ ?_ ?_; rotate_left 2; (focus ((simp only [List.getElem?_toArray, List.getElem?_cons_succ, List.getElem?_cons_zero]; exact rfl))); (focus (exact fun _ _ _ h => h)); (focus (refine Or.inl ⟨by rfl, ?_⟩; intro w hSw; clear hSw; (first | (go_simp; done) | (go_simp; with_reducible rfl)))); (focus (first | exact (fun _ => by assumption) | (intro hlst; exact absurd hlst (by kernel_rfl)) | (intro hlst; cases hlst))); (try simp only [Act.put, List.setIfInBounds_toArray, List.set_cons_zero, List.set_cons_succ])))
      have hh := of_ok b p q W10 X7
      clear hSn
      (refine wpAnyE_one (i := 10) (o := ?_) ?_ (by kernel_rfl) (fun K hK => ?_); rotate_left; (focus ((simp only [List.getElem?_toArray, List.getElem?_cons_succ, List.getElem?_cons_zero]; exact rfl))); go_simp; go_at_call 42; refine hh.mono ?_; rintro e W11 ⟨rfl, hE⟩; go_wp2_with fail; refine hK.out _ _ ?_ (fun hHeld => ?_); rotate_left; clear hK K; (try simp only [Act.put, List.setIfInBounds_toArray, List.set_cons_zero, List.set_cons_succ]))
      rotate_left
      · exact (X7.ext hE).at_
      replace X7 := X7.ext hE
      replace E7 := E7.trans hE
      replace HO := Lib.hid (HO.out.ext hE)
      clear hh hE hHeld
      have hSn := X7.at_
      (refine wpAnyE_pure (i := 12) (oi := ?_) (v := ?_) ?_ (by kernel_rfl) ?_ ?_ ?_ ?_; rotate_left 2; (focus ((simp only [List.getElem?_toArray, List.getElem?_cons_succ, List.getElem?_cons_zero]; exact rfl))); (focus (exact fun _ _ _ h => h)); (focus (refine Or.inl ⟨by rfl, ?_⟩; intro w hSw; clear hSw; (first | (go_simp; done) | (go_simp; with_reducible rfl)))); (focus (first | exact (fun _ => by assumption) | (intro hlst; exact absurd hlst (by kernel_rfl)) | (intro hlst; cases hlst))); (try simp only [Act.put, List.setIfInBounds_toArray, List.set_cons_zero, List.set_cons_succ]))
      clear hSn
      have hE : Ext W11 (W11.alloc (.cells #[txt b, txt b] 58)) := (by repeat (first | with_reducible exact Ext.refl _ | with_reducible assumption | with_reducible apply Ext.drewN | with_reducible apply Ext.drew | with_reducible apply Ext.alloc | ((with_reducible refine Ext.set ?_ ?_ _); rotate_left; first | omega | (simp; omega)) | (with_reducible refine Ext.trans ?_ (by with_reducible assumption))))
      have y1 : (W11.alloc (.cells #[txt b, txt b] 58)).cell? ⟨W11.heap.size, 0, none⟩ = some (txt b) := by go_simp
      have y2 : (W11.alloc (.cells #[txt b, txt b] 58)).cell? ⟨W11.heap.size, 1, none⟩ = some (txt b) := by go_simp
      replace X7 := X7.ext hE
      replace E7 := E7.trans hE
      obtain ⟨v8, w8, hr8, ho8, hend8⟩ := (HO.out.ext hE).app b W11.heap.size y1 y2 (by simp)
      obtain ⟨g8, cap8, hv8, hz8⟩ := ho8.reads (by simp)
      replace hv8 : v8 = .slice (some ⟨g8, 0, none⟩) 8 cap8 := hv8
      subst hv8
      have hbl := hend8.below (n := u.heap.size) E7.size (fun b' hb => by cases hb; exact Nat.le_refl _)
      have E8 : Ext u w8 := E7.trans' hbl (Nat.le_refl _)
      have X8 := XU.out.ext E8
      have HR8 := Lib.hid hr8
      have HZ0 := Lib.hid hz8
      clear hr8 ho8 hend8 hbl hz8 HO hE y1 y2 E7
      (refine wpAnyE_one (i := 13) (o := ?_) ?_ (by kernel_rfl) (fun K hK => ?_); rotate_left; (focus ((simp only [List.getElem?_toArray, List.getElem?_cons_succ, List.getElem?_cons_zero]; exact rfl))); go_simp; refine hK.out _ _ ?_ (fun hHeld => ?_); rotate_left; clear hK K; (try simp only [Act.put, List.setIfInBounds_toArray, List.set_cons_zero, List.set_cons_succ]))
      rotate_left
      · exact X7.at_
      clear hHeld X7
      (refine wpAnyE_one (i := 14) (o := ?_) ?_ (by kernel_rfl) (fun K hK => ?_); rotate_left; (focus ((simp only [List.getElem?_toArray, List.getElem?_cons_succ, List.getElem?_cons_zero]; exact rfl))); refine step_append_run2 rfl _ _ 59 59 rfl (.slice (some ⟨u.heap.size, 0, none⟩) 7 7) (.slice (some ⟨W11.heap.size, 0, none⟩) 1 1) rfl rfl _ _ HR8.out ?_; refine hK.out _ _ ?_ (fun hHeld => ?_); rotate_left; clear hK K; (try simp only [Act.put, List.setIfInBounds_toArray, List.set_cons_zero, List.set_cons_succ]))
      rotate_left
      · exact X8.at_
      have hSn := X8.at_
      (refine wpAnyE_pure (i := 15) (oi := ?_) (v := ?_) ?_ (by kernel_rfl) ?_ ?_ ?_ ?_; rotate_left 2; (focus ((simp only [List.getElem?_toArray, List.getElem?_cons_succ, List.getElem?_cons_zero]; exact rfl))); (focus (exact fun _ _ _ h => h)); (focus (refine Or.inl ⟨by rfl, ?_⟩; intro w hSw; clear hSw; (first | (go_simp; done) | (go_simp; with_reducible rfl)))); (focus (first | exact (fun _ => by assumption) | (intro hlst; exact absurd hlst (by kernel_rfl)) | (intro hlst; cases hlst))); (try simp only [Act.put, List.setIfInBounds_toArray, List.set_cons_zero, List.set_cons_succ]))
      clear hSn hHeld HR8
      refine wpAnyE_done (by kernel_rfl) ?_ _
      have X7 := X8
      have E := EU.out.trans E8
      have HZ : Hid (∀ k, k < ([ab, mab, abc, X, a, abc, [48], b] : List Txt).length → w8.cell? ⟨g8, k * 2, none⟩ = some (txt (([ab, mab, abc, X, a, abc, [48], b] : List Txt).getD k [])) ∧ w8.cell? ⟨g8, k * 2 + 1, none⟩ = some (txt (([ab, mab, abc, X, a, abc, [48], b] : List Txt).getD k []))) := fun k hk => HZ0.out k hk
      clear HZ0 X8 E8
      go_wp2_with fail
      have HZ2 : Hid (∀ z ∈ ([ab, mab, abc, X, a, abc, [48], b] : List Txt), z ∈ [a, b, c, ab, mab, bc, abc, X, acm, bcm, ac, nb, [48]]) := fun z hz => by
        simp only [List.mem_cons, List.mem_nil_iff, or_false] at hz ⊢
        rcases hz with rfl | rfl | rfl | rfl | rfl | rfl | rfl | rfl <;> simp
      obtain ⟨zs, hzs⟩ : ∃ zs, zs = ([ab, mab, abc, X, a, abc, [48], b] : List Txt) := ⟨_, rfl⟩
      rw [← hzs] at HZ HZ2
      have hzl : zs.length = 8 := by rw [hzs]; rfl
      clear hzs
      obtain ⟨x0, xf, xq⟩ := X7
      clear xf
      go_loopw [144] (fun i wr => ∃ k : Nat, k ≤ 8 ∧ i = .int .i64 k ∧ Ext w8 wr) (fun i _ => 8 - (intOf i).toNat)
      case atStart => exact ⟨0, by omega, rfl, Ext.refl _⟩
      case round =>
        obtain ⟨k, hk, rfl, he⟩ := hrel
        by_cases hlt : k < 8
        · have hki : (k : Int) < 8 := by omega
          obtain ⟨z1, z2⟩ := HZ.out k (by omega)
          replace z1 := he.cell z1
          replace z2 := he.cell z2
          have hck := HCK.out _ (HZ2.out _ (mem_txt (l := zs) (k := k) (by omega)))
          generalize zs.getD k [] = z at *
          have hzz : (z != z) = false := bne_self_eq_false _
          have HCZ := Lib.hid (fun W (hW : Ext wr W) => hck W ((E.trans he).trans hW))
          clear hck
          go_wp2_with (go_at_call 44; refine (HCZ.out _ (by repeat (first | with_reducible exact Ext.refl _ | with_reducible assumption | with_reducible apply Ext.drewN | with_reducible apply Ext.drew | with_reducible apply Ext.alloc | ((with_reducible refine Ext.set ?_ ?_ _); rotate_left; first | omega | (simp; omega)) | (with_reducible refine Ext.trans ?_ (by with_reducible assumption))))).mono ?_; rintro e w5 ⟨rfl, hE⟩)
          refine ⟨⟨k + 1, by omega, by go_num, he.trans (Ext.trans ((Ext.refl _).alloc _) hE)⟩, by simp [intOf]; omega⟩
        · have hki : ¬ (k : Int) < 8 := by omega
          have c0 := he.cell x0
          have cq := he.cell xq
          have E9 := E.trans he
          go_wp2_with (go_at_call 13; refine (HA.out _ E9).mono ?_; rintro e w9 ⟨rfl, h⟩)
          go_ret
          exact ⟨rfl, E9.trans h⟩
  case refine_2 =>
    intro s hs g W hJ hJA IH
    match s, hs, IH with
    | 0, _, IH =>
     as_aux_lemma =>
      dsimp only [List.getD_cons_zero]; simp only [rs, Nat.reduceLT, if_false, decide_false]
      have hh := HCA.out b a ab p q HL.out.e1 (HLN.out _ (by simp)) (HLN.out _ (by simp)) _ (HE.out.trans hJ.1) hJ.2
      (refine wpAnyE_one (i := 3) (o := ?_) ?_ (by kernel_rfl) (fun K hK => ?_); rotate_left; (focus ((simp only [List.getElem?_toArray, List.getElem?_cons_succ, List.getElem?_cons_zero]; exact rfl))); go_simp; go_at_call 41; refine hh.mono ?_; rintro e W2 ⟨rfl, hE⟩; go_wp2_with fail; refine hK.out _ _ ?_ (fun hHeld => ?_); rotate_left; clear hK K; (try simp only [List.setIfInBounds_toArray, List.set_cons_zero, List.set_cons_succ]))
      rotate_left
      · exact (hJ.2.ext hE).at_
      have hSn := (hJ.2.ext hE).at_
      exact wpAnyE_swap (by kernel_rfl) (IH W2 ⟨hJ.1.trans hE, hJ.2.ext hE⟩ (hJA.ext hE))
    | 1, _, IH =>
     as_aux_lemma =>
      dsimp only [List.getD_cons_zero, List.getD_cons_succ]; simp only [rs, Nat.reduceLT, if_true, decide_true, if_false, decide_false]
      have hh := HCA.out a b ab p q HL.out.e2 (HLN.out _ (by simp)) (HLN.out _ (by simp)) _ (HE.out.trans hJ.1) hJ.2
      (refine wpAnyE_one (i := 7) (o := ?_) ?_ (by kernel_rfl) (fun K hK => ?_); rotate_left; (focus ((simp only [List.getElem?_toArray, List.getElem?_cons_succ, List.getElem?_cons_zero]; exact rfl))); go_simp; go_at_call 41; refine hh.mono ?_; rintro e W2 ⟨rfl, hE⟩; go_wp2_with fail; refine hK.out _ _ ?_ (fun hHeld => ?_); rotate_left; clear hK K; (try simp only [List.setIfInBounds_toArray, List.set_cons_zero, List.set_cons_succ]))
      rotate_left
      · exact (hJ.2.ext hE).at_
      have hSn := (hJ.2.ext hE).at_
      ((refine wpAnyE_pure (i := 8) (oi := ?_) (v := ?_) ?_ (by kernel_rfl) ?_ ?_ ?_ ?_; rotate_left 2; (focus ((simp only [List.getElem?_toArray, List.getElem?_cons_succ, List.getElem?_cons_zero]; exact rfl))); (focus (exact fun _ _ _ h => h)); (focus (refine Or.inl ⟨by rfl, ?_⟩; intro w hSw; clear hSw; (first | (go_simp; done) | (go_simp; with_reducible rfl)))); (focus (first | exact (fun _ => by assumption) | (intro hlst; exact absurd hlst (by kernel_rfl)) | (intro hlst; cases hlst))); (try simp only [Act.put, List.setIfInBounds_toArray, List.set_cons_zero, List.set_cons_succ])))
      exact wpAnyE_swap (by kernel_rfl) (IH W2 ⟨hJ.1.trans hE, hJ.2.ext hE⟩ (hJA.ext hE))
    | 2, _, IH =>
     as_aux_lemma =>
      dsimp only [List.getD_cons_zero, List.getD_cons_succ]; simp only [rs, Nat.reduceLT, if_true, decide_true, if_false, decide_false]
      have hh := HCM.out b a mab p q HL.out.e3 (HLN.out _ (by simp)) (HLN.out _ (by simp)) _ (HE.out.trans hJ.1) hJ.2
      (refine wpAnyE_one (i := 12) (o := ?_) ?_ (by kernel_rfl) (fun K hK => ?_); rotate_left; (focus ((simp only [List.getElem?_toArray, List.getElem?_cons_succ, List.getElem?_cons_zero]; exact rfl))); go_simp; go_at_call 43; refine hh.mono ?_; rintro e W2 ⟨rfl, hE⟩; go_wp2_with fail; refine hK.out _ _ ?_ (fun hHeld => ?_); rotate_left; clear hK K; (try simp only [List.setIfInBounds_toArray, List.set_cons_zero, List.set_cons_succ]))
      rotate_left
      · exact (hJ.2.ext hE).at_
      have hSn := (hJ.2.ext hE).at_
      exact wpAnyE_swap (by kernel_rfl) (IH W2 ⟨hJ.1.trans hE, hJ.2.ext hE⟩ (hJA.ext hE))
    | 3, _, IH =>
     as_aux_lemma =>
      dsimp only [List.getD_cons_zero, List.getD_cons_succ]; simp only [rs, Nat.reduceLT, if_true, decide_true, if_false, decide_false]
      have hh := HCM.out a b mab p q HL.out.e4 (HLN.out _ (by simp)) (HLN.out _ (by simp)) _ (HE.out.trans hJ.1) hJ.2
      (refine wpAnyE_one (i := 16) (o := ?_) ?_ (by kernel_rfl) (fun K hK => ?_); rotate_left; (focus ((simp only [List.getElem?_toArray, List.getElem?_cons_succ, List.getElem?_cons_zero]; exact rfl))); go_simp; go_at_call 43; refine hh.mono ?_; rintro e W2 ⟨rfl, hE⟩; go_wp2_with fail; refine hK.out _ _ ?_ (fun hHeld => ?_); rotate_left; clear hK K; (try simp only [List.setIfInBounds_toArray, List.set_cons_zero, List.set_cons_succ]))
      rotate_left
      · exact (hJ.2.ext hE).at_
      have hSn := (hJ.2.ext hE).at_
      ((refine wpAnyE_pure (i := 17) (oi := ?_) (v := ?_) ?_ (by kernel_rfl) ?_ ?_ ?_ ?_; rotate_left 2; (focus ((simp only [List.getElem?_toArray, List.getElem?_cons_succ, List.getElem?_cons_zero]; exact rfl))); (focus (exact fun _ _ _ h => h)); (focus (refine Or.inl ⟨by rfl, ?_⟩; intro w hSw; clear hSw; (first | (go_simp; done) | (go_simp; with_reducible rfl)))); (focus (first | exact (fun _ => by assumption) | (intro hlst; exact absurd hlst (by kernel_rfl)) | (intro hlst; cases hlst))); (try simp only [Act.put, List.setIfInBounds_toArray, List.set_cons_zero, List.set_cons_succ])))
      exact wpAnyE_swap (by kernel_rfl) (IH W2 ⟨hJ.1.trans hE, hJ.2.ext hE⟩ (hJA.ext hE))
    | 4, _, IH =>
     as_aux_lemma =>
      dsimp only [List.getD_cons_zero, List.getD_cons_succ]; simp only [rs, Nat.reduceLT, if_true, decide_true, if_false, decide_false]
      have hh := HCA.out b c bc p q HL.out.e5 (HLN.out _ (by simp)) (HLN.out _ (by simp)) _ (HE.out.trans hJ.1) hJ.2
      (refine wpAnyE_one (i := 23) (o := ?_) ?_ (by kernel_rfl) (fun K hK => ?_); rotate_left; (focus ((simp only [List.getElem?_toArray, List.getElem?_cons_succ, List.getElem?_cons_zero]; exact rfl))); go_simp; go_at_call 41; refine hh.mono ?_; rintro e W2 ⟨rfl, hE⟩; go_wp2_with fail; refine hK.out _ _ ?_ (fun hHeld => ?_); rotate_left; clear hK K; (try simp only [List.setIfInBounds_toArray, List.set_cons_zero, List.set_cons_succ]))
      rotate_left
      · exact (hJ.2.ext hE).at_
      have hSn := (hJ.2.ext hE).at_
      exact wpAnyE_swap (by kernel_rfl) (IH W2 ⟨hJ.1.trans hE, hJ.2.ext hE⟩ (hJA.ext hE))
    | 5, _, IH =>
     as_aux_lemma =>
      dsimp only [List.getD_cons_zero, List.getD_cons_succ]; simp only [rs, Nat.reduceLT, if_true, decide_true, if_false, decide_false]
      have hh := HCA.out a bc abc p q HL.out.e6 (HLN.out _ (by simp)) (HLN.out _ (by simp)) _ (HE.out.trans hJ.1) hJ.2
      (refine wpAnyE_one (i := 24) (o := ?_) ?_ (by kernel_rfl) (fun K hK => ?_); rotate_left; (focus ((simp only [List.getElem?_toArray, List.getElem?_cons_succ, List.getElem?_cons_zero]; exact rfl))); go_simp; go_at_call 41; refine hh.mono ?_; rintro e W2 ⟨rfl, hE⟩; go_wp2_with fail; refine hK.out _ _ ?_ (fun hHeld => ?_); rotate_left; clear hK K; (try simp only [List.setIfInBounds_toArray, List.set_cons_zero, List.set_cons_succ]))
      rotate_left
      · exact (hJ.2.ext hE).at_
      have hSn := (hJ.2.ext hE).at_
      exact wpAnyE_swap (by kernel_rfl) (IH W2 ⟨hJ.1.trans hE, hJ.2.ext hE⟩ (hJA.ext hE))
    | 6, _, IH =>
     as_aux_lemma =>
      dsimp only [List.getD_cons_zero, List.getD_cons_succ]; simp only [rs, Nat.reduceLT, if_true, decide_true, if_false, decide_false]
      have hh := HCA.out a b ab p q HL.out.e2 (HLN.out _ (by simp)) (HLN.out _ (by simp)) _ (HE.out.trans hJ.1) hJ.2
      (refine wpAnyE_one (i := 29) (o := ?_) ?_ (by kernel_rfl) (fun K hK => ?_); rotate_left; (focus ((simp only [List.getElem?_toArray, List.getElem?_cons_succ, List.getElem?_cons_zero]; exact rfl))); go_simp; go_at_call 41; refine hh.mono ?_; rintro e W2 ⟨rfl, hE⟩; go_wp2_with fail; refine hK.out _ _ ?_ (fun hHeld => ?_); rotate_left; clear hK K; (try simp only [List.setIfInBounds_toArray, List.set_cons_zero, List.set_cons_succ]))
      rotate_left
      · exact (hJ.2.ext hE).at_
      have hSn := (hJ.2.ext hE).at_
      exact wpAnyE_swap (by kernel_rfl) (IH W2 ⟨hJ.1.trans hE, hJ.2.ext hE⟩ (hJA.ext hE))
    | 7, _, IH =>
     as_aux_lemma =>
      dsimp only [List.getD_cons_zero, List.getD_cons_succ]; simp only [rs, Nat.reduceLT, if_true, decide_true, if_false, decide_false]
      have hh := HCA.out ab c abc p q HL.out.e7 (HLN.out _ (by simp)) (HLN.out _ (by simp)) _ (HE.out.trans hJ.1) hJ.2
      (refine wpAnyE_one (i := 31) (o := ?_) ?_ (by kernel_rfl) (fun K hK => ?_); rotate_left; (focus ((simp only [List.getElem?_toArray, List.getElem?_cons_succ, List.getElem?_cons_zero]; exact rfl))); go_simp; go_at_call 41; refine hh.mono ?_; rintro e W2 ⟨rfl, hE⟩; go_wp2_with fail; refine hK.out _ _ ?_ (fun hHeld => ?_); rotate_left; clear hK K; (try simp only [List.setIfInBounds_toArray, List.set_cons_zero, List.set_cons_succ]))
      rotate_left
      · exact (hJ.2.ext hE).at_
      have hSn := (hJ.2.ext hE).at_
      ((refine wpAnyE_pure (i := 32) (oi := ?_) (v := ?_) ?_ (by kernel_rfl) ?_ ?_ ?_ ?_; rotate_left 2; (focus ((simp only [List.getElem?_toArray, List.getElem?_cons_succ, List.getElem?_cons_zero]; exact rfl))); (focus (exact fun _ _ _ h => h)); (focus (refine Or.inl ⟨by rfl, ?_⟩; intro w hSw; clear hSw; (first | (go_simp; done) | (go_simp; with_reducible rfl)))); (focus (first | exact (fun _ => by assumption) | (intro hlst; exact absurd hlst (by kernel_rfl)) | (intro hlst; cases hlst))); (try simp only [Act.put, List.setIfInBounds_toArray, List.set_cons_zero, List.set_cons_succ])))
      exact wpAnyE_swap (by kernel_rfl) (IH W2 ⟨hJ.1.trans hE, hJ.2.ext hE⟩ (hJA.ext hE))
    | 8, _, IH =>
     as_aux_lemma =>
      dsimp only [List.getD_cons_zero, List.getD_cons_succ]; simp only [rs, Nat.reduceLT, if_true, decide_true, if_false, decide_false]
      have hh := HCA.out a b ab p q HL.out.e2 (HLN.out _ (by simp)) (HLN.out _ (by simp)) _ (HE.out.trans hJ.1) hJ.2
      (refine wpAnyE_one (i := 37) (o := ?_) ?_ (by kernel_rfl) (fun K hK => ?_); rotate_left; (focus ((simp only [List.getElem?_toArray, List.getElem?_cons_succ, List.getElem?_cons_zero]; exact rfl))); go_simp; go_at_call 41; refine hh.mono ?_; rintro e W2 ⟨rfl, hE⟩; go_wp2_with fail; refine hK.out _ _ ?_ (fun hHeld => ?_); rotate_left; clear hK K; (try simp only [List.setIfInBounds_toArray, List.set_cons_zero, List.set_cons_succ]))
      rotate_left
      · exact (hJ.2.ext hE).at_
      have hSn := (hJ.2.ext hE).at_
      exact wpAnyE_swap (by kernel_rfl) (IH W2 ⟨hJ.1.trans hE, hJ.2.ext hE⟩ (hJA.ext hE))
    | 9, _, IH =>
     as_aux_lemma =>
      dsimp only [List.getD_cons_zero, List.getD_cons_succ]; simp only [rs, Nat.reduceLT, if_true, decide_true, if_false, decide_false]
      have hh := HCM.out ab c X p q HL.out.e8 (HLN.out _ (by simp)) (HLN.out _ (by simp)) _ (HE.out.trans hJ.1) hJ.2
      (refine wpAnyE_one (i := 39) (o := ?_) ?_ (by kernel_rfl) (fun K hK => ?_); rotate_left; (focus ((simp only [List.getElem?_toArray, List.getElem?_cons_succ, List.getElem?_cons_zero]; exact rfl))); go_simp; go_at_call 43; refine hh.mono ?_; rintro e W2 ⟨rfl, hE⟩; go_wp2_with fail; refine hK.out _ _ ?_ (fun hHeld => ?_); rotate_left; clear hK K; (try simp only [List.setIfInBounds_toArray, List.set_cons_zero, List.set_cons_succ]))
      rotate_left
      · exact (hJ.2.ext hE).at_
      have hSn := (hJ.2.ext hE).at_
      exact wpAnyE_swap (by kernel_rfl) (IH W2 ⟨hJ.1.trans hE, hJ.2.ext hE⟩ (hJA.ext hE))
    | 10, _, IH =>
     as_aux_lemma =>
      dsimp only [List.getD_cons_zero, List.getD_cons_succ]; simp only [rs, Nat.reduceLT, if_true, decide_true, if_false, decide_false]
      have hh := HCM.out a c acm p q HL.out.e9 (HLN.out _ (by simp)) (HLN.out _ (by simp)) _ (HE.out.trans hJ.1) hJ.2
      (refine wpAnyE_one (i := 44) (o := ?_) ?_ (by kernel_rfl) (fun K hK => ?_); rotate_left; (focus ((simp only [List.getElem?_toArray, List.getElem?_cons_succ, List.getElem?_cons_zero]; exact rfl))); go_simp; go_at_call 43; refine hh.mono ?_; rintro e W2 ⟨rfl, hE⟩; go_wp2_with fail; refine hK.out _ _ ?_ (fun hHeld => ?_); rotate_left; clear hK K; (try simp only [List.setIfInBounds_toArray, List.set_cons_zero, List.set_cons_succ]))
      rotate_left
      · exact (hJ.2.ext hE).at_
      have hSn := (hJ.2.ext hE).at_
      exact wpAnyE_swap (by kernel_rfl) (IH W2 ⟨hJ.1.trans hE, hJ.2.ext hE⟩ (hJA.ext hE))
    | 11, _, IH =>
     as_aux_lemma =>
      dsimp only [List.getD_cons_zero, List.getD_cons_succ]; simp only [rs, Nat.reduceLT, if_true, decide_true, if_false, decide_false]
      have hh := HCM.out b c bcm p q HL.out.e10 (HLN.out _ (by simp)) (HLN.out _ (by simp)) _ (HE.out.trans hJ.1) hJ.2
      (refine wpAnyE_one (i := 48) (o := ?_) ?_ (by kernel_rfl) (fun K hK => ?_); rotate_left; (focus ((simp only [List.getElem?_toArray, List.getElem?_cons_succ, List.getElem?_cons_zero]; exact rfl))); go_simp; go_at_call 43; refine hh.mono ?_; rintro e W2 ⟨rfl, hE⟩; go_wp2_with fail; refine hK.out _ _ ?_ (fun hHeld => ?_); rotate_left; clear hK K; (try simp only [List.setIfInBounds_toArray, List.set_cons_zero, List.set_cons_succ]))
      rotate_left
      · exact (hJ.2.ext hE).at_
      have hSn := (hJ.2.ext hE).at_
      exact wpAnyE_swap (by kernel_rfl) (IH W2 ⟨hJ.1.trans hE, hJ.2.ext hE⟩ (hJA.ext hE))
    | 12, _, IH =>
     as_aux_lemma =>
      dsimp only [List.getD_cons_zero, List.getD_cons_succ]; simp only [rs, Nat.reduceLT, if_true, decide_true, if_false, decide_false]
      have hh := HCA.out acm bcm X p q HL.out.e11 (HLN.out _ (by simp)) (HLN.out _ (by simp)) _ (HE.out.trans hJ.1) hJ.2
      (refine wpAnyE_one (i := 49) (o := ?_) ?_ (by kernel_rfl) (fun K hK => ?_); rotate_left; (focus ((simp only [List.getElem?_toArray, List.getElem?_cons_succ, List.getElem?_cons_zero]; exact rfl))); go_simp; go_at_call 41; refine hh.mono ?_; rintro e W2 ⟨rfl, hE⟩; go_wp2_with fail; refine hK.out _ _ ?_ (fun hHeld => ?_); rotate_left; clear hK K; (try simp only [List.setIfInBounds_toArray, List.set_cons_zero, List.set_cons_succ]))
      rotate_left
      · exact (hJ.2.ext hE).at_
      have hSn := (hJ.2.ext hE).at_
      ((refine wpAnyE_pure (i := 50) (oi := ?_) (v := ?_) ?_ (by kernel_rfl) ?_ ?_ ?_ ?_; rotate_left 2; (focus ((simp only [List.getElem?_toArray, List.getElem?_cons_succ, List.getElem?_cons_zero]; exact rfl))); (focus (exact fun _ _ _ h => h)); (focus (refine Or.inl ⟨by rfl, ?_⟩; intro w hSw; clear hSw; (first | (go_simp; done) | (go_simp; with_reducible rfl)))); (focus (first | exact (fun _ => by assumption) | (intro hlst; exact absurd hlst (by kernel_rfl)) | (intro hlst; cases hlst))); (try simp only [Act.put, List.setIfInBounds_toArray, List.set_cons_zero, List.set_cons_succ])))
      exact wpAnyE_swap (by kernel_rfl) (IH W2 ⟨hJ.1.trans hE, hJ.2.ext hE⟩ (hJA.ext hE))
    | 13, _, IH =>
     as_aux_lemma =>
      dsimp only [List.getD_cons_zero, List.getD_cons_succ]; simp only [rs, Nat.reduceLT, if_true, decide_true, if_false, decide_false]
      have hh := HCA.out a c ac p q HL.out.e12 (HLN.out _ (by simp)) (HLN.out _ (by simp)) _ (HE.out.trans hJ.1) hJ.2
      (refine wpAnyE_one (i := 55) (o := ?_) ?_ (by kernel_rfl) (fun K hK => ?_); rotate_left; (focus ((simp only [List.getElem?_toArray, List.getElem?_cons_succ, List.getElem?_cons_zero]; exact rfl))); go_simp; go_at_call 41; refine hh.mono ?_; rintro e W2 ⟨rfl, hE⟩; go_wp2_with fail; refine hK.out _ _ ?_ (fun hHeld => ?_); rotate_left; clear hK K; (try simp only [List.setIfInBounds_toArray, List.set_cons_zero, List.set_cons_succ]))
      rotate_left
      · exact (hJ.2.ext hE).at_
      have hSn := (hJ.2.ext hE).at_
      exact wpAnyE_swap (by kernel_rfl) (IH W2 ⟨hJ.1.trans hE, hJ.2.ext hE⟩ (hJA.ext hE))
    | 14, _, IH =>
     as_aux_lemma =>
      dsimp only [List.getD_cons_zero, List.getD_cons_succ]; simp only [rs, Nat.reduceLT, if_true, decide_true, if_false, decide_false]
      have hh := HSB.out _ (HE.out.trans hJ.1)
      (refine wpAnyE_one (i := 57) (o := ?_) ?_ (by kernel_rfl) (fun K hK => ?_); rotate_left; (focus ((simp only [List.getElem?_toArray, List.getElem?_cons_succ, List.getElem?_cons_zero]; exact rfl))); go_simp; go_at_call 31; refine hh.mono ?_; rintro e W2 ⟨rfl, hE⟩; go_wp2_with fail; refine hK.out _ _ ?_ (fun hHeld => ?_); rotate_left; clear hK K; (try simp only [List.setIfInBounds_toArray, List.set_cons_zero, List.set_cons_succ]))
      rotate_left
      · exact (hJ.2.ext hE).at_
      have hSn := (hJ.2.ext hE).at_
      ((refine wpAnyE_pure (i := 58) (oi := ?_) (v := ?_) ?_ (by kernel_rfl) ?_ ?_ ?_ ?_; rotate_left 2; (focus ((simp only [List.getElem?_toArray, List.getElem?_cons_succ, List.getElem?_cons_zero]; exact rfl))); (focus (exact fun _ _ _ h => h)); (focus (refine Or.inl ⟨by rfl, ?_⟩; intro w hSw; clear hSw; (first | (go_simp; done) | (go_simp; with_reducible rfl)))); (focus (first | exact (fun _ => by assumption) | (intro hlst; exact absurd hlst (by kernel_rfl)) | (intro hlst; cases hlst))); (try simp only [Act.put, List.setIfInBounds_toArray, List.set_cons_zero, List.set_cons_succ])); (refine wpAnyE_pure (i := 59) (oi := ?_) (v := ?_) ?_ (by kernel_rfl) ?_ ?_ ?_ ?_; rotate_left 2; (focus ((simp only [List.getElem?_toArray, List.getElem?_cons_succ, List.getElem?_cons_zero]; exact rfl))); (focus (exact fun _ _ _ h => h)); (focus (refine Or.inl ⟨by rfl, ?_⟩; intro w hSw; clear hSw; (first | (go_simp; done) | (go_simp; with_reducible rfl)))); (focus (first | exact (fun _ => by assumption) | (intro hlst; exact absurd hlst (by kernel_rfl)) | (intro hlst; cases hlst))); (try simp only [Act.put, List.setIfInBounds_toArray, List.set_cons_zero, List.set_cons_succ])))
      exact wpAnyE_swap (by kernel_rfl) (IH W2 ⟨hJ.1.trans hE, hJ.2.ext hE⟩ (hJA.ext hE))
    | 15, _, IH =>
     as_aux_lemma =>
      dsimp only [List.getD_cons_zero, List.getD_cons_succ]; simp only [rs, Nat.reduceLT, if_true, decide_true, if_false, decide_false]
      have hh := of_ok a p q _ hJ.2
      (refine wpAnyE_one (i := 60) (o := ?_) ?_ (by kernel_rfl) (fun K hK => ?_); rotate_left; (focus ((simp only [List.getElem?_toArray, List.getElem?_cons_succ, List.getElem?_cons_zero]; exact rfl))); go_simp; go_at_call 42; refine hh.mono ?_; rintro e W2 ⟨rfl, hE⟩; go_wp2_with fail; refine hK.out _ _ ?_ (fun hHeld => ?_); rotate_left; clear hK K; (try simp only [List.setIfInBounds_toArray, List.set_cons_zero, List.set_cons_succ]))
      rotate_left
      · exact (hJ.2.ext hE).at_
      have hSn := (hJ.2.ext hE).at_
      ((refine wpAnyE_pure (i := 62) (oi := ?_) (v := ?_) ?_ (by kernel_rfl) ?_ ?_ ?_ ?_; rotate_left 2; (focus ((simp only [List.getElem?_toArray, List.getElem?_cons_succ, List.getElem?_cons_zero]; exact rfl))); (focus (exact fun _ _ _ h => h)); (focus (refine Or.inl ⟨by rfl, ?_⟩; intro w hSw; clear hSw; (first | (go_simp; done) | (go_simp; with_reducible rfl)))); (focus (first | exact (fun _ => by assumption) | (intro hlst; exact absurd hlst (by kernel_rfl)) | (intro hlst; cases hlst))); (try simp only [Act.put, List.setIfInBounds_toArray, List.set_cons_zero, List.set_cons_succ])))
      exact wpAnyE_swap (by kernel_rfl) (IH W2 ⟨hJ.1.trans hE, hJ.2.ext hE⟩ (hJA.ext hE))
    | n + 16, h, _ => exact absurd h (by omega)
  case refine_3 =>
    intro s hs W hJ IA IB
    match s, hs, IA, IB with
    | 0, _, IA, IB =>
     as_aux_lemma =>
      dsimp only [List.getD_cons_zero]; simp only [rs, Nat.reduceLT, if_false, decide_false]
      refine wpAnyE_two (i := 3) (j := 67) (o := ?_) (p := ?_) ?_ ?_ (by kernel_rfl) (fun K hK => ?_) (fun K hK => ?_)
      rotate_left 2
      · simp only [List.getElem?_toArray, List.getElem?_cons_succ, List.getElem?_cons_zero]; exact rfl
      · simp only [List.getElem?_toArray, List.getElem?_cons_succ, List.getElem?_cons_zero]; exact rfl
      · have hh := HCA.out b a ab p q HL.out.e1 (HLN.out _ (by simp)) (HLN.out _ (by simp)) _ (HE.out.trans hJ.1) hJ.2
        go_simp
        go_at_call 41
        refine hh.mono ?_
        rintro e W2 ⟨rfl, hE⟩
        go_wp2_with fail
        refine hK.out _ _ (hJ.2.ext hE).at_ (fun hHeld => ?_)
        clear hK K
        (try simp only [List.setIfInBounds_toArray, List.set_cons_zero, List.set_cons_succ])
        have hSn := (hJ.2.ext hE).at_
        exact wpAnyE_swap (by kernel_rfl) (IB (by omega) W2 ⟨hJ.1.trans hE, hJ.2.ext hE⟩)
      · go_simp
        have hE : Ext W (W.alloc (.cells #[txt c, txt b, txt a] 23)) := (by repeat (first | with_reducible exact Ext.refl _ | with_reducible assumption | with_reducible apply Ext.drewN | with_reducible apply Ext.drew | with_reducible apply Ext.alloc | ((with_reducible refine Ext.set ?_ ?_ _); rotate_left; first | omega | (simp; omega)) | (with_reducible refine Ext.trans ?_ (by with_reducible assumption))))
        refine hK.out _ _ (hJ.2.ext hE).at_ (fun hHeld => ?_)
        clear hK K
        (try simp only [List.setIfInBounds_toArray, List.set_cons_zero, List.set_cons_succ])
        exact wpAnyE_swap (by kernel_rfl) (IA W.heap.size _ ⟨hJ.1.trans hE, hJ.2.ext hE⟩ (cells_txts W [c, b, a] _))
    | 1, _, IA, IB =>
     as_aux_lemma =>
      dsimp only [List.getD_cons_zero, List.getD_cons_succ]; simp only [rs, Nat.reduceLT, if_true, decide_true, if_false, decide_false]
      refine wpAnyE_two (i := 7) (j := 67) (o := ?_) (p := ?_) ?_ ?_ (by kernel_rfl) (fun K hK => ?_) (fun K hK => ?_)
      rotate_left 2
      · simp only [List.getElem?_toArray, List.getElem?_cons_succ, List.getElem?_cons_zero]; exact rfl
      · simp only [List.getElem?_toArray, List.getElem?_cons_succ, List.getElem?_cons_zero]; exact rfl
      · have hh := HCA.out a b ab p q HL.out.e2 (HLN.out _ (by simp)) (HLN.out _ (by simp)) _ (HE.out.trans hJ.1) hJ.2
        go_simp
        go_at_call 41
        refine hh.mono ?_
        rintro e W2 ⟨rfl, hE⟩
        go_wp2_with fail
        refine hK.out _ _ (hJ.2.ext hE).at_ (fun hHeld => ?_)
        clear hK K
        (try simp only [List.setIfInBounds_toArray, List.set_cons_zero, List.set_cons_succ])
        have hSn := (hJ.2.ext hE).at_
        ((refine wpAnyE_pure (i := 8) (oi := ?_) (v := ?_) ?_ (by kernel_rfl) ?_ ?_ ?_ ?_; rotate_left 2; (focus ((simp only [List.getElem?_toArray, List.getElem?_cons_succ, List.getElem?_cons_zero]; exact rfl))); (focus (exact fun _ _ _ h => h)); (focus (refine Or.inl ⟨by rfl, ?_⟩; intro w hSw; clear hSw; (first | (go_simp; done) | (go_simp; with_reducible rfl)))); (focus (first | exact (fun _ => by assumption) | (intro hlst; exact absurd hlst (by kernel_rfl)) | (intro hlst; cases hlst))); (try simp only [Act.put, List.setIfInBounds_toArray, List.set_cons_zero, List.set_cons_succ])))
        exact wpAnyE_swap (by kernel_rfl) (IB (by omega) W2 ⟨hJ.1.trans hE, hJ.2.ext hE⟩)
      · go_simp
        have hE : Ext W (W.alloc (.cells #[txt c, txt b, txt a] 23)) := (by repeat (first | with_reducible exact Ext.refl _ | with_reducible assumption | with_reducible apply Ext.drewN | with_reducible apply Ext.drew | with_reducible apply Ext.alloc | ((with_reducible refine Ext.set ?_ ?_ _); rotate_left; first | omega | (simp; omega)) | (with_reducible refine Ext.trans ?_ (by with_reducible assumption))))
        refine hK.out _ _ (hJ.2.ext hE).at_ (fun hHeld => ?_)
        clear hK K
        (try simp only [List.setIfInBounds_toArray, List.set_cons_zero, List.set_cons_succ])
        exact wpAnyE_swap (by kernel_rfl) (IA W.heap.size _ ⟨hJ.1.trans hE, hJ.2.ext hE⟩ (cells_txts W [c, b, a] _))
    | 2, _, IA, IB =>
     as_aux_lemma =>
      dsimp only [List.getD_cons_zero, List.getD_cons_succ]; simp only [rs, Nat.reduceLT, if_true, decide_true, if_false, decide_false]
      refine wpAnyE_two (i := 12) (j := 67) (o := ?_) (p := ?_) ?_ ?_ (by kernel_rfl) (fun K hK => ?_) (fun K hK => ?_)
      rotate_left 2
      · simp only [List.getElem?_toArray, List.getElem?_cons_succ, List.getElem?_cons_zero]; exact rfl
      · simp only [List.getElem?_toArray, List.getElem?_cons_succ, List.getElem?_cons_zero]; exact rfl
      · have hh := HCM.out b a mab p q HL.out.e3 (HLN.out _ (by simp)) (HLN.out _ (by simp)) _ (HE.out.trans hJ.1) hJ.2
        go_simp
        go_at_call 43
        refine hh.mono ?_
        rintro e W2 ⟨rfl, hE⟩
        go_wp2_with fail
        refine hK.out _ _ (hJ.2.ext hE).at_ (fun hHeld => ?_)
        clear hK K
        (try simp only [List.setIfInBounds_toArray, List.set_cons_zero, List.set_cons_succ])
        have hSn := (hJ.2.ext hE).at_
        exact wpAnyE_swap (by kernel_rfl) (IB (by omega) W2 ⟨hJ.1.trans hE, hJ.2.ext hE⟩)
      · go_simp
        have hE : Ext W (W.alloc (.cells #[txt c, txt b, txt a] 23)) := (by repeat (first | with_reducible exact Ext.refl _ | with_reducible assumption | with_reducible apply Ext.drewN | with_reducible apply Ext.drew | with_reducible apply Ext.alloc | ((with_reducible refine Ext.set ?_ ?_ _); rotate_left; first | omega | (simp; omega)) | (with_reducible refine Ext.trans ?_ (by with_reducible assumption))))
        refine hK.out _ _ (hJ.2.ext hE).at_ (fun hHeld => ?_)
        clear hK K
        (try simp only [List.setIfInBounds_toArray, List.set_cons_zero, List.set_cons_succ])
        exact wpAnyE_swap (by kernel_rfl) (IA W.heap.size _ ⟨hJ.1.trans hE, hJ.2.ext hE⟩ (cells_txts W [c, b, a] _))
    | 3, _, IA, IB =>
     as_aux_lemma =>
      dsimp only [List.getD_cons_zero, List.getD_cons_succ]; simp only [rs, Nat.reduceLT, if_true, decide_true, if_false, decide_false]
      refine wpAnyE_two (i := 16) (j := 67) (o := ?_) (p := ?_) ?_ ?_ (by kernel_rfl) (fun K hK => ?_) (fun K hK => ?_)
      rotate_left 2
      · simp only [List.getElem?_toArray, List.getElem?_cons_succ, List.getElem?_cons_zero]; exact rfl
      · simp only [List.getElem?_toArray, List.getElem?_cons_succ, List.getElem?_cons_zero]; exact rfl
      · have hh := HCM.out a b mab p q HL.out.e4 (HLN.out _ (by simp)) (HLN.out _ (by simp)) _ (HE.out.trans hJ.1) hJ.2
        go_simp
        go_at_call 43
        refine hh.mono ?_
        rintro e W2 ⟨rfl, hE⟩
        go_wp2_with fail
        refine hK.out _ _ (hJ.2.ext hE).at_ (fun hHeld => ?_)
        clear hK K
        (try simp only [List.setIfInBounds_toArray, List.set_cons_zero, List.set_cons_succ])
        have hSn := (hJ.2.ext hE).at_
        ((refine wpAnyE_pure (i := 17) (oi := ?_) (v := ?_) ?_ (by kernel_rfl) ?_ ?_ ?_ ?_; rotate_left 2; (focus ((simp only [List.getElem?_toArray, List.getElem?_cons_succ, List.getElem?_cons_zero]; exact rfl))); (focus (exact fun _ _ _ h => h)); (focus (refine Or.inl ⟨by rfl, ?_⟩; intro w hSw; clear hSw; (first | (go_simp; done) | (go_simp; with_reducible rfl)))); (focus (first | exact (fun _ => by assumption) | (intro hlst; exact absurd hlst (by kernel_rfl)) | (intro hlst; cases hlst))); (try simp only [Act.put, List.setIfInBounds_toArray, List.set_cons_zero, List.set_cons_succ])))
        exact wpAnyE_swap (by kernel_rfl) (IB (by omega) W2 ⟨hJ.1.trans hE, hJ.2.ext hE⟩)
      · go_simp
        have hE : Ext W (W.alloc (.cells #[txt c, txt b, txt a] 23)) := (by repeat (first | with_reducible exact Ext.refl _ | with_reducible assumption | with_reducible apply Ext.drewN | with_reducible apply Ext.drew | with_reducible apply Ext.alloc | ((with_reducible refine Ext.set ?_ ?_ _); rotate_left; first | omega | (simp; omega)) | (with_reducible refine Ext.trans ?_ (by with_reducible assumption))))
        refine hK.out _ _ (hJ.2.ext hE).at_ (fun hHeld => ?_)
        clear hK K
        (try simp only [List.setIfInBounds_toArray, List.set_cons_zero, List.set_cons_succ])
        exact wpAnyE_swap (by kernel_rfl) (IA W.heap.size _ ⟨hJ.1.trans hE, hJ.2.ext hE⟩ (cells_txts W [c, b, a] _))
    | 4, _, IA, IB =>
     as_aux_lemma =>
      dsimp only [List.getD_cons_zero, List.getD_cons_succ]; simp only [rs, Nat.reduceLT, if_true, decide_true, if_false, decide_false]
      refine wpAnyE_two (i := 23) (j := 67) (o := ?_) (p := ?_) ?_ ?_ (by kernel_rfl) (fun K hK => ?_) (fun K hK => ?_)
      rotate_left 2
      · simp only [List.getElem?_toArray, List.getElem?_cons_succ, List.getElem?_cons_zero]; exact rfl
      · simp only [List.getElem?_toArray, List.getElem?_cons_succ, List.getElem?_cons_zero]; exact rfl
      · have hh := HCA.out b c bc p q HL.out.e5 (HLN.out _ (by simp)) (HLN.out _ (by simp)) _ (HE.out.trans hJ.1) hJ.2
        go_simp
        go_at_call 41
        refine hh.mono ?_
        rintro e W2 ⟨rfl, hE⟩
        go_wp2_with fail
        refine hK.out _ _ (hJ.2.ext hE).at_ (fun hHeld => ?_)
        clear hK K
        (try simp only [List.setIfInBounds_toArray, List.set_cons_zero, List.set_cons_succ])
        have hSn := (hJ.2.ext hE).at_
        exact wpAnyE_swap (by kernel_rfl) (IB (by omega) W2 ⟨hJ.1.trans hE, hJ.2.ext hE⟩)
      · go_simp
        have hE : Ext W (W.alloc (.cells #[txt c, txt b, txt a] 23)) := (by repeat (first | with_reducible exact Ext.refl _ | with_reducible assumption | with_reducible apply Ext.drewN | with_reducible apply Ext.drew | with_reducible apply Ext.alloc | ((with_reducible refine Ext.set ?_ ?_ _); rotate_left; first | omega | (simp; omega)) | (with_reducible refine Ext.trans ?_ (by with_reducible assumption))))
        refine hK.out _ _ (hJ.2.ext hE).at_ (fun hHeld => ?_)
        clear hK K
        (try simp only [List.setIfInBounds_toArray, List.set_cons_zero, List.set_cons_succ])
        exact wpAnyE_swap (by kernel_rfl) (IA W.heap.size _ ⟨hJ.1.trans hE, hJ.2.ext hE⟩ (cells_txts W [c, b, a] _))
    | 5, _, IA, IB =>
     as_aux_lemma =>
      dsimp only [List.getD_cons_zero, List.getD_cons_succ]; simp only [rs, Nat.reduceLT, if_true, decide_true, if_false, decide_false]
      refine wpAnyE_two (i := 24) (j := 67) (o := ?_) (p := ?_) ?_ ?_ (by kernel_rfl) (fun K hK => ?_) (fun K hK => ?_)
      rotate_left 2
      · simp only [List.getElem?_toArray, List.getElem?_cons_succ, List.getElem?_cons_zero]; exact rfl
      · simp only [List.getElem?_toArray, List.getElem?_cons_succ, List.getElem?_cons_zero]; exact rfl
      · have hh := HCA.out a bc abc p q HL.out.e6 (HLN.out _ (by simp)) (HLN.out _ (by simp)) _ (HE.out.trans hJ.1) hJ.2
        go_simp
        go_at_call 41
        refine hh.mono ?_
        rintro e W2 ⟨rfl, hE⟩
        go_wp2_with fail
        refine hK.out _ _ (hJ.2.ext hE).at_ (fun hHeld => ?_)
        clear hK K
        (try simp only [List.setIfInBounds_toArray, List.set_cons_zero, List.set_cons_succ])
        have hSn := (hJ.2.ext hE).at_
        exact wpAnyE_swap (by kernel_rfl) (IB (by omega) W2 ⟨hJ.1.trans hE, hJ.2.ext hE⟩)
      · go_simp
        have hE : Ext W (W.alloc (.cells #[txt c, txt b, txt a] 23)) := (by repeat (first | with_reducible exact Ext.refl _ | with_reducible assumption | with_reducible apply Ext.drewN | with_reducible apply Ext.drew | with_reducible apply Ext.alloc | ((with_reducible refine Ext.set ?_ ?_ _); rotate_left; first | omega | (simp; omega)) | (with_reducible refine Ext.trans ?_ (by with_reducible assumption))))
        refine hK.out _ _ (hJ.2.ext hE).at_ (fun hHeld => ?_)
        clear hK K
        (try simp only [List.setIfInBounds_toArray, List.set_cons_zero, List.set_cons_succ])
        exact wpAnyE_swap (by kernel_rfl) (IA W.heap.size _ ⟨hJ.1.trans hE, hJ.2.ext hE⟩ (cells_txts W [c, b, a] _))
    | 6, _, IA, IB =>
     as_aux_lemma =>
      dsimp only [List.getD_cons_zero, List.getD_cons_succ]; simp only [rs, Nat.reduceLT, if_true, decide_true, if_false, decide_false]
      refine wpAnyE_two (i := 29) (j := 67) (o := ?_) (p := ?_) ?_ ?_ (by kernel_rfl) (fun K hK => ?_) (fun K hK => ?_)
      rotate_left 2
      · simp only [List.getElem?_toArray, List.getElem?_cons_succ, List.getElem?_cons_zero]; exact rfl
      · simp only [List.getElem?_toArray, List.getElem?_cons_succ, List.getElem?_cons_zero]; exact rfl
      · have hh := HCA.out a b ab p q HL.out.e2 (HLN.out _ (by simp)) (HLN.out _ (by simp)) _ (HE.out.trans hJ.1) hJ.2
        go_simp
        go_at_call 41
        refine hh.mono ?_
        rintro e W2 ⟨rfl, hE⟩
        go_wp2_with fail
        refine hK.out _ _ (hJ.2.ext hE).at_ (fun hHeld => ?_)
        clear hK K
        (try simp only [List.setIfInBounds_toArray, List.set_cons_zero, List.set_cons_succ])
        have hSn := (hJ.2.ext hE).at_
        exact wpAnyE_swap (by kernel_rfl) (IB (by omega) W2 ⟨hJ.1.trans hE, hJ.2.ext hE⟩)
      · go_simp
        have hE : Ext W (W.alloc (.cells #[txt c, txt b, txt a] 23)) := (by repeat (first | with_reducible exact Ext.refl _ | with_reducible assumption | with_reducible apply Ext.drewN | with_reducible apply Ext.drew | with_reducible apply Ext.alloc | ((with_reducible refine Ext.set ?_ ?_ _); rotate_left; first | omega | (simp; omega)) | (with_reducible refine Ext.trans ?_ (by with_reducible assumption))))
        refine hK.out _ _ (hJ.2.ext hE).at_ (fun hHeld => ?_)
        clear hK K
        (try simp only [List.setIfInBounds_toArray, List.set_cons_zero, List.set_cons_succ])
        exact wpAnyE_swap (by kernel_rfl) (IA W.heap.size _ ⟨hJ.1.trans hE, hJ.2.ext hE⟩ (cells_txts W [c, b, a] _))
    | 7, _, IA, IB =>
     as_aux_lemma =>
      dsimp only [List.getD_cons_zero, List.getD_cons_succ]; simp only [rs, Nat.reduceLT, if_true, decide_true, if_false, decide_false]
      refine wpAnyE_two (i := 31) (j := 67) (o := ?_) (p := ?_) ?_ ?_ (by kernel_rfl) (fun K hK => ?_) (fun K hK => ?_)
      rotate_left 2
      · simp only [List.getElem?_toArray, List.getElem?_cons_succ, List.getElem?_cons_zero]; exact rfl
      · simp only [List.getElem?_toArray, List.getElem?_cons_succ, List.getElem?_cons_zero]; exact rfl
      · have hh := HCA.out ab c abc p q HL.out.e7 (HLN.out _ (by simp)) (HLN.out _ (by simp)) _ (HE.out.trans hJ.1) hJ.2
        go_simp
        go_at_call 41
        refine hh.mono ?_
        rintro e W2 ⟨rfl, hE⟩
        go_wp2_with fail
        refine hK.out _ _ (hJ.2.ext hE).at_ (fun hHeld => ?_)
        clear hK K
        (try simp only [List.setIfInBounds_toArray, List.set_cons_zero, List.set_cons_succ])
        have hSn := (hJ.2.ext hE).at_
        ((refine wpAnyE_pure (i := 32) (oi := ?_) (v := ?_) ?_ (by kernel_rfl) ?_ ?_ ?_ ?_; rotate_left 2; (focus ((simp only [List.getElem?_toArray, List.getElem?_cons_succ, List.getElem?_cons_zero]; exact rfl))); (focus (exact fun _ _ _ h => h)); (focus (refine Or.inl ⟨by rfl, ?_⟩; intro w hSw; clear hSw; (first | (go_simp; done) | (go_simp; with_reducible rfl)))); (focus (first | exact (fun _ => by assumption) | (intro hlst; exact absurd hlst (by kernel_rfl)) | (intro hlst; cases hlst))); (try simp only [Act.put, List.setIfInBounds_toArray, List.set_cons_zero, List.set_cons_succ])))
        exact wpAnyE_swap (by kernel_rfl) (IB (by omega) W2 ⟨hJ.1.trans hE, hJ.2.ext hE⟩)
      · go_simp
        have hE : Ext W (W.alloc (.cells #[txt c, txt b, txt a] 23)) := (by repeat (first | with_reducible exact Ext.refl _ | with_reducible assumption | with_reducible apply Ext.drewN | with_reducible apply Ext.drew | with_reducible apply Ext.alloc | ((with_reducible refine Ext.set ?_ ?_ _); rotate_left; first | omega | (simp; omega)) | (with_reducible refine Ext.trans ?_ (by with_reducible assumption))))
        refine hK.out _ _ (hJ.2.ext hE).at_ (fun hHeld => ?_)
        clear hK K
        (try simp only [List.setIfInBounds_toArray, List.set_cons_zero, List.set_cons_succ])
        exact wpAnyE_swap (by kernel_rfl) (IA W.heap.size _ ⟨hJ.1.trans hE, hJ.2.ext hE⟩ (cells_txts W [c, b, a] _))
    | 8, _, IA, IB =>
     as_aux_lemma =>
      dsimp only [List.getD_cons_zero, List.getD_cons_succ]; simp only [rs, Nat.reduceLT, if_true, decide_true, if_false, decide_false]
      refine wpAnyE_two (i := 37) (j := 67) (o := ?_) (p := ?_) ?_ ?_ (by kernel_rfl) (fun K hK => ?_) (fun K hK => ?_)
      rotate_left 2
      · simp only [List.getElem?_toArray, List.getElem?_cons_succ, List.getElem?_cons_zero]; exact rfl
      · simp only [List.getElem?_toArray, List.getElem?_cons_succ, List.getElem?_cons_zero]; exact rfl
      · have hh := HCA.out a b ab p q HL.out.e2 (HLN.out _ (by simp)) (HLN.out _ (by simp)) _ (HE.out.trans hJ.1) hJ.2
        go_simp
        go_at_call 41
        refine hh.mono ?_
        rintro e W2 ⟨rfl, hE⟩
        go_wp2_with fail
        refine hK.out _ _ (hJ.2.ext hE).at_ (fun hHeld => ?_)
        clear hK K
        (try simp only [List.setIfInBounds_toArray, List.set_cons_zero, List.set_cons_succ])
        have hSn := (hJ.2.ext hE).at_
        exact wpAnyE_swap (by kernel_rfl) (IB (by omega) W2 ⟨hJ.1.trans hE, hJ.2.ext hE⟩)
      · go_simp
        have hE : Ext W (W.alloc (.cells #[txt c, txt b, txt a] 23)) := (by repeat (first | with_reducible exact Ext.refl _ | with_reducible assumption | with_reducible apply Ext.drewN | with_reducible apply Ext.drew | with_reducible apply Ext.alloc | ((with_reducible refine Ext.set ?_ ?_ _); rotate_left; first | omega | (simp; omega)) | (with_reducible refine Ext.trans ?_ (by with_reducible assumption))))
        refine hK.out _ _ (hJ.2.ext hE).at_ (fun hHeld => ?_)
        clear hK K
        (try simp only [List.setIfInBounds_toArray, List.set_cons_zero, List.set_cons_succ])
        exact wpAnyE_swap (by kernel_rfl) (IA W.heap.size _ ⟨hJ.1.trans hE, hJ.2.ext hE⟩ (cells_txts W [c, b, a] _))
    | 9, _, IA, IB =>
     as_aux_lemma =>
      dsimp only [List.getD_cons_zero, List.getD_cons_succ]; simp only [rs, Nat.reduceLT, if_true, decide_true, if_false, decide_false]
      refine wpAnyE_two (i := 39) (j := 67) (o := ?_) (p := ?_) ?_ ?_ (by kernel_rfl) (fun K hK => ?_) (fun K hK => ?_)
      rotate_left 2
      · simp only [List.getElem?_toArray, List.getElem?_cons_succ, List.getElem?_cons_zero]; exact rfl
      · simp only [List.getElem?_toArray, List.getElem?_cons_succ, List.getElem?_cons_zero]; exact rfl
      · have hh := HCM.out ab c X p q HL.out.e8 (HLN.out _ (by simp)) (HLN.out _ (by simp)) _ (HE.out.trans hJ.1) hJ.2
        go_simp
        go_at_call 43
        refine hh.mono ?_
        rintro e W2 ⟨rfl, hE⟩
        go_wp2_with fail
        refine hK.out _ _ (hJ.2.ext hE).at_ (fun hHeld => ?_)
        clear hK K
        (try simp only [List.setIfInBounds_toArray, List.set_cons_zero, List.set_cons_succ])
        have hSn := (hJ.2.ext hE).at_
        exact wpAnyE_swap (by kernel_rfl) (IB (by omega) W2 ⟨hJ.1.trans hE, hJ.2.ext hE⟩)
      · go_simp
        have hE : Ext W (W.alloc (.cells #[txt c, txt b, txt a] 23)) := (by repeat (first | with_reducible exact Ext.refl _ | with_reducible assumption | with_reducible apply Ext.drewN | with_reducible apply Ext.drew | with_reducible apply Ext.alloc | ((with_reducible refine Ext.set ?_ ?_ _); rotate_left; first | omega | (simp; omega)) | (with_reducible refine Ext.trans ?_ (by with_reducible assumption))))
        refine hK.out _ _ (hJ.2.ext hE).at_ (fun hHeld => ?_)
        clear hK K
        (try simp only [List.setIfInBounds_toArray, List.set_cons_zero, List.set_cons_succ])
        exact wpAnyE_swap (by kernel_rfl) (IA W.heap.size _ ⟨hJ.1.trans hE, hJ.2.ext hE⟩ (cells_txts W [c, b, a] _))
    | 10, _, IA, IB =>
     as_aux_lemma =>
      dsimp only [List.getD_cons_zero, List.getD_cons_succ]; simp only [rs, Nat.reduceLT, if_true, decide_true, if_false, decide_false]
      refine wpAnyE_two (i := 44) (j := 67) (o := ?_) (p := ?_) ?_ ?_ (by kernel_rfl) (fun K hK => ?_) (fun K hK => ?_)
      rotate_left 2
      · simp only [List.getElem?_toArray, List.getElem?_cons_succ, List.getElem?_cons_zero]; exact rfl
      · simp only [List.getElem?_toArray, List.getElem?_cons_succ, List.getElem?_cons_zero]; exact rfl
      · have hh := HCM.out a c acm p q HL.out.e9 (HLN.out _ (by simp)) (HLN.out _ (by simp)) _ (HE.out.trans hJ.1) hJ.2
        go_simp
        go_at_call 43
        refine hh.mono ?_
        rintro e W2 ⟨rfl, hE⟩
        go_wp2_with fail
        refine hK.out _ _ (hJ.2.ext hE).at_ (fun hHeld => ?_)
        clear hK K
        (try simp only [List.setIfInBounds_toArray, List.set_cons_zero, List.set_cons_succ])
        have hSn := (hJ.2.ext hE).at_
        exact wpAnyE_swap (by kernel_rfl) (IB (by omega) W2 ⟨hJ.1.trans hE, hJ.2.ext hE⟩)
      · go_simp
        have hE : Ext W (W.alloc (.cells #[txt c, txt b, txt a] 23)) := (by repeat (first | with_reducible exact Ext.refl _ | with_reducible assumption | with_reducible apply Ext.drewN | with_reducible apply Ext.drew | with_reducible apply Ext.alloc | ((with_reducible refine Ext.set ?_ ?_ _); rotate_left; first | omega | (simp; omega)) | (with_reducible refine Ext.trans ?_ (by with_reducible assumption))))
        refine hK.out _ _ (hJ.2.ext hE).at_ (fun hHeld => ?_)
        clear hK K
        (try simp only [List.setIfInBounds_toArray, List.set_cons_zero, List.set_cons_succ])
        exact wpAnyE_swap (by kernel_rfl) (IA W.heap.size _ ⟨hJ.1.trans hE, hJ.2.ext hE⟩ (cells_txts W [c, b, a] _))
    | 11, _, IA, IB =>
     as_aux_lemma =>
      dsimp only [List.getD_cons_zero, List.getD_cons_succ]; simp only [rs, Nat.reduceLT, if_true, decide_true, if_false, decide_false]
      refine wpAnyE_two (i := 48) (j := 67) (o := ?_) (p := ?_) ?_ ?_ (by kernel_rfl) (fun K hK => ?_) (fun K hK => ?_)
      rotate_left 2
      · simp only [List.getElem?_toArray, List.getElem?_cons_succ, List.getElem?_cons_zero]; exact rfl
      · simp only [List.getElem?_toArray, List.getElem?_cons_succ, List.getElem?_cons_zero]; exact rfl
      · have hh := HCM.out b c bcm p q HL.out.e10 (HLN.out _ (by simp)) (HLN.out _ (by simp)) _ (HE.out.trans hJ.1) hJ.2
        go_simp
        go_at_call 43
        refine hh.mono ?_
        rintro e W2 ⟨rfl, hE⟩
        go_wp2_with fail
        refine hK.out _ _ (hJ.2.ext hE).at_ (fun hHeld => ?_)
        clear hK K
        (try simp only [List.setIfInBounds_toArray, List.set_cons_zero, List.set_cons_succ])
        have hSn := (hJ.2.ext hE).at_
        exact wpAnyE_swap (by kernel_rfl) (IB (by omega) W2 ⟨hJ.1.trans hE, hJ.2.ext hE⟩)
      · go_simp
        have hE : Ext W (W.alloc (.cells #[txt c, txt b, txt a] 23)) := (by repeat (first | with_reducible exact Ext.refl _ | with_reducible assumption | with_reducible apply Ext.drewN | with_reducible apply Ext.drew | with_reducible apply Ext.alloc | ((with_reducible refine Ext.set ?_ ?_ _); rotate_left; first | omega | (simp; omega)) | (with_reducible refine Ext.trans ?_ (by with_reducible assumption))))
        refine hK.out _ _ (hJ.2.ext hE).at_ (fun hHeld => ?_)
        clear hK K
        (try simp only [List.setIfInBounds_toArray, List.set_cons_zero, List.set_cons_succ])
        exact wpAnyE_swap (by kernel_rfl) (IA W.heap.size _ ⟨hJ.1.trans hE, hJ.2.ext hE⟩ (cells_txts W [c, b, a] _))
    | 12, _, IA, IB =>
     as_aux_lemma =>
      dsimp only [List.getD_cons_zero, List.getD_cons_succ]; simp only [rs, Nat.reduceLT, if_true, decide_true, if_false, decide_false]
      refine wpAnyE_two (i := 49) (j := 67) (o := ?_) (p := ?_) ?_ ?_ (by kernel_rfl) (fun K hK => ?_) (fun K hK => ?_)
      rotate_left 2
      · simp only [List.getElem?_toArray, List.getElem?_cons_succ, List.getElem?_cons_zero]; exact rfl
      · simp only [List.getElem?_toArray, List.getElem?_cons_succ, List.getElem?_cons_zero]; exact rfl
      · have hh := HCA.out acm bcm X p q HL.out.e11 (HLN.out _ (by simp)) (HLN.out _ (by simp)) _ (HE.out.trans hJ.1) hJ.2
        go_simp
        go_at_call 41
        refine hh.mono ?_
        rintro e W2 ⟨rfl, hE⟩
        go_wp2_with fail
        refine hK.out _ _ (hJ.2.ext hE).at_ (fun hHeld => ?_)
        clear hK K
        (try simp only [List.setIfInBounds_toArray, List.set_cons_zero, List.set_cons_succ])
        have hSn := (hJ.2.ext hE).at_
        ((refine wpAnyE_pure (i := 50) (oi := ?_) (v := ?_) ?_ (by kernel_rfl) ?_ ?_ ?_ ?_; rotate_left 2; (focus ((simp only [List.getElem?_toArray, List.getElem?_cons_succ, List.getElem?_cons_zero]; exact rfl))); (focus (exact fun _ _ _ h => h)); (focus (refine Or.inl ⟨by rfl, ?_⟩; intro w hSw; clear hSw; (first | (go_simp; done) | (go_simp; with_reducible rfl)))); (focus (first | exact (fun _ => by assumption) | (intro hlst; exact absurd hlst (by kernel_rfl)) | (intro hlst; cases hlst))); (try simp only [Act.put, List.setIfInBounds_toArray, List.set_cons_zero, List.set_cons_succ])))
        exact wpAnyE_swap (by kernel_rfl) (IB (by omega) W2 ⟨hJ.1.trans hE, hJ.2.ext hE⟩)
      · go_simp
        have hE : Ext W (W.alloc (.cells #[txt c, txt b, txt a] 23)) := (by repeat (first | with_reducible exact Ext.refl _ | with_reducible assumption | with_reducible apply Ext.drewN | with_reducible apply Ext.drew | with_reducible apply Ext.alloc | ((with_reducible refine Ext.set ?_ ?_ _); rotate_left; first | omega | (simp; omega)) | (with_reducible refine Ext.trans ?_ (by with_reducible assumption))))
        refine hK.out _ _ (hJ.2.ext hE).at_ (fun hHeld => ?_)
        clear hK K
        (try simp only [List.setIfInBounds_toArray, List.set_cons_zero, List.set_cons_succ])
        exact wpAnyE_swap (by kernel_rfl) (IA W.heap.size _ ⟨hJ.1.trans hE, hJ.2.ext hE⟩ (cells_txts W [c, b, a] _))
    | 13, _, IA, IB =>
     as_aux_lemma =>
      dsimp only [List.getD_cons_zero, List.getD_cons_succ]; simp only [rs, Nat.reduceLT, if_true, decide_true, if_false, decide_false]
      refine wpAnyE_two (i := 55) (j := 67) (o := ?_) (p := ?_) ?_ ?_ (by kernel_rfl) (fun K hK => ?_) (fun K hK => ?_)
      rotate_left 2
      · simp only [List.getElem?_toArray, List.getElem?_cons_succ, List.getElem?_cons_zero]; exact rfl
      · simp only [List.getElem?_toArray, List.getElem?_cons_succ, List.getElem?_cons_zero]; exact rfl
      · have hh := HCA.out a c ac p q HL.out.e12 (HLN.out _ (by simp)) (HLN.out _ (by simp)) _ (HE.out.trans hJ.1) hJ.2
        go_simp
        go_at_call 41
        refine hh.mono ?_
        rintro e W2 ⟨rfl, hE⟩
        go_wp2_with fail
        refine hK.out _ _ (hJ.2.ext hE).at_ (fun hHeld => ?_)
        clear hK K
        (try simp only [List.setIfInBounds_toArray, List.set_cons_zero, List.set_cons_succ])
        have hSn := (hJ.2.ext hE).at_
        exact wpAnyE_swap (by kernel_rfl) (IB (by omega) W2 ⟨hJ.1.trans hE, hJ.2.ext hE⟩)
      · go_simp
        have hE : Ext W (W.alloc (.cells #[txt c, txt b, txt a] 23)) := (by repeat (first | with_reducible exact Ext.refl _ | with_reducible assumption | with_reducible apply Ext.drewN | with_reducible apply Ext.drew | with_reducible apply Ext.alloc | ((with_reducible refine Ext.set ?_ ?_ _); rotate_left; first | omega | (simp; omega)) | (with_reducible refine Ext.trans ?_ (by with_reducible assumption))))
        refine hK.out _ _ (hJ.2.ext hE).at_ (fun hHeld => ?_)
        clear hK K
        (try simp only [List.setIfInBounds_toArray, List.set_cons_zero, List.set_cons_succ])
        exact wpAnyE_swap (by kernel_rfl) (IA W.heap.size _ ⟨hJ.1.trans hE, hJ.2.ext hE⟩ (cells_txts W [c, b, a] _))
    | 14, _, IA, IB =>
     as_aux_lemma =>
      dsimp only [List.getD_cons_zero, List.getD_cons_succ]; simp only [rs, Nat.reduceLT, if_true, decide_true, if_false, decide_false]
      refine wpAnyE_two (i := 57) (j := 67) (o := ?_) (p := ?_) ?_ ?_ (by kernel_rfl) (fun K hK => ?_) (fun K hK => ?_)
      rotate_left 2
      · simp only [List.getElem?_toArray, List.getElem?_cons_succ, List.getElem?_cons_zero]; exact rfl
      · simp only [List.getElem?_toArray, List.getElem?_cons_succ, List.getElem?_cons_zero]; exact rfl
      · have hh := HSB.out _ (HE.out.trans hJ.1)
        go_simp
        go_at_call 31
        refine hh.mono ?_
        rintro e W2 ⟨rfl, hE⟩
        go_wp2_with fail
        refine hK.out _ _ (hJ.2.ext hE).at_ (fun hHeld => ?_)
        clear hK K
        (try simp only [List.setIfInBounds_toArray, List.set_cons_zero, List.set_cons_succ])
        have hSn := (hJ.2.ext hE).at_
        ((refine wpAnyE_pure (i := 58) (oi := ?_) (v := ?_) ?_ (by kernel_rfl) ?_ ?_ ?_ ?_; rotate_left 2; (focus ((simp only [List.getElem?_toArray, List.getElem?_cons_succ, List.getElem?_cons_zero]; exact rfl))); (focus (exact fun _ _ _ h => h)); (focus (refine Or.inl ⟨by rfl, ?_⟩; intro w hSw; clear hSw; (first | (go_simp; done) | (go_simp; with_reducible rfl)))); (focus (first | exact (fun _ => by assumption) | (intro hlst; exact absurd hlst (by kernel_rfl)) | (intro hlst; cases hlst))); (try simp only [Act.put, List.setIfInBounds_toArray, List.set_cons_zero, List.set_cons_succ])); (refine wpAnyE_pure (i := 59) (oi := ?_) (v := ?_) ?_ (by kernel_rfl) ?_ ?_ ?_ ?_; rotate_left 2; (focus ((simp only [List.getElem?_toArray, List.getElem?_cons_succ, List.getElem?_cons_zero]; exact rfl))); (focus (exact fun _ _ _ h => h)); (focus (refine Or.inl ⟨by rfl, ?_⟩; intro w hSw; clear hSw; (first | (go_simp; done) | (go_simp; with_reducible rfl)))); (focus (first | exact (fun _ => by assumption) | (intro hlst; exact absurd hlst (by kernel_rfl)) | (intro hlst; cases hlst))); (try simp only [Act.put, List.setIfInBounds_toArray, List.set_cons_zero, List.set_cons_succ])))
        exact wpAnyE_swap (by kernel_rfl) (IB (by omega) W2 ⟨hJ.1.trans hE, hJ.2.ext hE⟩)
      · go_simp
        have hE : Ext W (W.alloc (.cells #[txt c, txt b, txt a] 23)) := (by repeat (first | with_reducible exact Ext.refl _ | with_reducible assumption | with_reducible apply Ext.drewN | with_reducible apply Ext.drew | with_reducible apply Ext.alloc | ((with_reducible refine Ext.set ?_ ?_ _); rotate_left; first | omega | (simp; omega)) | (with_reducible refine Ext.trans ?_ (by with_reducible assumption))))
        refine hK.out _ _ (hJ.2.ext hE).at_ (fun hHeld => ?_)
        clear hK K
        (try simp only [List.setIfInBounds_toArray, List.set_cons_zero, List.set_cons_succ])
        exact wpAnyE_swap (by kernel_rfl) (IA W.heap.size _ ⟨hJ.1.trans hE, hJ.2.ext hE⟩ (cells_txts W [c, b, a] _))
    | 15, _, IA, IB =>
     as_aux_lemma =>
      dsimp only [List.getD_cons_zero, List.getD_cons_succ]; simp only [rs, Nat.reduceLT, if_true, decide_true, if_false, decide_false]
      refine wpAnyE_two (i := 60) (j := 67) (o := ?_) (p := ?_) ?_ ?_ (by kernel_rfl) (fun K hK => ?_) (fun K hK => ?_)
      rotate_left 2
      · simp only [List.getElem?_toArray, List.getElem?_cons_succ, List.getElem?_cons_zero]; exact rfl
      · simp only [List.getElem?_toArray, List.getElem?_cons_succ, List.getElem?_cons_zero]; exact rfl
      · have hh := of_ok a p q _ hJ.2
        go_simp
        go_at_call 42
        refine hh.mono ?_
        rintro e W2 ⟨rfl, hE⟩
        go_wp2_with fail
        refine hK.out _ _ (hJ.2.ext hE).at_ (fun hHeld => ?_)
        clear hK K
        (try simp only [List.setIfInBounds_toArray, List.set_cons_zero, List.set_cons_succ])
        have hSn := (hJ.2.ext hE).at_
        ((refine wpAnyE_pure (i := 62) (oi := ?_) (v := ?_) ?_ (by kernel_rfl) ?_ ?_ ?_ ?_; rotate_left 2; (focus ((simp only [List.getElem?_toArray, List.getElem?_cons_succ, List.getElem?_cons_zero]; exact rfl))); (focus (exact fun _ _ _ h => h)); (focus (refine Or.inl ⟨by rfl, ?_⟩; intro w hSw; clear hSw; (first | (go_simp; done) | (go_simp; with_reducible rfl)))); (focus (first | exact (fun _ => by assumption) | (intro hlst; exact absurd hlst (by kernel_rfl)) | (intro hlst; cases hlst))); (try simp only [Act.put, List.setIfInBounds_toArray, List.set_cons_zero, List.set_cons_succ])))
        exact wpAnyE_swap (by kernel_rfl) (IB (by omega) W2 ⟨hJ.1.trans hE, hJ.2.ext hE⟩)
      · go_simp
        have hE : Ext W (W.alloc (.cells #[txt c, txt b, txt a] 23)) := (by repeat (first | with_reducible exact Ext.refl _ | with_reducible assumption | with_reducible apply Ext.drewN | with_reducible apply Ext.drew | with_reducible apply Ext.alloc | ((with_reducible refine Ext.set ?_ ?_ _); rotate_left; first | omega | (simp; omega)) | (with_reducible refine Ext.trans ?_ (by with_reducible assumption))))
        refine hK.out _ _ (hJ.2.ext hE).at_ (fun hHeld => ?_)
        clear hK K
        (try simp only [List.setIfInBounds_toArray, List.set_cons_zero, List.set_cons_succ])
        exact wpAnyE_swap (by kernel_rfl) (IA W.heap.size _ ⟨hJ.1.trans hE, hJ.2.ext hE⟩ (cells_txts W [c, b, a] _))
    | 16, _, IA, _ =>
     as_aux_lemma =>
      dsimp only [List.getD_cons_zero, List.getD_cons_succ]; simp only [rs, Nat.reduceLT, if_true, decide_true]
      have hE : Ext W (W.alloc (.cells #[txt c, txt b, txt a] 23)) := (by repeat (first | with_reducible exact Ext.refl _ | with_reducible assumption | with_reducible apply Ext.drewN | with_reducible apply Ext.drew | with_reducible apply Ext.alloc | ((with_reducible refine Ext.set ?_ ?_ _); rotate_left; first | omega | (simp; omega)) | (with_reducible refine Ext.trans ?_ (by with_reducible assumption))))
      (refine wpAnyE_one (i := 67) (o := ?_) ?_ (by kernel_rfl) (fun K hK => ?_); rotate_left; (focus ((simp only [List.getElem?_toArray, List.getElem?_cons_succ, List.getElem?_cons_zero]; exact rfl))); go_simp; refine hK.out _ _ ?_ (fun hHeld => ?_); rotate_left; clear hK K; (try simp only [List.setIfInBounds_toArray, List.set_cons_zero, List.set_cons_succ]))
      rotate_left
      · exact (hJ.2.ext hE).at_
      exact wpAnyE_swap (by kernel_rfl) (IA W.heap.size _ ⟨hJ.1.trans hE, hJ.2.ext hE⟩ (cells_txts W [c, b, a] _))
    | n + 17, h, _, _ => exact absurd h (by omega)
end Go.Proofs.YtpfanpkinlklnaaGreatDoor
