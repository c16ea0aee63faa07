/- Steps of the proof: FLMak. No conditions. -/
import Derived.Test.YtpfanpkinlklnaaGreatDoorZFB1
import Derived.Test.YtpfanpkinlklnaaGreatDoorZFB2
import Derived.Test.YtpfanpkinlklnaaGreatDoorZFB3
import Derived.Test.YtpfanpkinlklnaaGreatDoorZFB4
import Derived.Test.YtpfanpkinlklnaaGreatDoorZFB5
import Derived.Test.YtpfanpkinlklnaaGreatDoorZFB6
import Derived.Test.YtpfanpkinlklnaaGreatDoorZFB7
import Derived.Test.YtpfanpkinlklnaaGreatDoorZFB8
import Derived.Test.YtpfanpkinlklnaaGreatDoorZFB9
import Derived.Test.YtpfanpkinlklnaaGreatDoorZFB10
import Derived.Test.YtpfanpkinlklnaaGreatDoorZFB11
/- The laws' functions FractionMakes and FractionCounts. -/
namespace Go.Proofs.YtpfanpkinlklnaaGreatDoor
open Go.RowKit
open Go.Lib (decDigits itoa)

theorem beq_self (l : Txt) : (l == l) = true := beq_self_eq_true l
/-- the law's function answers true -/
def TrueP (w : World) (e : Ending) (w' : World) : Prop := e = .returned (.bool true) ∧ Ext w w'
set_option maxHeartbeats 4000000 in
set_option maxRecDepth 100000 in
theorem lawMakes_any (s t : Txt) (w : World) (hG : Glob w) : Calls Tryz.prog 3 #[txt s, txt t] w (TrueP w) := by
  have HG := Lib.hid hG
  have HA : Hid (∀ W, Ext w W → Calls Tryz.prog 13 #[] W fun e w' => e = .returned (.bool true) ∧ Ext W w') := fun W h => awake_any W (HG.out.ext h)
  have HF1 := Lib.hid (fun W => fewR_any s W)
  have HF2 := Lib.hid (fun W => fewR_any t W)
  clear hG
  unfold TrueP
  by_cases hs : s.length ≤ 180
  · rw [decide_eq_true hs] at HF1
    by_cases ht : t.length ≤ 180
    · rw [decide_eq_true ht] at HF2
      have HM : Hid (∀ W, Ext w W → Calls Tryz.prog 14 #[txt s, txt t] W (ResP (makeR s t) W)) := fun W h => make_any s t W (HG.out.ext h) (by omega) (by omega)
      have HR : Hid (∀ W, Calls Tryz.prog 15 #[txt s, txt t] W (ResP (makeR s t) W)) := fun W => makeR_any s t W (by omega) (by omega)
      unfold ResP at HM HR
      generalize makeR s t = R at *
      clear hs ht
      have E := Ext.refl w
      go_enter Tryz.func3, Tryz.ntmps3
      go_wp2_with (go_at_call 12; first | (with_reducible refine (HF1.out _).mono ?_; rintro e w' ⟨rfl, rfl⟩) | (with_reducible refine (HF2.out _).mono ?_; rintro e w' ⟨rfl, rfl⟩))
      go_wp2_with (go_at_call 14; refine (HM.out _ E).mono ?_; rintro e w1 ⟨rfl, h⟩)
      replace E := E.trans h
      clear h
      go_wp2_with (go_at_call 15; refine (HR.out _).mono ?_; rintro e w2 ⟨rfl, h⟩)
      replace E := E.trans h
      clear h
      go_wp2_with (go_at_call 13; refine (HA.out _ E).mono ?_; rintro e w3 ⟨rfl, h⟩)
      have hb := beq_self R.1
      go_wp2
      go_ret
      exact ⟨rfl, E.trans h⟩
    · rw [decide_eq_false ht] at HF2
      clear hs ht
      have E := Ext.refl w
      go_enter Tryz.func3, Tryz.ntmps3
      go_wp2_with (go_at_call 12; first | (with_reducible refine (HF1.out _).mono ?_; rintro e w' ⟨rfl, rfl⟩) | (with_reducible refine (HF2.out _).mono ?_; rintro e w' ⟨rfl, rfl⟩))
      go_wp2_with (go_at_call 13; refine (HA.out _ E).mono ?_; rintro e w3 ⟨rfl, h⟩)
      go_ret
      exact ⟨rfl, h⟩
  · rw [decide_eq_false hs] at HF1
    clear hs
    have E := Ext.refl w
    go_enter Tryz.func3, Tryz.ntmps3
    go_wp2_with (go_at_call 12; (with_reducible refine (HF1.out _).mono ?_; rintro e w' ⟨rfl, rfl⟩))
    go_wp2_with (go_at_call 13; refine (HA.out _ E).mono ?_; rintro e w3 ⟨rfl, h⟩)
    go_ret
    exact ⟨rfl, h⟩
set_option maxHeartbeats 4000000 in
set_option maxRecDepth 100000 in
theorem lawCounts_any (m n : Int) (w : World) (hG : Glob w) (h1 : -9223372036854775808 ≤ m) (h2 : m ≤ 9223372036854775807) (h3 : -9223372036854775808 ≤ n) (h4 : n ≤ 9223372036854775807) :
    Calls Tryz.prog 4 #[.int .i64 m, .int .i64 n] w (TrueP w) := by
  have HG := Lib.hid hG
  have HA : Hid (∀ W, Ext w W → Calls Tryz.prog 13 #[] W fun e w' => e = .returned (.bool true) ∧ Ext W w') := fun W h => awake_any W (HG.out.ext h)
  have HM : Hid (∀ W, Ext w W → Calls Tryz.prog 16 #[.int .i64 m, .int .i64 n] W (ResP (makeR (itoa m) (itoa n)) W)) := fun W h => of_any m n W (HG.out.ext h) h1 h2 h3 h4
  have HR : Hid (∀ W, Calls Tryz.prog 17 #[.int .i64 m, .int .i64 n] W (ResP (makeR (itoa m) (itoa n)) W)) := fun W => ofR_any m n W h1 h2 h3 h4
  have HW1 : Hid (∀ W, Ext w W → Calls Tryz.prog 18 #[.int .i64 m] W fun e w' => e = .returned (txt (itoa m)) ∧ Ext W w') := fun W h => whole_any m W (HG.out.ext h) h1 h2
  have HW2 : Hid (∀ W, Calls Tryz.prog 19 #[.int .i64 m] W fun e w' => e = .returned (txt (itoa m)) ∧ Ext W w') := fun W => wholeR_any m W h1 h2
  clear hG
  unfold ResP at HM HR
  unfold TrueP
  generalize makeR (itoa m) (itoa n) = R at *
  have E := Ext.refl w
  go_enter Tryz.func4, Tryz.ntmps4
  go_wp2_with (go_at_call 16; refine (HM.out _ E).mono ?_; rintro e w1 ⟨rfl, h⟩)
  replace E := E.trans h
  clear h
  go_wp2_with (go_at_call 17; refine (HR.out _).mono ?_; rintro e w2 ⟨rfl, h⟩)
  replace E := E.trans h
  clear h
  have hb := beq_self R.1
  have hb2 := beq_self (itoa m)
  generalize itoa m = tm at *
  go_wp2_with (go_at_call 13; refine (HA.out _ E).mono ?_; rintro e w3 ⟨rfl, h⟩)
  replace E := E.trans h
  clear h
  go_wp2_with (go_at_call 18; refine (HW1.out _ E).mono ?_; rintro e w4 ⟨rfl, h⟩)
  replace E := E.trans h
  clear h
  go_wp2_with (go_at_call 19; refine (HW2.out _).mono ?_; rintro e w5 ⟨rfl, h⟩)
  replace E := E.trans h
  clear h
  go_wp2
  go_ret
  exact ⟨rfl, E⟩
end Go.Proofs.YtpfanpkinlklnaaGreatDoor
