/- What the statement HangRopes needs beyond the common part: walks of the functions that it calls, the plain law, the row and its card, part 0. Condition: the laid table hang.tens, as the card ties it. -/
import Derived.Test.YtppighiaffppkaaDoorZA8
section
namespace Go.Proofs.YtppighiaffppkaaDoor.H
open Go.RowKit Go.Proofs.YtppighiaffppkaaDoorW.PrintWords Go.Proofs.YtppighiaffppkaaDoorW.PrintLast Go.Proofs.YtppighiaffppkaaDoorW.PrintMore
attribute [local go_sem] max2_int min2_int max_two min_two max_three min_three max_four min_four
set_option linter.unusedSimpArgs false
set_option linter.unusedVariables false
def cr1_First.l0 : Nat → List Int → Int → Option (Int)
 | 0, _, _ => none
 | k + 1, x0, x3 => if x3 < (x0.length : Int) then (if 0 ≤ x3 then (if (rd x0 x3) = 0 then (cr1_First.l0 k x0 (wrap64 (x3 + 1))) else (some (rd x0 x3))) else (none)) else (some 0)
def cr1_First.f (k : Nat) (l0 : List Int) : Option (Int) := cr1_First.l0 k l0 0
set_option maxHeartbeats 8000000 in
set_option maxRecDepth 100000 in
theorem cr1_First.calls (k : Nat) (A0 : Option Addr) (c0 : Nat) (l0 : List Int) (r : Int) (w : World) (hr0 : Kd.C (Kd.int .i64) w A0 l0.length l0) (hc0 : l0.length ≤ c0) (h : cr1_First.f k l0 = some r) :
  Calls Tryd.prog 26 #[.slice A0 l0.length c0] w fun e w' => e = .returned (.int .i64 r) ∧ Drawn0 w w' := by
 have HR0 := Z0.mk hr0
 have HC0 := Z0.mk hc0
 clear hr0 hc0
 have H : (cr1_First.l0 k l0 0) = some r := h
 clear h
 have H' := Z0.mk H
 clear H
 go_enter Tryd.func26, Tryd.ntmps26
 go_wp2
 go_loopg [3] k (fun kq v3 w' => ∃ (x3_1 : Int), v3 = .int .i64 x3_1 ∧ Z0 (cr1_First.l0 kq l0 x3_1 = some r) ∧ Z0 (kq ≤ k) ∧ Drawn0 w w')
 case atStart => exact ⟨(0), (by first | rfl | (simp; done) | (simp [*]; done)), H', ⟨Nat.le_refl _⟩, by repeat (first | exact Drawn0.refl _ | apply Drawn0.step)⟩
 case round =>
  clear H'
  obtain ⟨x3_1, rfl, HA, HK1, ⟨m1, rfl⟩⟩ := hrel
  cases gk with
  | zero => exact absurd HA.out (by simp [cr1_First.l0])
  | succ k1 =>
   have H := HA.out
   clear HA
   simp only [cr1_First.l0] at H
   by_cases c2 : x3_1 < (l0.length : Int)
   ·rw [if_pos c2] at H
    have c2b0 : decide (x3_1 < (l0.length : Int)) = true := decide_eq_true c2
    clear c2
    by_cases c3 : 0 ≤ x3_1
    ·rw [if_pos c3] at H
     have c3b0 : decide (0 ≤ x3_1) = true := decide_eq_true c3
     clear c3
     by_cases c4 : (rd l0 x3_1) = 0
     ·rw [if_pos c4] at H
      have c4b0 : ((rd l0 x3_1) == 0) = true := beq_iff_eq.mpr c4
      have c4b1 : ((rd l0 x3_1) != 0) = false := bne_eq_false_iff_eq.mpr c4
      clear c4
      have H' := Z0.mk H
      clear H
      have p273 : 0 ≤ (x3_1 : Int) := of_decide_eq_true (by first | (with_reducible assumption) | assumption)
      have q273 : x3_1 < (l0.length : Int) := of_decide_eq_true (by first | (with_reducible assumption) | assumption)
      obtain ⟨ad273, e273, hx273_0⟩ := Kd.at_int HR0.out x3_1 p273 q273
      cases e273
      replace p273 := eq_true p273
      replace q273 := eq_true q273
      go_wp2
      go_roundg k1
      case measure => have := HK1.out; omega
      case rel => exact ⟨(wrap64 (x3_1 + 1)), (by first | rfl | (simp; done) | (simp [*]; done)), H', ⟨by have := HK1.out; omega⟩, by repeat (first | exact Drawn0.refl _ | apply Drawn0.step)⟩
     ·rw [if_neg c4] at H
      have c4b0 : ((rd l0 x3_1) == 0) = false := beq_eq_false_iff_ne.mpr c4
      have c4b1 : ((rd l0 x3_1) != 0) = true := bne_iff_ne.mpr c4
      obtain rfl := Option.some.inj H
      have p273 : 0 ≤ (x3_1 : Int) := of_decide_eq_true (by first | (with_reducible assumption) | assumption)
      have q273 : x3_1 < (l0.length : Int) := of_decide_eq_true (by first | (with_reducible assumption) | assumption)
      obtain ⟨ad273, e273, hx273_0⟩ := Kd.at_int HR0.out x3_1 p273 q273
      cases e273
      replace p273 := eq_true p273
      replace q273 := eq_true q273
      have p274 : 0 ≤ (x3_1 : Int) := of_decide_eq_true (by first | (with_reducible assumption) | assumption)
      have q274 : x3_1 < (l0.length : Int) := of_decide_eq_true (by first | (with_reducible assumption) | assumption)
      obtain ⟨ad274, e274, hx274_0⟩ := Kd.at_int HR0.out x3_1 p274 q274
      obtain rfl : ad273 = ad274 := (by injection e274)
      replace p274 := eq_true p274
      replace q274 := eq_true q274
      go_wp2
      go_ret
      exact ⟨by first | rfl | (simp; done) | (simp [*]; done), by repeat (first | exact Drawn0.refl _ | apply Drawn0.step)⟩
    ·rw [if_neg c3] at H
     exact absurd H (by simp)
   ·rw [if_neg c2] at H
    have c2b0 : decide (x3_1 < (l0.length : Int)) = false := decide_eq_false c2
    clear c2
    obtain rfl := Option.some.inj H
    go_wp2
    go_ret
    exact ⟨by first | rfl | (simp; done) | (simp [*]; done), by repeat (first | exact Drawn0.refl _ | apply Drawn0.step)⟩
def cr1_CheckRange.f (a0 : Int) (a1 : Int) (a2 : Int) : Option (Int) := if a0 < a1 then (some 3) else (if a0 > a2 then (some 3) else (some 0))
set_option maxHeartbeats 8000000 in
set_option maxRecDepth 100000 in
theorem cr1_CheckRange.calls (a0 : Int) (a1 : Int) (a2 : Int) (r : Int) (w : World) (h : cr1_CheckRange.f a0 a1 a2 = some r) :
  Calls Tryd.prog 27 #[.int .i64 a0, .int .i64 a1, .int .i64 a2] w fun e w' => e = .returned (.int .i64 r) ∧ Drawn0 w w' := by
 have H : (if a0 < a1 then (some 3) else (if a0 > a2 then (some 3) else (some 0))) = some r := h
 clear h
 by_cases c4 : a0 < a1
 ·rw [if_pos c4] at H
  have c4b0 : decide (a0 < a1) = true := decide_eq_true c4
  clear c4
  obtain rfl := Option.some.inj H
  go_enter Tryd.func27, Tryd.ntmps27
  go_wp2
  go_ret
  exact ⟨by first | rfl | (simp; done) | (simp [*]; done), by repeat (first | exact Drawn0.refl _ | apply Drawn0.step)⟩
 ·rw [if_neg c4] at H
  have c4b0 : decide (a0 < a1) = false := decide_eq_false c4
  clear c4
  by_cases c5 : a0 > a2
  ·rw [if_pos c5] at H
   have c5b0 : decide (a2 < a0) = true := decide_eq_true c5
   clear c5
   obtain rfl := Option.some.inj H
   go_enter Tryd.func27, Tryd.ntmps27
   go_wp2
   go_ret
   exact ⟨by first | rfl | (simp; done) | (simp [*]; done), by repeat (first | exact Drawn0.refl _ | apply Drawn0.step)⟩
  ·rw [if_neg c5] at H
   have c5b0 : decide (a2 < a0) = false := decide_eq_false c5
   clear c5
   obtain rfl := Option.some.inj H
   go_enter Tryd.func27, Tryd.ntmps27
   go_wp2
   go_ret
   exact ⟨by first | rfl | (simp; done) | (simp [*]; done), by repeat (first | exact Drawn0.refl _ | apply Drawn0.step)⟩
end Go.Proofs.YtppighiaffppkaaDoor.H
end
section
namespace Go.Proofs.YtppighiaffppkaaDoor.H
open Go.RowKit Go.Proofs.YtppighiaffppkaaDoorW.PrintWords Go.Proofs.YtppighiaffppkaaDoorW.PrintLast Go.Proofs.YtppighiaffppkaaDoorW.PrintMore
attribute [local go_sem] max2_int min2_int max_two min_two max_three min_three max_four min_four
set_option linter.unusedVariables false
set_option linter.unusedSimpArgs false
mutual
def cr6_ShortSections.j0 : Nat → List (S112) → Bool → Option (Bool)
 | 0, _, _ => none
 | k + 1, x0, x11 => if x11 = true then (some false) else (cr6_ShortSections.l0 k x0 0)
def cr6_ShortSections.l0 : Nat → List (S112) → Int → Option (Bool)
 | 0, _, _ => none
 | k + 1, x0, x3 => if x3 < (x0.length : Int) then (if 0 ≤ x3 then (if ((rd_T112 x0 x3).f0) > 12 then (if ((rd_T112 x0 x3).f0) ≤ 300 then (some false) else (cr6_ShortSections.l0 k x0 (wrap64 (x3 + 1)))) else (cr6_ShortSections.l0 k x0 (wrap64 (x3 + 1)))) else (none)) else (some true)
end
def cr6_ShortSections.f (k : Nat) (l0 : List (S112)) : Option (Bool) := if (l0.length : Int) > 5 then (cr6_ShortSections.j0 k l0 ((l0.length : Int) != 33)) else (cr6_ShortSections.j0 k l0 false)
set_option maxHeartbeats 8000000 in
set_option maxRecDepth 100000 in
theorem cr6_ShortSections.calls (k : Nat) (A0 : Option Addr) (c0 : Nat) (l0 : List (S112)) (r : Bool) (w : World) (hr0 : Kd.C k112 w A0 l0.length l0) (hc0 : l0.length ≤ c0) (h : cr6_ShortSections.f k l0 = some r) :
  Calls Tryd.prog 38 #[.slice A0 l0.length c0] w fun e w' => e = .returned (.bool r) ∧ Drawn0 w w' := by
 have HR0 := Z0.mk hr0
 have HC0 := Z0.mk hc0
 clear hr0 hc0
 have H : (if (l0.length : Int) > 5 then (cr6_ShortSections.j0 k l0 ((l0.length : Int) != 33)) else (cr6_ShortSections.j0 k l0 false)) = some r := h
 clear h
 have HC2 := Z0.mk H
 clear H
 go_enter Tryd.func38, Tryd.ntmps38
 go_upto_region 1 with (fail)
 go_cut [11] (fun v11 wc => ∃ (kq : Nat) (x11_1 : Bool), v11 = .bool x11_1 ∧ Z0 (cr6_ShortSections.j0 kq l0 x11_1 = some r) ∧ Z0 (kq ≤ k) ∧ Drawn0 w wc)
 case first =>
  have H := HC2.out
  clear HC2
  by_cases c3 : (l0.length : Int) > 5
  ·rw [if_pos c3] at H
   have c3b0 : decide (5 < (l0.length : Int)) = true := decide_eq_true c3
   have c3b1 : decide (5 < l0.length) = true := decide_eq_true (by omega)
   clear c3
   (first | rw [c3b0] | (simp only [i64_w, i32_w]; rw [c3b0]) | skip)
   have H' := Z0.mk H
   clear H
   go_wp2
   go_meet
   case rel => exact ⟨_, (((l0.length : Int) != 33)), (by first | rfl | (simp; done) | (simp [*]; done)), H', ⟨by first | omega | exact Nat.le_refl _⟩, by repeat (first | exact Drawn0.refl _ | apply Drawn0.step)⟩
  ·rw [if_neg c3] at H
   have c3b0 : decide (5 < (l0.length : Int)) = false := decide_eq_false c3
   have c3b1 : decide (5 < l0.length) = false := decide_eq_false (by omega)
   clear c3
   (first | rw [c3b0] | (simp only [i64_w, i32_w]; rw [c3b0]) | skip)
   have H' := Z0.mk H
   clear H
   go_wp2
   go_meet
   case rel => exact ⟨_, (false), (by first | rfl | (simp; done) | (simp [*]; done)), H', ⟨by first | omega | exact Nat.le_refl _⟩, by repeat (first | exact Drawn0.refl _ | apply Drawn0.step)⟩
 case rest =>
  clear HC2
  try clear p2
  try clear c3
  try clear c3b0
  try clear c3b1
  obtain ⟨kq, x11_1, rfl, HA, HJ1, ⟨mc1, rfl⟩⟩ := hcut
  cases kq with
  | zero => exact absurd HA.out (by simp [cr6_ShortSections.j0])
  | succ kj1 =>
   have H := HA.out
   clear HA
   simp only [cr6_ShortSections.j0] at H
   by_cases c4 : x11_1 = true
   ·subst c4
    have H1 : (some false) = some r := by rw [if_pos rfl] at H; exact H
    clear H
    have H := H1
    clear H1
    obtain rfl := Option.some.inj H
    go_wp2
    go_ret
    exact ⟨by first | rfl | (simp; done) | (simp [*]; done), by repeat (first | exact Drawn0.refl _ | apply Drawn0.step)⟩
   ·replace c4 := Bool.eq_false_iff.mpr c4
    subst c4
    have H1 : (cr6_ShortSections.l0 kj1 l0 0) = some r := by rw [if_neg (show ¬ (false = true) by decide)] at H; exact H
    clear H
    have H := H1
    clear H1
    have H' := Z0.mk H
    clear H
    go_wp2
    go_loopg [3] kj1 (fun kq v3 w' => ∃ (x3_2 : Int), v3 = .int .i64 x3_2 ∧ Z0 (cr6_ShortSections.l0 kq l0 x3_2 = some r) ∧ Z0 (kq ≤ kj1) ∧ Drawn0 w w')
    case atStart => exact ⟨(0), (by first | rfl | (simp; done) | (simp [*]; done)), H', ⟨Nat.le_refl _⟩, by repeat (first | exact Drawn0.refl _ | apply Drawn0.step)⟩
    case round =>
     clear H'
     try clear c1
     try clear p2
     try clear c3
     try clear c3b0
     try clear c3b1
     try clear c4
     try clear p2
     obtain ⟨x3_2, rfl, HA, HK2, ⟨m2, rfl⟩⟩ := hrel
     cases gk with
     | zero => exact absurd HA.out (by simp [cr6_ShortSections.l0])
     | succ k2 =>
      have H := HA.out
      clear HA
      simp only [cr6_ShortSections.l0] at H
      by_cases c5 : x3_2 < (l0.length : Int)
      ·rw [if_pos c5] at H
       have c5b0 : decide (x3_2 < (l0.length : Int)) = true := decide_eq_true c5
       clear c5
       by_cases c6 : 0 ≤ x3_2
       ·rw [if_pos c6] at H
        have c6b0 : decide (0 ≤ x3_2) = true := decide_eq_true c6
        clear c6
        by_cases c7 : ((rd_T112 l0 x3_2).f0) > 12
        ·rw [if_pos c7] at H
         have c7b0 : decide (12 < ((rd_T112 l0 x3_2).f0)) = true := decide_eq_true c7
         clear c7
         by_cases c8 : ((rd_T112 l0 x3_2).f0) ≤ 300
         ·rw [if_pos c8] at H
          have c8b0 : decide (((rd_T112 l0 x3_2).f0) ≤ 300) = true := decide_eq_true c8
          clear c8
          obtain rfl := Option.some.inj H
          have p382 : 0 ≤ (x3_2 : Int) := of_decide_eq_true (by first | (with_reducible assumption) | assumption)
          have q382 : x3_2 < (l0.length : Int) := of_decide_eq_true (by first | (with_reducible assumption) | assumption)
          obtain ⟨ad382, e382, hx382_0, hx382_1, hx382_2⟩ := at_T112 HR0.out x3_2 p382 q382
          cases e382
          replace p382 := eq_true p382
          replace q382 := eq_true q382
          have p383 : 0 ≤ (x3_2 : Int) := of_decide_eq_true (by first | (with_reducible assumption) | assumption)
          have q383 : x3_2 < (l0.length : Int) := of_decide_eq_true (by first | (with_reducible assumption) | assumption)
          obtain ⟨ad383, e383, hx383_0, hx383_1, hx383_2⟩ := at_T112 HR0.out x3_2 p383 q383
          obtain rfl : ad382 = ad383 := (by injection e383)
          replace p383 := eq_true p383
          replace q383 := eq_true q383
          go_wp2
          go_ret
          exact ⟨by first | rfl | (simp; done) | (simp [*]; done), by repeat (first | exact Drawn0.refl _ | apply Drawn0.step)⟩
         ·rw [if_neg c8] at H
          have c8b0 : decide (((rd_T112 l0 x3_2).f0) ≤ 300) = false := decide_eq_false c8
          clear c8
          have H' := Z0.mk H
          clear H
          have p382 : 0 ≤ (x3_2 : Int) := of_decide_eq_true (by first | (with_reducible assumption) | assumption)
          have q382 : x3_2 < (l0.length : Int) := of_decide_eq_true (by first | (with_reducible assumption) | assumption)
          obtain ⟨ad382, e382, hx382_0, hx382_1, hx382_2⟩ := at_T112 HR0.out x3_2 p382 q382
          cases e382
          replace p382 := eq_true p382
          replace q382 := eq_true q382
          have p383 : 0 ≤ (x3_2 : Int) := of_decide_eq_true (by first | (with_reducible assumption) | assumption)
          have q383 : x3_2 < (l0.length : Int) := of_decide_eq_true (by first | (with_reducible assumption) | assumption)
          obtain ⟨ad383, e383, hx383_0, hx383_1, hx383_2⟩ := at_T112 HR0.out x3_2 p383 q383
          obtain rfl : ad382 = ad383 := (by injection e383)
          replace p383 := eq_true p383
          replace q383 := eq_true q383
          go_wp2
          go_roundg k2
          case measure => have := HJ1.out; have := HK2.out; omega
          case rel => exact ⟨(wrap64 (x3_2 + 1)), (by first | rfl | (simp; done) | (simp [*]; done)), H', ⟨by have := HJ1.out; have := HK2.out; omega⟩, by repeat (first | exact Drawn0.refl _ | apply Drawn0.step)⟩
        ·rw [if_neg c7] at H
         have c7b0 : decide (12 < ((rd_T112 l0 x3_2).f0)) = false := decide_eq_false c7
         clear c7
         have H' := Z0.mk H
         clear H
         have p382 : 0 ≤ (x3_2 : Int) := of_decide_eq_true (by first | (with_reducible assumption) | assumption)
         have q382 : x3_2 < (l0.length : Int) := of_decide_eq_true (by first | (with_reducible assumption) | assumption)
         obtain ⟨ad382, e382, hx382_0, hx382_1, hx382_2⟩ := at_T112 HR0.out x3_2 p382 q382
         cases e382
         replace p382 := eq_true p382
         replace q382 := eq_true q382
         go_wp2
         go_roundg k2
         case measure => have := HJ1.out; have := HK2.out; omega
         case rel => exact ⟨(wrap64 (x3_2 + 1)), (by first | rfl | (simp; done) | (simp [*]; done)), H', ⟨by have := HJ1.out; have := HK2.out; omega⟩, by repeat (first | exact Drawn0.refl _ | apply Drawn0.step)⟩
       ·rw [if_neg c6] at H
        exact absurd H (by simp)
      ·rw [if_neg c5] at H
       have c5b0 : decide (x3_2 < (l0.length : Int)) = false := decide_eq_false c5
       clear c5
       obtain rfl := Option.some.inj H
       go_wp2
       go_ret
       exact ⟨by first | rfl | (simp; done) | (simp [*]; done), by repeat (first | exact Drawn0.refl _ | apply Drawn0.step)⟩
end Go.Proofs.YtppighiaffppkaaDoor.H
end
section
namespace Go.Proofs.YtppighiaffppkaaDoor.H
open Go.RowKit Go.Proofs.YtppighiaffppkaaDoorW.PrintWords Go.Proofs.YtppighiaffppkaaDoorW.PrintLast Go.Proofs.YtppighiaffppkaaDoorW.PrintMore
attribute [local go_sem] max2_int min2_int max_two min_two max_three min_three max_four min_four
set_option linter.unusedSimpArgs false
set_option linter.unusedVariables false
def cl6_sections.l0 : Nat → List (S131) → List (S112) → Int → Int → Option ((List (S131)))
 | 0, _, _, _, _ => none
 | k + 1, x3, x6, x7, x8 => if x8 < x7 then (if 0 ≤ x8 then (if x8 < (x6.length : Int) then (if x3.length < 5864062014805 then (cl6_sections.l0 k (x3 ++ [(⟨(rd_T112 x6 x8).f0, (⟨(rd_T112 x6 x8).f1.f0, (rd_T112 x6 x8).f1.f1⟩ : S23)⟩ : S131)]) x6 x7 (wrap64 (x8 + 1))) else (none)) else (none)) else (none)) else (some x3)
def cl6_sections.f (k : Nat) (l0 : List (S112)) : Option ((List (S131))) := cl6_sections.l0 k ([] : List (S131)) l0 (l0.length : Int) 0
set_option maxHeartbeats 8000000 in
set_option maxRecDepth 100000 in
theorem cl6_sections.calls (k : Nat) (A0 : Option Addr) (c0 : Nat) (l0 : List (S112)) (r : List (S131)) (w : World) (hr0 : Kd.C k112 w A0 l0.length l0) (hc0 : l0.length ≤ c0) (h : cl6_sections.f k l0 = some r) :
  Calls Tryd.prog 40 #[.slice A0 l0.length c0] w fun e w' => ∃ v0_ : Value, e = .returned (v0_) ∧ Kd.R k131 131 w' w.heap.size (fun _ => True) v0_ r ∧ Below w.heap.size w w' := by
 have hu112 := Tryd.underlying112
 have HR0 := Z0.mk hr0
 have HC0 := Z0.mk hc0
 clear hr0 hc0
 have HB := Z0.mk (Below.refl w.heap.size w)
 have H : (cl6_sections.l0 k ([] : List (S131)) l0 (l0.length : Int) 0) = some r := h
 clear h
 have H' := Z0.mk H
 clear H
 go_enter Tryd.func40, Tryd.ntmps40
 go_wp2
 go_loopg [3, 8] k (fun kq v3 v8 w' => ∃ (x3_1 : List (S131)) (x8_1 : Int), v8 = .int .i64 x8_1 ∧ Z0 (cl6_sections.l0 kq x3_1 l0 (l0.length : Int) x8_1 = some r) ∧ Z0 (kq ≤ k) ∧ Z0 (Kd.R k131 131 w' w.heap.size (fun _ => True) v3 x3_1) ∧ Z0 (Below w.heap.size w w'))
 case atStart => exact ⟨(([] : List (S131))), (0), (by first | rfl | (simp; done) | (simp [*]; done)), H', ⟨Nat.le_refl _⟩, ⟨by first | exact Kd.R_nil _ _ _ _ _ | exact Kd.N_nil _ _ _ _ _ | exact Kd.V_nil _ _ _ _ _ | exact Kd.Q_nil _ _ _ _ _ | exact Kd.S_nil _ _ _ _ _⟩, ⟨by repeat (first | (with_reducible first | exact HB.out | apply bwA | apply bwN | apply bw1) | exact HB.out)⟩⟩
 case round =>
  clear H'
  obtain ⟨x3_1, x8_1, rfl, HA, HK1, HO_3, HB⟩ := hrel
  cases gk with
  | zero => exact absurd HA.out (by simp [cl6_sections.l0])
  | succ k1 =>
   have H := HA.out
   clear HA
   simp only [cl6_sections.l0] at H
   by_cases c2 : x8_1 < (l0.length : Int)
   ·rw [if_pos c2] at H
    have c2b0 : decide (x8_1 < (l0.length : Int)) = true := decide_eq_true c2
    clear c2
    by_cases c3 : 0 ≤ x8_1
    ·rw [if_pos c3] at H
     have c3b0 : decide (0 ≤ x8_1) = true := decide_eq_true c3
     clear c3
     by_cases c4 : x8_1 < (l0.length : Int)
     ·rw [if_pos c4] at H
      have c4b0 : decide (x8_1 < (l0.length : Int)) = true := decide_eq_true c4
      clear c4
      by_cases c5 : x3_1.length < 5864062014805
      ·rw [if_pos c5] at H
       have LMc5 := Z0.mk c5
       clear c5
       obtain ⟨y386, hy386⟩ : ∃ y_ : List (S131), y_ = (x3_1 ++ [(⟨(rd_T112 l0 x8_1).f0, (⟨(rd_T112 l0 x8_1).f1.f0, (rd_T112 l0 x8_1).f1.f1⟩ : S23)⟩ : S131)]) := ⟨_, rfl⟩
       replace H : (cl6_sections.l0 k1 y386 l0 (l0.length : Int) (wrap64 (x8_1 + 1))) = some r := by first | (rw [hy386]; with_reducible exact H) | (have H2_ := (Option.bind_some _ _).symm.trans H; rw [hy386]; with_reducible exact H2_) | (have H2_ := (Option.bind_some _ _).symm.trans H; with_reducible exact H2_) | with_reducible exact H | (rw [hy386]; exact H) | exact H
       have Ny386 := Z0.mk hy386
       clear hy386
       have H' := Z0.mk H
       clear H
       have p384 : 0 ≤ (x8_1 : Int) := of_decide_eq_true (by first | (with_reducible assumption) | assumption)
       have q384 : x8_1 < (l0.length : Int) := of_decide_eq_true (by first | (with_reducible assumption) | assumption)
       obtain ⟨ad384, e384, hx384_0, hx384_1, hx384_2⟩ := at_T112 HR0.out x8_1 p384 q384
       cases e384
       replace hx384_0 := (HB.out.cell (World.block_lt_of_cell? w _ hx384_0)).trans hx384_0
       replace hx384_1 := (HB.out.cell (World.block_lt_of_cell? w _ hx384_1)).trans hx384_1
       replace hx384_2 := (HB.out.cell (World.block_lt_of_cell? w _ hx384_2)).trans hx384_2
       replace p384 := eq_true p384
       replace q384 := eq_true q384
       go_wp2_with (first | ((with_reducible refine gtD (N := 5) rfl ?_); refine bxE ?hg (N := 5) ?hd (cs := #[.int .i64 0, .int .i64 0, .int .i64 0]) (t := 112) ?hr ?_; (case hd => rfl); (case hg => rfl); (case hr => first | (go_simp; done) | (go_simp; rfl)); intro gb385 hg w6 hbox hb; have n0_ := Z0.mk (Kd.R_below (by (with_reducible repeat (first | apply Kd.R_alloc | apply Kd.R_drewN | apply Kd.R_drew)); exact HO_3.out) hb); have n1_ := Z0.mk (bwT (by repeat (first | (with_reducible first | exact HB.out | apply bwA | apply bwN | apply bw1) | exact HB.out)) hb); have n2_ := Z0.mk (hbox); have n3_ := Z0.mk ((by rw [hg]; exact (bwZ (by repeat (first | (with_reducible first | exact HB.out | apply bwA | apply bwN | apply bw1) | exact HB.out))) : w.heap.size ≤ gb385)); have n4_ := Z0.mk ((by rw [hg]; exact (bwZ (by repeat (first | (with_reducible first | exact HB.out | apply bwA | apply bwN | apply bw1) | exact HB.out))) : w.heap.size ≤ gb385)); clear HO_3; clear HB; have HO_3 := n0_; have HB := n1_; have BK385 := n2_; have GW385 := n3_; have GE385 := n4_; clear n0_ n1_ n2_ n3_ n4_; clear hb hbox hg; have hcz7_0 : w6.cell? ⟨gb385, 0, none⟩ = some (.int .i64 0) := (bkC BK385.out 0).trans rfl; have hcz7_1 : w6.cell? ⟨gb385, 1, none⟩ = some (.int .i64 0) := (bkC BK385.out 1).trans rfl; have hcz7_2 : w6.cell? ⟨gb385, 2, none⟩ = some (.int .i64 0) := (bkC BK385.out 2).trans rfl; have hfz7_0 := bkZ BK385.out 0; have hfz7_1 := bkZ BK385.out 1; have hfz7_2 := bkZ BK385.out 2) | ((with_reducible refine gate_builtin (b := .append) (xs := #[.tmp 12, .tmp 14]) rfl ?_); at_builtin; refine Kd.R_append k131 (w0 := w) w.heap.size rfl (.tmp 12) (.tmp 14) 63 131 (.agg #[(.int .i64 0), (.int .i64 0), (.int .i64 0)]) 24 rfl Tryd.underlying63 info131 rfl (by decide) (by omega) u3 x3_1 (⟨(rd_T112 l0 x8_1).f0, (⟨(rd_T112 l0 x8_1).f1.f0, (rd_T112 l0 x8_1).f1.f1⟩ : S23)⟩ : S131) [.int .i64 ((rd_T112 l0 x8_1).f0), .int .i64 ((rd_T112 l0 x8_1).f1.f0), .int .i64 ((rd_T112 l0 x8_1).f1.f1)] (fun _ => True) (fun _ => False) rfl (by first | (go_simp; done) | (go_simp; rfl)) ?aP (fun _ hk => hk.elim) ?aF ?aO ?aB ?aS ?aL ?_; (case aP => exact k131_mkM _ _ _ (⟨(rd_T112 l0 x8_1).f0, (⟨(rd_T112 l0 x8_1).f1.f0, (rd_T112 l0 x8_1).f1.f1⟩ : S23)⟩ : S131)); (case aB => exact (by repeat (first | (with_reducible first | exact HB.out | apply bwA | apply bwN | apply bw1 | refine bwS ?_ GE385.out) | exact HB.out))); (case aF => exact (fun _ _ => trivial)); (case aO => exact (by (with_reducible repeat (first | apply Kd.R_alloc | apply Kd.R_drewN | apply Kd.R_drew)); exact Kd.R_mono (Kd.R_far (p := ⟨gb385, 2, none⟩) (Kd.R_far (p := ⟨gb385, 1, none⟩) (Kd.R_far (p := ⟨gb385, 0, none⟩) (Kd.R_types HO_3.out BK385.out (by decide)) (fun _ hk => hk.2) (.int .i64 ((rd_T112 l0 x8_1).f0))) (fun _ hk => hk.2) (.int .i64 ((rd_T112 l0 x8_1).f1.f0))) (fun _ hk => hk.2) (.int .i64 ((rd_T112 l0 x8_1).f1.f1))) (fun _ hk => trivial))); (case aS => exact (bwZ (by repeat (first | (with_reducible first | exact HB.out | apply bwA | apply bwN | apply bw1 | refine bwS ?_ GE385.out) | exact HB.out)))); (case aL => have := LMc5.out; omega); intro v387 w8 ho hb hg hat; rw [← Ny386.out] at ho; have n0_ := Z0.mk (blk_grown (g := gb385) (o := .cells #[.int .i64 ((rd_T112 l0 x8_1).f0), .int .i64 ((rd_T112 l0 x8_1).f1.f0), .int .i64 ((rd_T112 l0 x8_1).f1.f1)] 112 (0, 0)) (by (with_reducible repeat (first | refine bkN ?_ _ | refine bkD ?_ | refine bkA ?_ _)); refine bkP (cs := #[.int .i64 ((rd_T112 l0 x8_1).f0), .int .i64 ((rd_T112 l0 x8_1).f1.f0), .int .i64 0]) ?_ 2 _ rfl; (with_reducible repeat (first | refine bkN ?_ _ | refine bkD ?_ | refine bkA ?_ _)); refine bkP (cs := #[.int .i64 ((rd_T112 l0 x8_1).f0), .int .i64 0, .int .i64 0]) ?_ 1 _ rfl; (with_reducible repeat (first | refine bkN ?_ _ | refine bkD ?_ | refine bkA ?_ _)); refine bkP (cs := #[.int .i64 0, .int .i64 0, .int .i64 0]) ?_ 0 _ rfl; (with_reducible repeat (first | refine bkN ?_ _ | refine bkD ?_ | refine bkA ?_ _)); exact BK385.out) hg (Kd.R_ne HO_3.out BK385.out (by decide))); have n1_ := Z0.mk (hb); have n2_ := Z0.mk (ho); clear BK385; clear HB; clear HO_3; have BK385 := n0_; have HB := n1_; have HO388 := n2_; clear n0_ n1_ n2_; clear ho hb hg hat))
       go_roundg k1
       case measure => have := HK1.out; omega
       case rel => exact ⟨(y386), (wrap64 (x8_1 + 1)), (by first | rfl | (simp; done) | (simp [*]; done)), H', ⟨by have := HK1.out; omega⟩, ⟨by (with_reducible repeat (first | apply Kd.R_alloc | apply Kd.R_drewN | apply Kd.R_drew)); exact HO388.out⟩, ⟨by repeat (first | (with_reducible first | exact HB.out | apply bwA | apply bwN | apply bw1 | refine bwS ?_ GE385.out) | exact HB.out)⟩⟩
      ·rw [if_neg c5] at H
       exact absurd H (by simp)
     ·rw [if_neg c4] at H
      exact absurd H (by simp)
    ·rw [if_neg c3] at H
     exact absurd H (by simp)
   ·rw [if_neg c2] at H
    have c2b0 : decide (x8_1 < (l0.length : Int)) = false := decide_eq_false c2
    clear c2
    obtain rfl := Option.some.inj H
    go_wp2
    go_ret
    exact ⟨_, by first | rfl | (simp [errW_none, errW_some] <;> rfl) | (simp [*, errW_none, errW_some] <;> rfl), by (with_reducible repeat (first | apply Kd.R_alloc | apply Kd.R_drewN | apply Kd.R_drew)); exact HO_3.out, by repeat (first | (with_reducible first | exact HB.out | apply bwA | apply bwN | apply bw1) | exact HB.out)⟩
def cr6_Divisor.f : Nat → Int → Int → Option (Int)
 | 0, _, _ => none
 | k + 1, a0, a1 => if a1 = 0 then (some a0) else ((cr6_Divisor.f k a1 (Int.tmod a0 a1)).bind fun t139 => (some t139))
set_option maxHeartbeats 8000000 in
set_option maxRecDepth 100000 in
theorem cr6_Divisor.calls (k : Nat) : ∀ (a0 : Int) (a1 : Int) (r : Int) (w : World) (h : cr6_Divisor.f k a0 a1 = some r),
  Calls Tryd.prog 66 #[.int .i64 a0, .int .i64 a1] w fun e w' => e = .returned (.int .i64 r) ∧ Drawn0 w w' := by
 induction k using Nat.strongRecOn with
 | _ k ih =>
 intro a0 a1 r w h
 cases k with
 | zero => exact absurd h (by simp [cr6_Divisor.f])
 | succ k =>
 simp only [cr6_Divisor.f] at h
 have H : (if a1 = 0 then (some a0) else ((cr6_Divisor.f k a1 (Int.tmod a0 a1)).bind fun t139 => (some t139))) = some r := h
 clear h
 by_cases c3 : a1 = 0
 ·rw [if_pos c3] at H
  have c3b0 : (a1 == 0) = true := beq_iff_eq.mpr c3
  have c3b1 : (a1 != 0) = false := bne_eq_false_iff_eq.mpr c3
  clear c3
  obtain rfl := Option.some.inj H
  go_enter Tryd.func66, Tryd.ntmps66
  go_wp2
  go_ret
  exact ⟨by first | rfl | (simp; done) | (simp [*]; done), by repeat (first | exact Drawn0.refl _ | apply Drawn0.step)⟩
 ·rw [if_neg c3] at H
  have c3b0 : (a1 == 0) = false := beq_eq_false_iff_ne.mpr c3
  have c3b1 : (a1 != 0) = true := bne_iff_ne.mpr c3
  replace H := Option.bind_eq_some_iff.mp H
  obtain ⟨t139, A40, H⟩ := H
  try dsimp only at H
  have A4 := Z0.mk A40
  clear A40
  obtain rfl := Option.some.inj H
  go_enter Tryd.func66, Tryd.ntmps66
  go_wp2_with (first | ((with_reducible refine gtC (f := 66) rfl ?_); refine goesL_ (some 12) rfl rfl Tryd.func66 (by kernel_rfl) rfl #[.int .i64 a1, .int .i64 (Int.tmod a0 a1)] rfl (by (try simp only [List.map_toArray, List.map_cons, List.map_nil]) <;> rfl) ?_; (with_reducible refine (ih k (by omega) a1 (Int.tmod a0 a1) t139 _ A4.out).mono ?_); rintro e w' ⟨rfl, ⟨nd, rfl⟩⟩; refine ⟨_, rfl, ?_⟩))
  go_ret
  exact ⟨by first | rfl | (simp; done) | (simp [*]; done), by repeat (first | exact Drawn0.refl _ | apply Drawn0.step)⟩
def cr6_CheckRatio.j0 : Nat → Bool → Int → Int → Option (Int)
 | 0, _, _, _ => none
 | k + 1, x20, x141000, x141001 => if x20 = true then (some 3) else (if x141000 > x141001 then (some 11) else ((cr6_Divisor.f k x141000 x141001).bind fun t141 => (if t141 = 1 then (some 0) else (some 1))))
def cr6_CheckRatio.f (k : Nat) (a0_0 : Int) (a0_1 : Int) : Option (Int) := if a0_0 < 1 then (cr6_CheckRatio.j0 k true a0_0 a0_1) else (if a0_0 > 30 then (cr6_CheckRatio.j0 k true a0_0 a0_1) else (if a0_1 < 1 then (cr6_CheckRatio.j0 k true a0_0 a0_1) else (cr6_CheckRatio.j0 k (decide (a0_1 > 30)) a0_0 a0_1)))
set_option maxHeartbeats 8000000 in
set_option maxRecDepth 100000 in
theorem cr6_CheckRatio.calls (k : Nat) (a0_0 : Int) (a0_1 : Int) (r : Int) (w : World) (h : cr6_CheckRatio.f k a0_0 a0_1 = some r) :
  Calls Tryd.prog 16 #[.agg #[.int .i64 a0_0, .int .i64 a0_1]] w fun e w' => e = .returned (.int .i64 r) ∧ Below w.heap.size w w' := by
 have hu23 := Tryd.underlying23
 have HB := Z0.mk (Below.refl w.heap.size w)
 have H : (if a0_0 < 1 then (cr6_CheckRatio.j0 k true a0_0 a0_1) else (if a0_0 > 30 then (cr6_CheckRatio.j0 k true a0_0 a0_1) else (if a0_1 < 1 then (cr6_CheckRatio.j0 k true a0_0 a0_1) else (cr6_CheckRatio.j0 k (decide (a0_1 > 30)) a0_0 a0_1)))) = some r := h
 clear h
 have HC2 := Z0.mk H
 clear H
 go_enter Tryd.func16, Tryd.ntmps16
 go_upto_region 1 with (first | ((with_reducible refine gtD (N := 1) rfl ?_); refine bxE ?hg (N := 1) ?hd (cs := #[.int .i64 a0_0, .int .i64 a0_1]) (t := 23) ?hr ?_; (case hd => rfl); (case hg => rfl); (case hr => first | (go_simp; done) | (go_simp; rfl)); intro gb140 hg w3 hbox hb; have n0_ := Z0.mk (bwT (by repeat (first | (with_reducible first | exact HB.out | apply bwA | apply bwN | apply bw1) | exact HB.out)) hb); have n1_ := Z0.mk (hbox); have n2_ := Z0.mk ((by rw [hg]; exact (bwZ (by repeat (first | (with_reducible first | exact HB.out | apply bwA | apply bwN | apply bw1) | exact HB.out))) : w.heap.size ≤ gb140)); have n3_ := Z0.mk ((by rw [hg]; exact (bwZ (by repeat (first | (with_reducible first | exact HB.out | apply bwA | apply bwN | apply bw1) | exact HB.out))) : w.heap.size ≤ gb140)); clear HB; have HB := n0_; have BK140 := n1_; have GW140 := n2_; have GE140 := n3_; clear n0_ n1_ n2_ n3_; clear hb hbox hg))
 (try simp only [Act.put, List.setIfInBounds_toArray, List.set_cons_zero, List.set_cons_succ])
 go_cut [20] (fun v20 wc => ∃ (kq : Nat) (x20_1 : Bool), v20 = .bool x20_1 ∧ Z0 (cr6_CheckRatio.j0 kq x20_1 a0_0 a0_1 = some r) ∧ Z0 (kq ≤ k) ∧ Z0 (wc.heap[gb140]? = some (.cells #[.int .i64 a0_0, .int .i64 a0_1] 23 (0, 0))) ∧ Z0 (Below w.heap.size w wc))
 case first =>
  have H := HC2.out
  clear HC2
  by_cases c4 : a0_0 < 1
  ·rw [if_pos c4] at H
   have c4b0 : decide (a0_0 < 1) = true := decide_eq_true c4
   clear c4
   (first | rw [c4b0] | (simp only [i64_w, i32_w]; rw [c4b0]) | skip)
   have H' := Z0.mk H
   clear H
   have hcz5_0 : w3.cell? ⟨gb140, 0, none⟩ = some (.int .i64 a0_0) := (bkC BK140.out 0).trans rfl
   have hcz5_1 : w3.cell? ⟨gb140, 1, none⟩ = some (.int .i64 a0_1) := (bkC BK140.out 1).trans rfl
   have hfz5_0 := bkZ BK140.out 0
   have hfz5_1 := bkZ BK140.out 1
   go_wp2
   go_meet
   case rel => exact ⟨_, (true), (by first | rfl | (simp; done) | (simp [*]; done)), H', ⟨by first | omega | exact Nat.le_refl _⟩, ⟨by (with_reducible repeat (first | refine bkN ?_ _ | refine bkD ?_ | refine bkA ?_ _)); exact BK140.out⟩, ⟨by repeat (first | (with_reducible first | exact HB.out | apply bwA | apply bwN | apply bw1 | refine bwS ?_ GE140.out) | exact HB.out)⟩⟩
  ·rw [if_neg c4] at H
   have c4b0 : decide (a0_0 < 1) = false := decide_eq_false c4
   clear c4
   (first | rw [c4b0] | (simp only [i64_w, i32_w]; rw [c4b0]) | skip)
   by_cases c6 : a0_0 > 30
   ·rw [if_pos c6] at H
    have c6b0 : decide (30 < a0_0) = true := decide_eq_true c6
    clear c6
    have H' := Z0.mk H
    clear H
    have hcz7_0 : w3.cell? ⟨gb140, 0, none⟩ = some (.int .i64 a0_0) := (bkC BK140.out 0).trans rfl
    have hcz7_1 : w3.cell? ⟨gb140, 1, none⟩ = some (.int .i64 a0_1) := (bkC BK140.out 1).trans rfl
    have hfz7_0 := bkZ BK140.out 0
    have hfz7_1 := bkZ BK140.out 1
    go_wp2
    go_meet
    case rel => exact ⟨_, (true), (by first | rfl | (simp; done) | (simp [*]; done)), H', ⟨by first | omega | exact Nat.le_refl _⟩, ⟨by (with_reducible repeat (first | refine bkN ?_ _ | refine bkD ?_ | refine bkA ?_ _)); exact BK140.out⟩, ⟨by repeat (first | (with_reducible first | exact HB.out | apply bwA | apply bwN | apply bw1 | refine bwS ?_ GE140.out) | exact HB.out)⟩⟩
   ·rw [if_neg c6] at H
    have c6b0 : decide (30 < a0_0) = false := decide_eq_false c6
    clear c6
    by_cases c8 : a0_1 < 1
    ·rw [if_pos c8] at H
     have c8b0 : decide (a0_1 < 1) = true := decide_eq_true c8
     clear c8
     have H' := Z0.mk H
     clear H
     have hcz9_0 : w3.cell? ⟨gb140, 0, none⟩ = some (.int .i64 a0_0) := (bkC BK140.out 0).trans rfl
     have hcz9_1 : w3.cell? ⟨gb140, 1, none⟩ = some (.int .i64 a0_1) := (bkC BK140.out 1).trans rfl
     have hfz9_0 := bkZ BK140.out 0
     have hfz9_1 := bkZ BK140.out 1
     go_wp2
     go_meet
     case rel => exact ⟨_, (true), (by first | rfl | (simp; done) | (simp [*]; done)), H', ⟨by first | omega | exact Nat.le_refl _⟩, ⟨by (with_reducible repeat (first | refine bkN ?_ _ | refine bkD ?_ | refine bkA ?_ _)); exact BK140.out⟩, ⟨by repeat (first | (with_reducible first | exact HB.out | apply bwA | apply bwN | apply bw1 | refine bwS ?_ GE140.out) | exact HB.out)⟩⟩
    ·rw [if_neg c8] at H
     have c8b0 : decide (a0_1 < 1) = false := decide_eq_false c8
     clear c8
     have H' := Z0.mk H
     clear H
     have hcz10_0 : w3.cell? ⟨gb140, 0, none⟩ = some (.int .i64 a0_0) := (bkC BK140.out 0).trans rfl
     have hcz10_1 : w3.cell? ⟨gb140, 1, none⟩ = some (.int .i64 a0_1) := (bkC BK140.out 1).trans rfl
     have hfz10_0 := bkZ BK140.out 0
     have hfz10_1 := bkZ BK140.out 1
     go_wp2
     go_meet
     case rel => exact ⟨_, (decide (a0_1 > 30)), (by first | rfl | (simp; done) | (simp [*]; done)), H', ⟨by first | omega | exact Nat.le_refl _⟩, ⟨by (with_reducible repeat (first | refine bkN ?_ _ | refine bkD ?_ | refine bkA ?_ _)); exact BK140.out⟩, ⟨by repeat (first | (with_reducible first | exact HB.out | apply bwA | apply bwN | apply bw1 | refine bwS ?_ GE140.out) | exact HB.out)⟩⟩
 case rest =>
  clear HC2
  try clear c1
  try clear p2
  try clear c4
  try clear c4b0
  try clear c6
  try clear c6b0
  try clear c8
  try clear c8b0
  try clear hcz10_0
  try clear hcz10_1
  try clear hcz5_0
  try clear hcz5_1
  try clear hcz7_0
  try clear hcz7_1
  try clear hcz9_0
  try clear hcz9_1
  try clear hfz10_0
  try clear hfz10_1
  try clear hfz5_0
  try clear hfz5_1
  try clear hfz7_0
  try clear hfz7_1
  try clear hfz9_0
  try clear hfz9_1
  obtain ⟨kq, x20_1, rfl, HA, HJ1, BK140, HB⟩ := hcut
  cases kq with
  | zero => exact absurd HA.out (by simp [cr6_CheckRatio.j0])
  | succ kj1 =>
   have H := HA.out
   clear HA
   simp only [cr6_CheckRatio.j0] at H
   by_cases c11 : x20_1 = true
   ·subst c11
    have H1 : (some 3) = some r := by rw [if_pos rfl] at H; exact H
    clear H
    have H := H1
    clear H1
    obtain rfl := Option.some.inj H
    go_wp2
    go_ret
    exact ⟨by first | rfl | (simp [errW_none, errW_some] <;> rfl) | (simp [*, errW_none, errW_some] <;> rfl), by repeat (first | (with_reducible first | exact HB.out | apply bwA | apply bwN | apply bw1 | refine bwS ?_ GE140.out) | exact HB.out)⟩
   ·replace c11 := Bool.eq_false_iff.mpr c11
    subst c11
    have H1 : (if a0_0 > a0_1 then (some 11) else ((cr6_Divisor.f kj1 a0_0 a0_1).bind fun t141 => (if t141 = 1 then (some 0) else (some 1)))) = some r := by rw [if_neg (show ¬ (false = true) by decide)] at H; exact H
    clear H
    have H := H1
    clear H1
    by_cases c12 : a0_0 > a0_1
    ·rw [if_pos c12] at H
     have c12b0 : decide (a0_1 < a0_0) = true := decide_eq_true c12
     clear c12
     obtain rfl := Option.some.inj H
     have hcz13_0 : wc.cell? ⟨gb140, 0, none⟩ = some (.int .i64 a0_0) := (bkC BK140.out 0).trans rfl
     have hcz13_1 : wc.cell? ⟨gb140, 1, none⟩ = some (.int .i64 a0_1) := (bkC BK140.out 1).trans rfl
     have hfz13_0 := bkZ BK140.out 0
     have hfz13_1 := bkZ BK140.out 1
     go_wp2
     go_ret
     exact ⟨by first | rfl | (simp [errW_none, errW_some] <;> rfl) | (simp [*, errW_none, errW_some] <;> rfl), by repeat (first | (with_reducible first | exact HB.out | apply bwA | apply bwN | apply bw1 | refine bwS ?_ GE140.out) | exact HB.out)⟩
    ·rw [if_neg c12] at H
     have c12b0 : decide (a0_1 < a0_0) = false := decide_eq_false c12
     clear c12
     replace H := Option.bind_eq_some_iff.mp H
     obtain ⟨t141, A140, H⟩ := H
     try dsimp only at H
     have A14 := Z0.mk A140
     clear A140
     by_cases c15 : t141 = 1
     ·rw [if_pos c15] at H
      have c15b0 : (t141 == 1) = true := beq_iff_eq.mpr c15
      have c15b1 : (t141 != 1) = false := bne_eq_false_iff_eq.mpr c15
      clear c15
      obtain rfl := Option.some.inj H
      have hcz16_0 : wc.cell? ⟨gb140, 0, none⟩ = some (.int .i64 a0_0) := (bkC BK140.out 0).trans rfl
      have hcz16_1 : wc.cell? ⟨gb140, 1, none⟩ = some (.int .i64 a0_1) := (bkC BK140.out 1).trans rfl
      have hfz16_0 := bkZ BK140.out 0
      have hfz16_1 := bkZ BK140.out 1
      go_wp2_with (first | ((with_reducible refine gtC (f := 66) rfl ?_); refine goesL_ (some 30) rfl rfl Tryd.func66 (by kernel_rfl) rfl #[.int .i64 a0_0, .int .i64 a0_1] rfl (by (try simp only [List.map_toArray, List.map_cons, List.map_nil]) <;> rfl) ?_; (with_reducible refine (cr6_Divisor.calls kj1 a0_0 a0_1 t141 _ A14.out).mono ?_); rintro e w' ⟨rfl, ⟨nd, rfl⟩⟩; refine ⟨_, rfl, ?_⟩))
      go_ret
      exact ⟨by first | rfl | (simp [errW_none, errW_some] <;> rfl) | (simp [*, errW_none, errW_some] <;> rfl), by repeat (first | (with_reducible first | exact HB.out | apply bwA | apply bwN | apply bw1 | refine bwS ?_ GE140.out) | exact HB.out)⟩
     ·rw [if_neg c15] at H
      have c15b0 : (t141 == 1) = false := beq_eq_false_iff_ne.mpr c15
      have c15b1 : (t141 != 1) = true := bne_iff_ne.mpr c15
      obtain rfl := Option.some.inj H
      have hcz17_0 : wc.cell? ⟨gb140, 0, none⟩ = some (.int .i64 a0_0) := (bkC BK140.out 0).trans rfl
      have hcz17_1 : wc.cell? ⟨gb140, 1, none⟩ = some (.int .i64 a0_1) := (bkC BK140.out 1).trans rfl
      have hfz17_0 := bkZ BK140.out 0
      have hfz17_1 := bkZ BK140.out 1
      go_wp2_with (first | ((with_reducible refine gtC (f := 66) rfl ?_); refine goesL_ (some 30) rfl rfl Tryd.func66 (by kernel_rfl) rfl #[.int .i64 a0_0, .int .i64 a0_1] rfl (by (try simp only [List.map_toArray, List.map_cons, List.map_nil]) <;> rfl) ?_; (with_reducible refine (cr6_Divisor.calls kj1 a0_0 a0_1 t141 _ A14.out).mono ?_); rintro e w' ⟨rfl, ⟨nd, rfl⟩⟩; refine ⟨_, rfl, ?_⟩))
      go_ret
      exact ⟨by first | rfl | (simp [errW_none, errW_some] <;> rfl) | (simp [*, errW_none, errW_some] <;> rfl), by repeat (first | (with_reducible first | exact HB.out | apply bwA | apply bwN | apply bw1 | refine bwS ?_ GE140.out) | exact HB.out)⟩
def cr6_CheckSections.l0 : Nat → List (S112) → Int → Option (Int)
 | 0, _, _ => none
 | k + 1, x0, x3 => if x3 < (x0.length : Int) then (if 0 ≤ x3 then ((cr1_CheckRange.f ((rd_T112 x0 x3).f0) 1 300).bind fun t390 => ((cr6_CheckRatio.f k ((rd_T112 x0 x3).f1.f0) ((rd_T112 x0 x3).f1.f1)).bind fun t392 => ((cr1_First.f k (([t390, t392] : List Int))).bind fun t396 => (if t396 = 0 then (cr6_CheckSections.l0 k x0 (wrap64 (x3 + 1))) else (some t396))))) else (none)) else (some 0)
def cr6_CheckSections.f (k : Nat) (l0 : List (S112)) : Option (Int) := if (l0.length : Int) = 0 then (some 12) else (if (l0.length : Int) > 32 then (some 5) else (cr6_CheckSections.l0 k l0 0))
def cr6_CheckSections.T8 : Bool × List (List Nat × List Nat) := (true, [([], []), ([], []), ([0, 1], [0, 1]), ([2], [2]), ([3], [3]), ([4], [4]), ([], []), ([], []), ([6, 7], [6, 7]), ([8], [8]), ([9], [9]), ([10, 5], [10]), ([5, 11], [5, 11]), ([12, 11], [12]), ([13, 13, 0, 1, 2, 3, 4, 5, 6, 7, 8, 9, 10, 11, 12, 13], [13])])
def cr6_CheckSections.B8 : List Nat := [0, 0, 3, 7, 15, 31, 0, 0, 192, 448, 960, 2047, 4095, 8191, 16383]
theorem cr6_CheckSections.tab8 : rtab .any (opsOf Tryd.f43 8) = cr6_CheckSections.T8 := by kernel_rfl
theorem cr6_CheckSections.bits8 : waitsOk cr6_CheckSections.T8.2 cr6_CheckSections.B8 = true := by kernel_rfl
set_option maxHeartbeats 8000000 in
set_option maxRecDepth 100000 in
theorem cr6_CheckSections.calls (k : Nat) (A0 : Option Addr) (c0 : Nat) (l0 : List (S112)) (r : Int) (w : World) (hr0 : Kd.C k112 w A0 l0.length l0) (hc0 : l0.length ≤ c0) (h : cr6_CheckSections.f k l0 = some r) :
  Calls Tryd.prog 43 #[.slice A0 l0.length c0] w fun e w' => e = .returned (.int .i64 r) ∧ Below w.heap.size w w' := by
 have hu23 := Tryd.underlying23
 have HR0 := Z0.mk hr0
 have HC0 := Z0.mk hc0
 clear hr0 hc0
 have HB := Z0.mk (Below.refl w.heap.size w)
 have H : (if (l0.length : Int) = 0 then (some 12) else (if (l0.length : Int) > 32 then (some 5) else (cr6_CheckSections.l0 k l0 0))) = some r := h
 clear h
 by_cases c2 : (l0.length : Int) = 0
 ·rw [if_pos c2] at H
  have c2b0 : ((l0.length : Int) == 0) = true := beq_iff_eq.mpr c2
  have c2b1 : ((l0.length : Int) != 0) = false := bne_eq_false_iff_eq.mpr c2
  clear c2
  obtain rfl := Option.some.inj H
  go_enter Tryd.func43, Tryd.ntmps43
  go_wp2
  go_ret
  exact ⟨by first | rfl | (simp [errW_none, errW_some] <;> rfl) | (simp [*, errW_none, errW_some] <;> rfl), by repeat (first | (with_reducible first | exact HB.out | apply bwA | apply bwN | apply bw1) | exact HB.out)⟩
 ·rw [if_neg c2] at H
  have c2b0 : ((l0.length : Int) == 0) = false := beq_eq_false_iff_ne.mpr c2
  have c2b1 : ((l0.length : Int) != 0) = true := bne_iff_ne.mpr c2
  have c2b2 : ¬ (l0 = []) := fun h_ => c2 (by rw [h_]; rfl)
  by_cases c3 : (l0.length : Int) > 32
  ·rw [if_pos c3] at H
   have c3b0 : decide (32 < (l0.length : Int)) = true := decide_eq_true c3
   have c3b1 : decide (32 < l0.length) = true := decide_eq_true (by omega)
   clear c3
   obtain rfl := Option.some.inj H
   go_enter Tryd.func43, Tryd.ntmps43
   go_wp2
   go_ret
   exact ⟨by first | rfl | (simp [errW_none, errW_some] <;> rfl) | (simp [*, errW_none, errW_some] <;> rfl), by repeat (first | (with_reducible first | exact HB.out | apply bwA | apply bwN | apply bw1) | exact HB.out)⟩
  ·rw [if_neg c3] at H
   have c3b0 : decide (32 < (l0.length : Int)) = false := decide_eq_false c3
   have c3b1 : decide (32 < l0.length) = false := decide_eq_false (by omega)
   clear c3
   have H' := Z0.mk H
   clear H
   go_enter Tryd.func43, Tryd.ntmps43
   go_wp2
   go_loopg [3] k (fun kq v3 w' => ∃ (x3_1 : Int), v3 = .int .i64 x3_1 ∧ Z0 (cr6_CheckSections.l0 kq l0 x3_1 = some r) ∧ Z0 (kq ≤ k) ∧ Z0 (Below w.heap.size w w'))
   case atStart => exact ⟨(0), (by first | rfl | (simp; done) | (simp [*]; done)), H', ⟨Nat.le_refl _⟩, ⟨by repeat (first | (with_reducible first | exact HB.out | apply bwA | apply bwN | apply bw1) | exact HB.out)⟩⟩
   case round =>
    clear H'
    try clear c2
    try clear c2b0
    try clear c2b1
    try clear c2b2
    try clear p2
    try clear c3
    try clear c3b0
    try clear c3b1
    obtain ⟨x3_1, rfl, HA, HK1, HB⟩ := hrel
    cases gk with
    | zero => exact absurd HA.out (by simp [cr6_CheckSections.l0])
    | succ k1 =>
     have H := HA.out
     clear HA
     simp only [cr6_CheckSections.l0] at H
     by_cases c4 : x3_1 < (l0.length : Int)
     ·rw [if_pos c4] at H
      have c4b0 : decide (x3_1 < (l0.length : Int)) = true := decide_eq_true c4
      clear c4
      by_cases c5 : 0 ≤ x3_1
      ·rw [if_pos c5] at H
       have c5b0 : decide (0 ≤ x3_1) = true := decide_eq_true c5
       clear c5
       replace H := Option.bind_eq_some_iff.mp H
       obtain ⟨t390, A60, H⟩ := H
       try dsimp only at H
       have A6 := Z0.mk A60
       clear A60
       replace H := Option.bind_eq_some_iff.mp H
       obtain ⟨t392, A70, H⟩ := H
       try dsimp only at H
       have A7 := Z0.mk A70
       clear A70
       obtain ⟨y393, hy393⟩ : ∃ y_ : List Int, y_ = (([t390, t392] : List Int)) := ⟨_, rfl⟩
       replace H : ((cr1_First.f k1 y393).bind fun t396 => (if t396 = 0 then (cr6_CheckSections.l0 k1 l0 (wrap64 (x3_1 + 1))) else (some t396))) = some r := by first | (rw [hy393]; with_reducible exact H) | (have H2_ := (Option.bind_some _ _).symm.trans H; rw [hy393]; with_reducible exact H2_) | (have H2_ := (Option.bind_some _ _).symm.trans H; with_reducible exact H2_) | with_reducible exact H | (rw [hy393]; exact H) | exact H
       have Ny393 := Z0.mk hy393
       clear hy393
       replace H := Option.bind_eq_some_iff.mp H
       obtain ⟨t396, A80, H⟩ := H
       try dsimp only at H
       have A8 := Z0.mk A80
       clear A80
       by_cases c9 : t396 = 0
       ·rw [if_pos c9] at H
        have c9b0 : (t396 == 0) = true := beq_iff_eq.mpr c9
        have c9b1 : (t396 != 0) = false := bne_eq_false_iff_eq.mpr c9
        clear c9
        have H' := Z0.mk H
        clear H
        try go_wp2
        have n0_ := Z0.mk (bw1 HB.out)
        clear HB
        have HB := n0_
        clear n0_
        have p389 : 0 ≤ (x3_1 : Int) := of_decide_eq_true (by first | (with_reducible assumption) | assumption)
        have q389 : x3_1 < (l0.length : Int) := of_decide_eq_true (by first | (with_reducible assumption) | assumption)
        obtain ⟨ad389, e389, hx389_0, hx389_1, hx389_2⟩ := at_T112 HR0.out x3_1 p389 q389
        have hw389_2 := hx389_2
        have hw389_1 := hx389_1
        have hw389_0 := hx389_0
        cases e389
        replace hx389_0 := (HB.out.cell (World.block_lt_of_cell? w _ hx389_0)).trans hx389_0
        replace hx389_1 := (HB.out.cell (World.block_lt_of_cell? w _ hx389_1)).trans hx389_1
        replace hx389_2 := (HB.out.cell (World.block_lt_of_cell? w _ hx389_2)).trans hx389_2
        replace p389 := eq_true p389
        replace q389 := eq_true q389
        have p391 : 0 ≤ (x3_1 : Int) := of_decide_eq_true (by first | (with_reducible assumption) | assumption)
        have q391 : x3_1 < (l0.length : Int) := of_decide_eq_true (by first | (with_reducible assumption) | assumption)
        obtain ⟨ad391, e391, hx391_0, hx391_1, hx391_2⟩ := at_T112 HR0.out x3_1 p391 q391
        have hw391_2 := hx391_2
        have hw391_1 := hx391_1
        have hw391_0 := hx391_0
        obtain rfl : ad389 = ad391 := (by injection e391)
        replace hx391_0 := (HB.out.cell (World.block_lt_of_cell? w _ hx391_0)).trans hx391_0
        replace hx391_1 := (HB.out.cell (World.block_lt_of_cell? w _ hx391_1)).trans hx391_1
        replace hx391_2 := (HB.out.cell (World.block_lt_of_cell? w _ hx391_2)).trans hx391_2
        replace p391 := eq_true p391
        replace q391 := eq_true q391
        refine start_ (n := 15) (S := fun w' => w'.cell? (ad389.add ((x3_1).toNat * 3)) = some (.int .i64 ((rd_T112 l0 x3_1).f0)) ∧ w'.cell? ⟨(ad389.add ((x3_1).toNat * 3)).block, (ad389.add ((x3_1).toNat * 3)).off + 1, none⟩ = some (.int .i64 ((rd_T112 l0 x3_1).f1.f0)) ∧ w'.cell? ⟨(ad389.add ((x3_1).toNat * 3)).block, (ad389.add ((x3_1).toNat * 3)).off + 2, none⟩ = some (.int .i64 ((rd_T112 l0 x3_1).f1.f1)) ∧ w'.cell? (ad389.add ((x3_1).toNat * 3)) = some (.int .i64 ((rd_T112 l0 x3_1).f0)) ∧ w'.cell? ⟨(ad389.add ((x3_1).toNat * 3)).block, (ad389.add ((x3_1).toNat * 3)).off + 1, none⟩ = some (.int .i64 ((rd_T112 l0 x3_1).f1.f0)) ∧ w'.cell? ⟨(ad389.add ((x3_1).toNat * 3)).block, (ad389.add ((x3_1).toNat * 3)).off + 2, none⟩ = some (.int .i64 ((rd_T112 l0 x3_1).f1.f1))) (ds := []) #[false, false, false, false, false, false, false, false, false, false, false, false, false, false, false] (by kernel_rfl) rfl rfl ⟨((HB.out.cell (World.block_lt_of_cell? w _ hw389_0)).trans hw389_0), ((HB.out.cell (World.block_lt_of_cell? w _ hw389_1)).trans hw389_1), ((HB.out.cell (World.block_lt_of_cell? w _ hw389_2)).trans hw389_2), ((HB.out.cell (World.block_lt_of_cell? w _ hw391_0)).trans hw391_0), ((HB.out.cell (World.block_lt_of_cell? w _ hw391_1)).trans hw391_1), ((HB.out.cell (World.block_lt_of_cell? w _ hw391_2)).trans hw391_2)⟩ (fun hHd => ?_); refine with_tabW cr6_CheckSections.tab8 cr6_CheckSections.bits8 (fun HT_ HW_ => ?_)
        generalize wr.drew = w10 at HB hx389_0 hx389_1 hx389_2 hx391_0 hx391_1 hx391_2 hHd ⊢
        refine pure_ (i := 0) (N := some 17) (v := ?_) (a' := ?_) #[true, false, false, false, false, false, false, false, false, false, false, false, false, false, false] rfl rfl (any_of HT_.out (by kernel_rfl)) (fun _ _ _ h => h) (Or.inl ⟨by rfl, ?_⟩) ?_ ?_
        rotate_left
        ·intro w'
         go_simp
         with_reducible rfl
        rotate_left
        ·simp only [Act.put, List.setIfInBounds_toArray, List.set_cons_zero, List.set_cons_succ, i64_w, i32_w]
         rfl
        refine pure_ (i := 1) (N := some 18) (v := ?_) (a' := ?_) #[true, true, false, false, false, false, false, false, false, false, false, false, false, false, false] rfl rfl (any_of HT_.out (by kernel_rfl)) (fun _ _ _ h => h) (Or.inl ⟨by rfl, ?_⟩) ?_ ?_
        rotate_left
        ·intro w'
         go_simp
         with_reducible rfl
        rotate_left
        ·simp only [Act.put, List.setIfInBounds_toArray, List.set_cons_zero, List.set_cons_succ, i64_w, i32_w]
         rfl
        refine pure_ (i := 2) (N := some 19) (v := ?_) (a' := ?_) #[true, true, true, false, false, false, false, false, false, false, false, false, false, false, false] rfl rfl (any_of HT_.out (by kernel_rfl)) (fun _ _ _ h => h) (Or.inl ⟨by rfl, ?_⟩) ?_ ?_
        rotate_left
        ·intro w'
         go_simp
         with_reducible rfl
        rotate_left
        ·simp only [Act.put, List.setIfInBounds_toArray, List.set_cons_zero, List.set_cons_succ, i64_w, i32_w]
         rfl
        refine pure_ (i := 3) (N := some 20) (v := ?_) (a' := ?_) #[true, true, true, true, false, false, false, false, false, false, false, false, false, false, false] rfl rfl (any_of HT_.out (by kernel_rfl)) (fun _ _ _ h => h) (Or.inl ⟨by rfl, ?_⟩) ?_ ?_
        rotate_left
        ·intro w'
         go_simp
         with_reducible rfl
        rotate_left
        ·simp only [Act.put, List.setIfInBounds_toArray, List.set_cons_zero, List.set_cons_succ, i64_w, i32_w]
         rfl
        refine pure_ (i := 6) (N := some 23) (v := ?_) (a' := ?_) #[true, true, true, true, false, false, true, false, false, false, false, false, false, false, false] rfl rfl (any_of HT_.out (by kernel_rfl)) (fun _ _ _ h => h) (Or.inl ⟨by rfl, ?_⟩) ?_ ?_
        rotate_left
        ·intro w'
         go_simp
         with_reducible rfl
        rotate_left
        ·simp only [Act.put, List.setIfInBounds_toArray, List.set_cons_zero, List.set_cons_succ, i64_w, i32_w]
         rfl
        refine pure_ (i := 7) (N := some 24) (v := ?_) (a' := ?_) #[true, true, true, true, false, false, true, true, false, false, false, false, false, false, false] rfl rfl (any_of HT_.out (by kernel_rfl)) (fun _ _ _ h => h) (Or.inl ⟨by rfl, ?_⟩) ?_ ?_
        rotate_left
        ·intro w'
         go_simp
         with_reducible rfl
        rotate_left
        ·simp only [Act.put, List.setIfInBounds_toArray, List.set_cons_zero, List.set_cons_succ, i64_w, i32_w]
         rfl
        refine pure_ (i := 8) (N := some 25) (v := ?_) (a' := ?_) #[true, true, true, true, false, false, true, true, true, false, false, false, false, false, false] rfl rfl (any_of HT_.out (by kernel_rfl)) (fun _ _ _ h => h) (Or.inl ⟨by rfl, ?_⟩) ?_ ?_
        rotate_left
        ·intro w'
         go_simp
         with_reducible rfl
        rotate_left
        ·simp only [Act.put, List.setIfInBounds_toArray, List.set_cons_zero, List.set_cons_succ, i64_w, i32_w]
         rfl
        refine pure_ (i := 9) (N := some 26) (v := ?_) (a' := ?_) #[true, true, true, true, false, false, true, true, true, true, false, false, false, false, false] rfl rfl (any_of HT_.out (by kernel_rfl)) (fun _ _ _ h => h) (Or.inl ⟨by rfl, ?_⟩) ?_ ?_
        rotate_left
        ·intro w'
         go_simp
         with_reducible rfl
        rotate_left
        ·simp only [Act.put, List.setIfInBounds_toArray, List.set_cons_zero, List.set_cons_succ, i64_w, i32_w]
         rfl
        refine take_ (i := 4) (N := some 21) (v := ?_) (a' := ?_) #[true, true, true, true, true, false, true, true, true, true, false, false, false, false, false] rfl rfl (take_ofW HT_.out HW_.out (by kernel_rfl)) (fun _ _ _ h => h) (Or.inl ⟨by rfl, ?_⟩) hHd ?_ ?_
        rotate_left
        ·rintro w' ⟨s0, s1, s2, s3, s4, s5⟩
         go_simp
         with_reducible rfl
        rotate_left
        ·simp only [Act.put, List.setIfInBounds_toArray, List.set_cons_zero, List.set_cons_succ, i64_w, i32_w]
         rfl
        refine take_ (i := 10) (N := some 27) (v := ?_) (a' := ?_) #[true, true, true, true, true, false, true, true, true, true, true, false, false, false, false] rfl rfl (take_ofW HT_.out HW_.out (by kernel_rfl)) (fun _ _ _ h => h) (Or.inl ⟨by rfl, ?_⟩) hHd ?_ ?_
        rotate_left
        ·rintro w' ⟨s0, s1, s2, s3, s4, s5⟩
         go_simp
         with_reducible rfl
        rotate_left
        ·simp only [Act.put, List.setIfInBounds_toArray, List.set_cons_zero, List.set_cons_succ, i64_w, i32_w]
         rfl
        refine one_ (i := 5) (N := some 22) #[true, true, true, true, true, true, true, true, true, true, true, false, false, false, false] rfl rfl (one_of HT_.out (by kernel_rfl)) (by decide) (fun K hK => ?_)
        refine goes_ Tryd.func27 (by kernel_rfl) rfl #[.int .i64 ((rd_T112 l0 x3_1).f0), .int .i64 1, .int .i64 300] (by rfl) rfl rfl (by (try simp only [List.map_toArray, List.map_cons, List.map_nil]) <;> rfl) ?_
        with_reducible refine (cr1_CheckRange.calls ((rd_T112 l0 x3_1).f0) 1 300 t390 _ A6.out).mono ?_
        rintro e w' ⟨rfl, ⟨nd, rfl⟩⟩
        refine ⟨_, rfl, ?_⟩
        refine hK.out _ _ ⟨((HB.out.cell (World.block_lt_of_cell? w _ hw389_0)).trans hw389_0), ((HB.out.cell (World.block_lt_of_cell? w _ hw389_1)).trans hw389_1), ((HB.out.cell (World.block_lt_of_cell? w _ hw389_2)).trans hw389_2), ((HB.out.cell (World.block_lt_of_cell? w _ hw391_0)).trans hw391_0), ((HB.out.cell (World.block_lt_of_cell? w _ hw391_1)).trans hw391_1), ((HB.out.cell (World.block_lt_of_cell? w _ hw391_2)).trans hw391_2)⟩ (fun hHd => ?_)
        clear hK K
        refine norm_ (a' := ?_) ?_ ?_
        rotate_left
        ·show Act.put _ (some 22) _ = _
         simp only [Act.put, List.setIfInBounds_toArray, List.set_cons_zero, List.set_cons_succ, i64_w, i32_w]
         rfl
        refine one_ (i := 11) (N := some 28) #[true, true, true, true, true, true, true, true, true, true, true, true, false, false, false] rfl rfl (one_of HT_.out (by kernel_rfl)) (by decide) (fun K hK => ?_)
        refine goes_ Tryd.func16 (by kernel_rfl) rfl #[.agg #[.int .i64 ((rd_T112 l0 x3_1).f1.f0), .int .i64 ((rd_T112 l0 x3_1).f1.f1)]] (by rfl) rfl rfl (by (try simp only [List.map_toArray, List.map_cons, List.map_nil]) <;> rfl) ?_
        with_reducible refine (cr6_CheckRatio.calls k1 ((rd_T112 l0 x3_1).f1.f0) ((rd_T112 l0 x3_1).f1.f1) t392 _ A7.out).mono ?_
        rintro e w11 ⟨rfl, hb⟩
        refine ⟨_, rfl, ?_⟩
        have n0_ := Z0.mk (bwT (by repeat (first | (with_reducible first | exact HB.out | apply bwA | apply bwN | apply bw1) | exact HB.out)) hb)
        clear HB
        have HB := n0_
        clear n0_
        (try clear hb)
        (try clear hb2)
        (try clear hk)
        (try clear hi)
        refine hK.out _ _ ⟨((HB.out.cell (World.block_lt_of_cell? w _ hw389_0)).trans hw389_0), ((HB.out.cell (World.block_lt_of_cell? w _ hw389_1)).trans hw389_1), ((HB.out.cell (World.block_lt_of_cell? w _ hw389_2)).trans hw389_2), ((HB.out.cell (World.block_lt_of_cell? w _ hw391_0)).trans hw391_0), ((HB.out.cell (World.block_lt_of_cell? w _ hw391_1)).trans hw391_1), ((HB.out.cell (World.block_lt_of_cell? w _ hw391_2)).trans hw391_2)⟩ (fun hHd => ?_)
        clear hK K
        refine norm_ (a' := ?_) ?_ ?_
        rotate_left
        ·show Act.put _ (some 28) _ = _
         simp only [Act.put, List.setIfInBounds_toArray, List.set_cons_zero, List.set_cons_succ, i64_w, i32_w]
         rfl
        refine one_ (i := 12) (N := some 29) #[true, true, true, true, true, true, true, true, true, true, true, true, true, false, false] rfl rfl (one_of HT_.out (by kernel_rfl)) (by decide) (fun K hK => ?_)
        refine Kd.R_lit_step (Kd.int .i64) _ 3 ?hg (N := 29) ?hd (xs := ([t390, t392] : List Int)) (inner := [.int .i64 t390, .int .i64 t392]) (ok := fun _ => True) (okp := fun _ => True) ?hr ?hp (fun _ hk => hk) trivial (Below.refl _ _) (Nat.le_refl _) (by simp) ?_; (case hd => rfl); (case hg => rfl); (case hr => first | (go_simp; done) | (go_simp; rfl)); (case hp => exact (Reps.one (show Kd.M (Kd.int .i64) _ _ _ t390 [.int .i64 t390] from rfl) (Reps.one (show Kd.M (Kd.int .i64) _ _ _ t392 [.int .i64 t392] from rfl) (Reps.none _ _))))
        intro v394 w12 ho13 hb hg_ hnew_
        clear hg_ hnew_
        (first | rw [← Ny393.out] at ho13 | (simp only [Int.reduceToNat] at ho13; rw [← Ny393.out] at ho13))
        have n0_ := Z0.mk (Kd.R_lower ho13 (bwZ (by repeat (first | (with_reducible first | exact HB.out | apply bwA | apply bwN | apply bw1) | exact HB.out))))
        have n1_ := Z0.mk (bwT (by repeat (first | (with_reducible first | exact HB.out | apply bwA | apply bwN | apply bw1) | exact HB.out)) hb)
        clear HB
        have HO395 := n0_
        have HB := n1_
        clear n0_ n1_
        clear hb ho13
        obtain ⟨Ao14, co14, eo14⟩ := Kd.R_slice HO395.out
        (first | subst eo14 | (injection eo14 with f1_ f2_ f3_; have f4_ := f1_.symm; have f5_ := f3_.symm; clear f1_ f2_ f3_; subst f4_; subst f5_))
        refine hK.out _ _ ⟨((HB.out.cell (World.block_lt_of_cell? w _ hw389_0)).trans hw389_0), ((HB.out.cell (World.block_lt_of_cell? w _ hw389_1)).trans hw389_1), ((HB.out.cell (World.block_lt_of_cell? w _ hw389_2)).trans hw389_2), ((HB.out.cell (World.block_lt_of_cell? w _ hw391_0)).trans hw391_0), ((HB.out.cell (World.block_lt_of_cell? w _ hw391_1)).trans hw391_1), ((HB.out.cell (World.block_lt_of_cell? w _ hw391_2)).trans hw391_2)⟩ (fun hHd => ?_)
        clear hK K
        refine norm_ (a' := ?_) ?_ ?_
        rotate_left
        ·show Act.put _ (some 29) _ = _
         simp only [Act.put, List.setIfInBounds_toArray, List.set_cons_zero, List.set_cons_succ, i64_w, i32_w]
         rfl
        refine one_ (i := 13) (N := some 30) #[true, true, true, true, true, true, true, true, true, true, true, true, true, true, false] rfl rfl (one_of HT_.out (by kernel_rfl)) (by decide) (fun K hK => ?_)
        refine goes_ Tryd.func26 (by kernel_rfl) rfl #[.slice Ao14 y393.length co14] (by rfl) rfl rfl (by (try simp only [List.map_toArray, List.map_cons, List.map_nil]) <;> rfl) ?_
        with_reducible refine (cr1_First.calls k1 _ _ y393 t396 _ ?side1 ?side2 A8.out).mono ?_
        (case side1 => repeat (first | exact (Kd.R_reads' HO395.out).2.2 | (with_reducible refine Kd.C_alloc ?_ _) | (with_reducible refine Kd.C_drewN ?_ _) | (with_reducible refine Kd.C_drew ?_)))
        (case side2 => exact (Kd.R_reads' HO395.out).2.1)
        rintro e w' ⟨rfl, ⟨nd, rfl⟩⟩
        refine ⟨_, rfl, ?_⟩
        refine hK.out _ _ ⟨((HB.out.cell (World.block_lt_of_cell? w _ hw389_0)).trans hw389_0), ((HB.out.cell (World.block_lt_of_cell? w _ hw389_1)).trans hw389_1), ((HB.out.cell (World.block_lt_of_cell? w _ hw389_2)).trans hw389_2), ((HB.out.cell (World.block_lt_of_cell? w _ hw391_0)).trans hw391_0), ((HB.out.cell (World.block_lt_of_cell? w _ hw391_1)).trans hw391_1), ((HB.out.cell (World.block_lt_of_cell? w _ hw391_2)).trans hw391_2)⟩ (fun hHd => ?_)
        clear hK K
        refine norm_ (a' := ?_) ?_ ?_
        rotate_left
        ·show Act.put _ (some 30) _ = _
         simp only [Act.put, List.setIfInBounds_toArray, List.set_cons_zero, List.set_cons_succ, i64_w, i32_w]
         rfl
        refine pure_ (i := 14) (N := some 4) (v := ?_) (a' := ?_) #[true, true, true, true, true, true, true, true, true, true, true, true, true, true, true] rfl rfl (any_of HT_.out (by kernel_rfl)) (fun _ _ _ h => h) (Or.inl ⟨by rfl, ?_⟩) ?_ ?_
        rotate_left
        ·intro w'
         go_simp
         with_reducible rfl
        rotate_left
        ·simp only [Act.put, List.setIfInBounds_toArray, List.set_cons_zero, List.set_cons_succ, i64_w, i32_w]
         rfl
        refine done_ (done_of HT_.out (by kernel_rfl)) ?_
        try go_wp2
        go_roundg k1
        case measure => have := HK1.out; omega
        case rel => exact ⟨(wrap64 (x3_1 + 1)), (by first | rfl | (simp; done) | (simp [*]; done)), H', ⟨by have := HK1.out; omega⟩, ⟨by repeat (first | (with_reducible first | exact HB.out | apply bwA | apply bwN | apply bw1) | exact HB.out)⟩⟩
       ·rw [if_neg c9] at H
        have c9b0 : (t396 == 0) = false := beq_eq_false_iff_ne.mpr c9
        have c9b1 : (t396 != 0) = true := bne_iff_ne.mpr c9
        obtain rfl := Option.some.inj H
        try go_wp2
        have n0_ := Z0.mk (bw1 HB.out)
        clear HB
        have HB := n0_
        clear n0_
        have p389 : 0 ≤ (x3_1 : Int) := of_decide_eq_true (by first | (with_reducible assumption) | assumption)
        have q389 : x3_1 < (l0.length : Int) := of_decide_eq_true (by first | (with_reducible assumption) | assumption)
        obtain ⟨ad389, e389, hx389_0, hx389_1, hx389_2⟩ := at_T112 HR0.out x3_1 p389 q389
        have hw389_2 := hx389_2
        have hw389_1 := hx389_1
        have hw389_0 := hx389_0
        cases e389
        replace hx389_0 := (HB.out.cell (World.block_lt_of_cell? w _ hx389_0)).trans hx389_0
        replace hx389_1 := (HB.out.cell (World.block_lt_of_cell? w _ hx389_1)).trans hx389_1
        replace hx389_2 := (HB.out.cell (World.block_lt_of_cell? w _ hx389_2)).trans hx389_2
        replace p389 := eq_true p389
        replace q389 := eq_true q389
        have p391 : 0 ≤ (x3_1 : Int) := of_decide_eq_true (by first | (with_reducible assumption) | assumption)
        have q391 : x3_1 < (l0.length : Int) := of_decide_eq_true (by first | (with_reducible assumption) | assumption)
        obtain ⟨ad391, e391, hx391_0, hx391_1, hx391_2⟩ := at_T112 HR0.out x3_1 p391 q391
        have hw391_2 := hx391_2
        have hw391_1 := hx391_1
        have hw391_0 := hx391_0
        obtain rfl : ad389 = ad391 := (by injection e391)
        replace hx391_0 := (HB.out.cell (World.block_lt_of_cell? w _ hx391_0)).trans hx391_0
        replace hx391_1 := (HB.out.cell (World.block_lt_of_cell? w _ hx391_1)).trans hx391_1
        replace hx391_2 := (HB.out.cell (World.block_lt_of_cell? w _ hx391_2)).trans hx391_2
        replace p391 := eq_true p391
        replace q391 := eq_true q391
        refine start_ (n := 15) (S := fun w' => w'.cell? (ad389.add ((x3_1).toNat * 3)) = some (.int .i64 ((rd_T112 l0 x3_1).f0)) ∧ w'.cell? ⟨(ad389.add ((x3_1).toNat * 3)).block, (ad389.add ((x3_1).toNat * 3)).off + 1, none⟩ = some (.int .i64 ((rd_T112 l0 x3_1).f1.f0)) ∧ w'.cell? ⟨(ad389.add ((x3_1).toNat * 3)).block, (ad389.add ((x3_1).toNat * 3)).off + 2, none⟩ = some (.int .i64 ((rd_T112 l0 x3_1).f1.f1)) ∧ w'.cell? (ad389.add ((x3_1).toNat * 3)) = some (.int .i64 ((rd_T112 l0 x3_1).f0)) ∧ w'.cell? ⟨(ad389.add ((x3_1).toNat * 3)).block, (ad389.add ((x3_1).toNat * 3)).off + 1, none⟩ = some (.int .i64 ((rd_T112 l0 x3_1).f1.f0)) ∧ w'.cell? ⟨(ad389.add ((x3_1).toNat * 3)).block, (ad389.add ((x3_1).toNat * 3)).off + 2, none⟩ = some (.int .i64 ((rd_T112 l0 x3_1).f1.f1))) (ds := []) #[false, false, false, false, false, false, false, false, false, false, false, false, false, false, false] (by kernel_rfl) rfl rfl ⟨((HB.out.cell (World.block_lt_of_cell? w _ hw389_0)).trans hw389_0), ((HB.out.cell (World.block_lt_of_cell? w _ hw389_1)).trans hw389_1), ((HB.out.cell (World.block_lt_of_cell? w _ hw389_2)).trans hw389_2), ((HB.out.cell (World.block_lt_of_cell? w _ hw391_0)).trans hw391_0), ((HB.out.cell (World.block_lt_of_cell? w _ hw391_1)).trans hw391_1), ((HB.out.cell (World.block_lt_of_cell? w _ hw391_2)).trans hw391_2)⟩ (fun hHd => ?_); refine with_tabW cr6_CheckSections.tab8 cr6_CheckSections.bits8 (fun HT_ HW_ => ?_)
        generalize wr.drew = w15 at HB hx389_0 hx389_1 hx389_2 hx391_0 hx391_1 hx391_2 hHd ⊢
        refine pure_ (i := 0) (N := some 17) (v := ?_) (a' := ?_) #[true, false, false, false, false, false, false, false, false, false, false, false, false, false, false] rfl rfl (any_of HT_.out (by kernel_rfl)) (fun _ _ _ h => h) (Or.inl ⟨by rfl, ?_⟩) ?_ ?_
        rotate_left
        ·intro w'
         go_simp
         with_reducible rfl
        rotate_left
        ·simp only [Act.put, List.setIfInBounds_toArray, List.set_cons_zero, List.set_cons_succ, i64_w, i32_w]
         rfl
        refine pure_ (i := 1) (N := some 18) (v := ?_) (a' := ?_) #[true, true, false, false, false, false, false, false, false, false, false, false, false, false, false] rfl rfl (any_of HT_.out (by kernel_rfl)) (fun _ _ _ h => h) (Or.inl ⟨by rfl, ?_⟩) ?_ ?_
        rotate_left
        ·intro w'
         go_simp
         with_reducible rfl
        rotate_left
        ·simp only [Act.put, List.setIfInBounds_toArray, List.set_cons_zero, List.set_cons_succ, i64_w, i32_w]
         rfl
        refine pure_ (i := 2) (N := some 19) (v := ?_) (a' := ?_) #[true, true, true, false, false, false, false, false, false, false, false, false, false, false, false] rfl rfl (any_of HT_.out (by kernel_rfl)) (fun _ _ _ h => h) (Or.inl ⟨by rfl, ?_⟩) ?_ ?_
        rotate_left
        ·intro w'
         go_simp
         with_reducible rfl
        rotate_left
        ·simp only [Act.put, List.setIfInBounds_toArray, List.set_cons_zero, List.set_cons_succ, i64_w, i32_w]
         rfl
        refine pure_ (i := 3) (N := some 20) (v := ?_) (a' := ?_) #[true, true, true, true, false, false, false, false, false, false, false, false, false, false, false] rfl rfl (any_of HT_.out (by kernel_rfl)) (fun _ _ _ h => h) (Or.inl ⟨by rfl, ?_⟩) ?_ ?_
        rotate_left
        ·intro w'
         go_simp
         with_reducible rfl
        rotate_left
        ·simp only [Act.put, List.setIfInBounds_toArray, List.set_cons_zero, List.set_cons_succ, i64_w, i32_w]
         rfl
        refine pure_ (i := 6) (N := some 23) (v := ?_) (a' := ?_) #[true, true, true, true, false, false, true, false, false, false, false, false, false, false, false] rfl rfl (any_of HT_.out (by kernel_rfl)) (fun _ _ _ h => h) (Or.inl ⟨by rfl, ?_⟩) ?_ ?_
        rotate_left
        ·intro w'
         go_simp
         with_reducible rfl
        rotate_left
        ·simp only [Act.put, List.setIfInBounds_toArray, List.set_cons_zero, List.set_cons_succ, i64_w, i32_w]
         rfl
        refine pure_ (i := 7) (N := some 24) (v := ?_) (a' := ?_) #[true, true, true, true, false, false, true, true, false, false, false, false, false, false, false] rfl rfl (any_of HT_.out (by kernel_rfl)) (fun _ _ _ h => h) (Or.inl ⟨by rfl, ?_⟩) ?_ ?_
        rotate_left
        ·intro w'
         go_simp
         with_reducible rfl
        rotate_left
        ·simp only [Act.put, List.setIfInBounds_toArray, List.set_cons_zero, List.set_cons_succ, i64_w, i32_w]
         rfl
        refine pure_ (i := 8) (N := some 25) (v := ?_) (a' := ?_) #[true, true, true, true, false, false, true, true, true, false, false, false, false, false, false] rfl rfl (any_of HT_.out (by kernel_rfl)) (fun _ _ _ h => h) (Or.inl ⟨by rfl, ?_⟩) ?_ ?_
        rotate_left
        ·intro w'
         go_simp
         with_reducible rfl
        rotate_left
        ·simp only [Act.put, List.setIfInBounds_toArray, List.set_cons_zero, List.set_cons_succ, i64_w, i32_w]
         rfl
        refine pure_ (i := 9) (N := some 26) (v := ?_) (a' := ?_) #[true, true, true, true, false, false, true, true, true, true, false, false, false, false, false] rfl rfl (any_of HT_.out (by kernel_rfl)) (fun _ _ _ h => h) (Or.inl ⟨by rfl, ?_⟩) ?_ ?_
        rotate_left
        ·intro w'
         go_simp
         with_reducible rfl
        rotate_left
        ·simp only [Act.put, List.setIfInBounds_toArray, List.set_cons_zero, List.set_cons_succ, i64_w, i32_w]
         rfl
        refine take_ (i := 4) (N := some 21) (v := ?_) (a' := ?_) #[true, true, true, true, true, false, true, true, true, true, false, false, false, false, false] rfl rfl (take_ofW HT_.out HW_.out (by kernel_rfl)) (fun _ _ _ h => h) (Or.inl ⟨by rfl, ?_⟩) hHd ?_ ?_
        rotate_left
        ·rintro w' ⟨s0, s1, s2, s3, s4, s5⟩
         go_simp
         with_reducible rfl
        rotate_left
        ·simp only [Act.put, List.setIfInBounds_toArray, List.set_cons_zero, List.set_cons_succ, i64_w, i32_w]
         rfl
        refine take_ (i := 10) (N := some 27) (v := ?_) (a' := ?_) #[true, true, true, true, true, false, true, true, true, true, true, false, false, false, false] rfl rfl (take_ofW HT_.out HW_.out (by kernel_rfl)) (fun _ _ _ h => h) (Or.inl ⟨by rfl, ?_⟩) hHd ?_ ?_
        rotate_left
        ·rintro w' ⟨s0, s1, s2, s3, s4, s5⟩
         go_simp
         with_reducible rfl
        rotate_left
        ·simp only [Act.put, List.setIfInBounds_toArray, List.set_cons_zero, List.set_cons_succ, i64_w, i32_w]
         rfl
        refine one_ (i := 5) (N := some 22) #[true, true, true, true, true, true, true, true, true, true, true, false, false, false, false] rfl rfl (one_of HT_.out (by kernel_rfl)) (by decide) (fun K hK => ?_)
        refine goes_ Tryd.func27 (by kernel_rfl) rfl #[.int .i64 ((rd_T112 l0 x3_1).f0), .int .i64 1, .int .i64 300] (by rfl) rfl rfl (by (try simp only [List.map_toArray, List.map_cons, List.map_nil]) <;> rfl) ?_
        with_reducible refine (cr1_CheckRange.calls ((rd_T112 l0 x3_1).f0) 1 300 t390 _ A6.out).mono ?_
        rintro e w' ⟨rfl, ⟨nd, rfl⟩⟩
        refine ⟨_, rfl, ?_⟩
        refine hK.out _ _ ⟨((HB.out.cell (World.block_lt_of_cell? w _ hw389_0)).trans hw389_0), ((HB.out.cell (World.block_lt_of_cell? w _ hw389_1)).trans hw389_1), ((HB.out.cell (World.block_lt_of_cell? w _ hw389_2)).trans hw389_2), ((HB.out.cell (World.block_lt_of_cell? w _ hw391_0)).trans hw391_0), ((HB.out.cell (World.block_lt_of_cell? w _ hw391_1)).trans hw391_1), ((HB.out.cell (World.block_lt_of_cell? w _ hw391_2)).trans hw391_2)⟩ (fun hHd => ?_)
        clear hK K
        refine norm_ (a' := ?_) ?_ ?_
        rotate_left
        ·show Act.put _ (some 22) _ = _
         simp only [Act.put, List.setIfInBounds_toArray, List.set_cons_zero, List.set_cons_succ, i64_w, i32_w]
         rfl
        refine one_ (i := 11) (N := some 28) #[true, true, true, true, true, true, true, true, true, true, true, true, false, false, false] rfl rfl (one_of HT_.out (by kernel_rfl)) (by decide) (fun K hK => ?_)
        refine goes_ Tryd.func16 (by kernel_rfl) rfl #[.agg #[.int .i64 ((rd_T112 l0 x3_1).f1.f0), .int .i64 ((rd_T112 l0 x3_1).f1.f1)]] (by rfl) rfl rfl (by (try simp only [List.map_toArray, List.map_cons, List.map_nil]) <;> rfl) ?_
        with_reducible refine (cr6_CheckRatio.calls k1 ((rd_T112 l0 x3_1).f1.f0) ((rd_T112 l0 x3_1).f1.f1) t392 _ A7.out).mono ?_
        rintro e w16 ⟨rfl, hb⟩
        refine ⟨_, rfl, ?_⟩
        have n0_ := Z0.mk (bwT (by repeat (first | (with_reducible first | exact HB.out | apply bwA | apply bwN | apply bw1) | exact HB.out)) hb)
        clear HB
        have HB := n0_
        clear n0_
        (try clear hb)
        (try clear hb2)
        (try clear hk)
        (try clear hi)
        refine hK.out _ _ ⟨((HB.out.cell (World.block_lt_of_cell? w _ hw389_0)).trans hw389_0), ((HB.out.cell (World.block_lt_of_cell? w _ hw389_1)).trans hw389_1), ((HB.out.cell (World.block_lt_of_cell? w _ hw389_2)).trans hw389_2), ((HB.out.cell (World.block_lt_of_cell? w _ hw391_0)).trans hw391_0), ((HB.out.cell (World.block_lt_of_cell? w _ hw391_1)).trans hw391_1), ((HB.out.cell (World.block_lt_of_cell? w _ hw391_2)).trans hw391_2)⟩ (fun hHd => ?_)
        clear hK K
        refine norm_ (a' := ?_) ?_ ?_
        rotate_left
        ·show Act.put _ (some 28) _ = _
         simp only [Act.put, List.setIfInBounds_toArray, List.set_cons_zero, List.set_cons_succ, i64_w, i32_w]
         rfl
        refine one_ (i := 12) (N := some 29) #[true, true, true, true, true, true, true, true, true, true, true, true, true, false, false] rfl rfl (one_of HT_.out (by kernel_rfl)) (by decide) (fun K hK => ?_)
        refine Kd.R_lit_step (Kd.int .i64) _ 3 ?hg (N := 29) ?hd (xs := ([t390, t392] : List Int)) (inner := [.int .i64 t390, .int .i64 t392]) (ok := fun _ => True) (okp := fun _ => True) ?hr ?hp (fun _ hk => hk) trivial (Below.refl _ _) (Nat.le_refl _) (by simp) ?_; (case hd => rfl); (case hg => rfl); (case hr => first | (go_simp; done) | (go_simp; rfl)); (case hp => exact (Reps.one (show Kd.M (Kd.int .i64) _ _ _ t390 [.int .i64 t390] from rfl) (Reps.one (show Kd.M (Kd.int .i64) _ _ _ t392 [.int .i64 t392] from rfl) (Reps.none _ _))))
        intro v394 w17 ho18 hb hg_ hnew_
        clear hg_ hnew_
        (first | rw [← Ny393.out] at ho18 | (simp only [Int.reduceToNat] at ho18; rw [← Ny393.out] at ho18))
        have n0_ := Z0.mk (Kd.R_lower ho18 (bwZ (by repeat (first | (with_reducible first | exact HB.out | apply bwA | apply bwN | apply bw1) | exact HB.out))))
        have n1_ := Z0.mk (bwT (by repeat (first | (with_reducible first | exact HB.out | apply bwA | apply bwN | apply bw1) | exact HB.out)) hb)
        clear HB
        have HO395 := n0_
        have HB := n1_
        clear n0_ n1_
        clear hb ho18
        obtain ⟨Ao19, co19, eo19⟩ := Kd.R_slice HO395.out
        (first | subst eo19 | (injection eo19 with f1_ f2_ f3_; have f4_ := f1_.symm; have f5_ := f3_.symm; clear f1_ f2_ f3_; subst f4_; subst f5_))
        refine hK.out _ _ ⟨((HB.out.cell (World.block_lt_of_cell? w _ hw389_0)).trans hw389_0), ((HB.out.cell (World.block_lt_of_cell? w _ hw389_1)).trans hw389_1), ((HB.out.cell (World.block_lt_of_cell? w _ hw389_2)).trans hw389_2), ((HB.out.cell (World.block_lt_of_cell? w _ hw391_0)).trans hw391_0), ((HB.out.cell (World.block_lt_of_cell? w _ hw391_1)).trans hw391_1), ((HB.out.cell (World.block_lt_of_cell? w _ hw391_2)).trans hw391_2)⟩ (fun hHd => ?_)
        clear hK K
        refine norm_ (a' := ?_) ?_ ?_
        rotate_left
        ·show Act.put _ (some 29) _ = _
         simp only [Act.put, List.setIfInBounds_toArray, List.set_cons_zero, List.set_cons_succ, i64_w, i32_w]
         rfl
        refine one_ (i := 13) (N := some 30) #[true, true, true, true, true, true, true, true, true, true, true, true, true, true, false] rfl rfl (one_of HT_.out (by kernel_rfl)) (by decide) (fun K hK => ?_)
        refine goes_ Tryd.func26 (by kernel_rfl) rfl #[.slice Ao19 y393.length co19] (by rfl) rfl rfl (by (try simp only [List.map_toArray, List.map_cons, List.map_nil]) <;> rfl) ?_
        with_reducible refine (cr1_First.calls k1 _ _ y393 t396 _ ?side1 ?side2 A8.out).mono ?_
        (case side1 => repeat (first | exact (Kd.R_reads' HO395.out).2.2 | (with_reducible refine Kd.C_alloc ?_ _) | (with_reducible refine Kd.C_drewN ?_ _) | (with_reducible refine Kd.C_drew ?_)))
        (case side2 => exact (Kd.R_reads' HO395.out).2.1)
        rintro e w' ⟨rfl, ⟨nd, rfl⟩⟩
        refine ⟨_, rfl, ?_⟩
        refine hK.out _ _ ⟨((HB.out.cell (World.block_lt_of_cell? w _ hw389_0)).trans hw389_0), ((HB.out.cell (World.block_lt_of_cell? w _ hw389_1)).trans hw389_1), ((HB.out.cell (World.block_lt_of_cell? w _ hw389_2)).trans hw389_2), ((HB.out.cell (World.block_lt_of_cell? w _ hw391_0)).trans hw391_0), ((HB.out.cell (World.block_lt_of_cell? w _ hw391_1)).trans hw391_1), ((HB.out.cell (World.block_lt_of_cell? w _ hw391_2)).trans hw391_2)⟩ (fun hHd => ?_)
        clear hK K
        refine norm_ (a' := ?_) ?_ ?_
        rotate_left
        ·show Act.put _ (some 30) _ = _
         simp only [Act.put, List.setIfInBounds_toArray, List.set_cons_zero, List.set_cons_succ, i64_w, i32_w]
         rfl
        refine pure_ (i := 14) (N := some 4) (v := ?_) (a' := ?_) #[true, true, true, true, true, true, true, true, true, true, true, true, true, true, true] rfl rfl (any_of HT_.out (by kernel_rfl)) (fun _ _ _ h => h) (Or.inl ⟨by rfl, ?_⟩) ?_ ?_
        rotate_left
        ·intro w'
         go_simp
         with_reducible rfl
        rotate_left
        ·simp only [Act.put, List.setIfInBounds_toArray, List.set_cons_zero, List.set_cons_succ, i64_w, i32_w]
         rfl
        refine done_ (done_of HT_.out (by kernel_rfl)) ?_
        try go_wp2
        go_ret
        exact ⟨by first | rfl | (simp [errW_none, errW_some] <;> rfl) | (simp [*, errW_none, errW_some] <;> rfl), by repeat (first | (with_reducible first | exact HB.out | apply bwA | apply bwN | apply bw1) | exact HB.out)⟩
      ·rw [if_neg c5] at H
       exact absurd H (by simp)
     ·rw [if_neg c4] at H
      have c4b0 : decide (x3_1 < (l0.length : Int)) = false := decide_eq_false c4
      clear c4
      obtain rfl := Option.some.inj H
      go_wp2
      go_ret
      exact ⟨by first | rfl | (simp [errW_none, errW_some] <;> rfl) | (simp [*, errW_none, errW_some] <;> rfl), by repeat (first | (with_reducible first | exact HB.out | apply bwA | apply bwN | apply bw1) | exact HB.out)⟩
def cr6_ratio.f (k : Nat) (a0 : Int) (a1 : Int) : Option (Int × Int) := (cr6_Divisor.f k a0 a1).bind fun t282 => (if t282 = 0 then (none) else (some (wrap64 (Int.tdiv a0 t282), wrap64 (Int.tdiv a1 t282))))
def cr6_ratio.T2 : Bool × List (List Nat × List Nat) := (true, [([], []), ([], []), ([0, 1], [0, 1]), ([], []), ([], []), ([3, 4], [3, 4]), ([2, 5], [2, 5]), ([6, 0, 1, 2, 3, 4, 5, 6], [6])])
def cr6_ratio.B2 : List Nat := [0, 0, 3, 0, 0, 24, 63, 127]
theorem cr6_ratio.tab2 : rtab .any (opsOf Tryd.f79 2) = cr6_ratio.T2 := by kernel_rfl
theorem cr6_ratio.bits2 : waitsOk cr6_ratio.T2.2 cr6_ratio.B2 = true := by kernel_rfl
set_option maxHeartbeats 8000000 in
set_option maxRecDepth 100000 in
theorem cr6_ratio.calls (k : Nat) (a0 : Int) (a1 : Int) (r1 : Int) (r2 : Int) (w : World) (h : cr6_ratio.f k a0 a1 = some (r1, r2)) :
  Calls Tryd.prog 79 #[.int .i64 a0, .int .i64 a1] w fun e w' => e = .returned (.agg #[.int .i64 r1, .int .i64 r2]) ∧ Below w.heap.size w w' := by
 have hu23 := Tryd.underlying23
 have HB := Z0.mk (Below.refl w.heap.size w)
 have H : ((cr6_Divisor.f k a0 a1).bind fun t282 => (if t282 = 0 then (none) else (some (wrap64 (Int.tdiv a0 t282), wrap64 (Int.tdiv a1 t282))))) = some (r1, r2) := h
 clear h
 replace H := Option.bind_eq_some_iff.mp H
 obtain ⟨t282, A30, H⟩ := H
 try dsimp only at H
 have A3 := Z0.mk A30
 clear A30
 by_cases c4 : t282 = 0
 ·rw [if_pos c4] at H
  exact absurd H (by simp)
 ·rw [if_neg c4] at H
  have c4b0 : (t282 == 0) = false := beq_eq_false_iff_ne.mpr c4
  have c4b1 : (t282 != 0) = true := bne_iff_ne.mpr c4
  simp only [Option.some.injEq, Prod.mk.injEq] at H
  obtain ⟨rfl, rfl⟩ := H
  go_enter Tryd.func79, Tryd.ntmps79
  try go_wp2_with (first | ((with_reducible refine gtD (N := 4) rfl ?_); refine bxE ?hg (N := 4) ?hd (cs := #[.int .i64 0, .int .i64 0]) (t := 23) ?hr ?_; (case hd => rfl); (case hg => rfl); (case hr => first | (go_simp; done) | (go_simp; rfl)); intro gb281 hg w5 hbox hb; have n0_ := Z0.mk (bwT (by repeat (first | (with_reducible first | exact HB.out | apply bwA | apply bwN | apply bw1) | exact HB.out)) hb); have n1_ := Z0.mk (hbox); have n2_ := Z0.mk ((by rw [hg]; exact (bwZ (by repeat (first | (with_reducible first | exact HB.out | apply bwA | apply bwN | apply bw1) | exact HB.out))) : w.heap.size ≤ gb281)); have n3_ := Z0.mk ((by rw [hg]; exact (bwZ (by repeat (first | (with_reducible first | exact HB.out | apply bwA | apply bwN | apply bw1) | exact HB.out))) : w.heap.size ≤ gb281)); clear HB; have HB := n0_; have BK281 := n1_; have GW281 := n2_; have GE281 := n3_; clear n0_ n1_ n2_ n3_; clear hb hbox hg) | ((with_reducible refine gtC (f := 66) rfl ?_); refine goesL_ (some 8) rfl rfl Tryd.func66 (by kernel_rfl) rfl #[.int .i64 a0, .int .i64 a1] rfl (by (try simp only [List.map_toArray, List.map_cons, List.map_nil]) <;> rfl) ?_; (with_reducible refine (cr6_Divisor.calls k a0 a1 t282 _ A3.out).mono ?_); rintro e w' ⟨rfl, ⟨nd, rfl⟩⟩; refine ⟨_, rfl, ?_⟩; (try (rw [drewN_self w5]; generalize hq_ : World.drewN w5 _ = w5; have n0_ : Z0 (w5.heap[gb281]? = some (.cells #[.int .i64 0, .int .i64 0] 23 (0, 0))) := ⟨by rw [← hq_]; exact (by (with_reducible repeat (first | refine bkN ?_ _ | refine bkD ?_ | refine bkA ?_ _)); exact BK281.out)⟩; have n1_ : Z0 (Below w.heap.size w w5) := ⟨by rw [← hq_]; exact (by repeat (first | (with_reducible first | exact HB.out | apply bwA | apply bwN | apply bw1 | refine bwS ?_ GE281.out) | exact HB.out))⟩; clear BK281 HB hq_; have BK281 := n0_; have HB := n1_; clear n0_ n1_))))
  have n0_ := Z0.mk (bkD BK281.out)
  have n1_ := Z0.mk (bw1 HB.out)
  clear BK281
  clear HB
  have BK281 := n0_
  have HB := n1_
  clear n0_ n1_
  refine start_ (n := 8) (S := fun w' => True) (ds := []) #[false, false, false, false, false, false, false, false] (by kernel_rfl) rfl rfl trivial (fun hHd => ?_); refine with_tabW cr6_ratio.tab2 cr6_ratio.bits2 (fun HT_ HW_ => ?_)
  generalize w5.drew = w6 at BK281 HB hHd ⊢
  refine pure_ (i := 0) (N := some 9) (v := ?_) (a' := ?_) #[true, false, false, false, false, false, false, false] rfl rfl (any_of HT_.out (by kernel_rfl)) (fun _ _ _ h => h) (Or.inl ⟨by rfl, ?_⟩) ?_ ?_
  rotate_left
  ·intro w'
   go_simp
   with_reducible rfl
  rotate_left
  ·simp only [Act.put, List.setIfInBounds_toArray, List.set_cons_zero, List.set_cons_succ, i64_w, i32_w]
   rfl
  refine pure_ (i := 1) (N := some 10) (v := ?_) (a' := ?_) #[true, true, false, false, false, false, false, false] rfl rfl (any_of HT_.out (by kernel_rfl)) (fun _ _ _ h => h) (Or.inl ⟨by rfl, ?_⟩) ?_ ?_
  rotate_left
  ·intro w'
   go_simp
   with_reducible rfl
  rotate_left
  ·simp only [Act.put, List.setIfInBounds_toArray, List.set_cons_zero, List.set_cons_succ, i64_w, i32_w]
   rfl
  refine pure_ (i := 2) (N := some 11) (v := ?_) (a' := ?_) #[true, true, true, false, false, false, false, false] rfl rfl (any_of HT_.out (by kernel_rfl)) (fun _ _ _ h => h) (Or.inl ⟨by rfl, ?_⟩) ?_ ?_
  rotate_left
  ·intro w'
   go_simp
   with_reducible rfl
  rotate_left
  ·simp only [Act.put, List.setIfInBounds_toArray, List.set_cons_zero, List.set_cons_succ, i64_w, i32_w]
   rfl
  refine pure_ (i := 3) (N := some 12) (v := ?_) (a' := ?_) #[true, true, true, true, false, false, false, false] rfl rfl (any_of HT_.out (by kernel_rfl)) (fun _ _ _ h => h) (Or.inl ⟨by rfl, ?_⟩) ?_ ?_
  rotate_left
  ·intro w'
   go_simp
   with_reducible rfl
  rotate_left
  ·simp only [Act.put, List.setIfInBounds_toArray, List.set_cons_zero, List.set_cons_succ, i64_w, i32_w]
   rfl
  refine pure_ (i := 4) (N := some 13) (v := ?_) (a' := ?_) #[true, true, true, true, true, false, false, false] rfl rfl (any_of HT_.out (by kernel_rfl)) (fun _ _ _ h => h) (Or.inl ⟨by rfl, ?_⟩) ?_ ?_
  rotate_left
  ·intro w'
   go_simp
   with_reducible rfl
  rotate_left
  ·simp only [Act.put, List.setIfInBounds_toArray, List.set_cons_zero, List.set_cons_succ, i64_w, i32_w]
   rfl
  refine pure_ (i := 5) (N := some 14) (v := ?_) (a' := ?_) #[true, true, true, true, true, true, false, false] rfl rfl (any_of HT_.out (by kernel_rfl)) (fun _ _ _ h => h) (Or.inl ⟨by rfl, ?_⟩) ?_ ?_
  rotate_left
  ·intro w'
   go_simp
   with_reducible rfl
  rotate_left
  ·simp only [Act.put, List.setIfInBounds_toArray, List.set_cons_zero, List.set_cons_succ, i64_w, i32_w]
   rfl
  refine pure_ (i := 6) (N := some 15) (v := ?_) (a' := ?_) #[true, true, true, true, true, true, true, false] rfl rfl (any_of HT_.out (by kernel_rfl)) (fun _ _ _ h => h) (Or.inl ⟨by rfl, ?_⟩) ?_ ?_
  rotate_left
  ·intro w'
   go_simp
   with_reducible rfl
  rotate_left
  ·simp only [Act.put, List.setIfInBounds_toArray, List.set_cons_zero, List.set_cons_succ, i64_w, i32_w]
   rfl
  refine one_ (i := 7) (N := none) #[true, true, true, true, true, true, true, true] rfl rfl (one_of HT_.out (by kernel_rfl)) (by decide) (fun K hK => ?_)
  have hs7 : w6.cell? ⟨gb281, 0, none⟩ = some (.int .i64 0) := (bkC BK281.out 0).trans rfl
  have hfs7 := bkZ BK281.out 0
  have hs8 : w6.cell? ⟨gb281, 1, none⟩ = some (.int .i64 0) := (bkC BK281.out 1).trans rfl
  have hfs8 := bkZ BK281.out 1
  refine skip_ (w1 := ?_) (by rfl) rfl ?_ ?_
  rotate_left
  ·go_simp
   rfl
  refine hK.out _ _ trivial (fun hHd => ?_)
  clear hK K
  refine done_ (done_of HT_.out (by kernel_rfl)) ?_
  try go_wp2
  refine bodyPost_ret (results_cell_row rfl _ _ gb281 23 #[.int .i64 (wrap64 (Int.tdiv a0 t282)), .int .i64 (wrap64 (Int.tdiv a1 t282))] (0, 0) _ rfl (by (with_reducible repeat (first | refine bkN ?_ _ | refine bkD ?_ | refine bkA ?_ _)); refine bkP (cs := #[.int .i64 (wrap64 (Int.tdiv a0 t282)), .int .i64 0]) ?_ 1 _ rfl; (with_reducible repeat (first | refine bkN ?_ _ | refine bkD ?_ | refine bkA ?_ _)); refine bkP (cs := #[.int .i64 0, .int .i64 0]) ?_ 0 _ rfl; (with_reducible repeat (first | refine bkN ?_ _ | refine bkD ?_ | refine bkA ?_ _)); exact BK281.out) Tryd.underlying23 rfl (by kernel_rfl)) rfl ?_
  exact ⟨by first | rfl | (simp [errW_none, errW_some] <;> rfl) | (simp [*, errW_none, errW_some] <;> rfl), by repeat (first | (with_reducible first | exact HB.out | apply bwA | apply bwN | apply bw1 | refine bwS ?_ GE281.out) | exact HB.out)⟩
def cr6_Rope.l0 : Nat → List (S112) → Int → Int → Int → Option (Int × Int × Int)
 | 0, _, _, _, _ => none
 | k + 1, x0, x1, x6, x7 => if x7 < (x0.length : Int) then (if 0 ≤ x7 then (if ((rd_T112 x0 x7).f1.f1) = 0 then (none) else (cr6_Rope.l0 k x0 x1 (wrap64 (x6 + (wrap64 ((wrap64 ((wrap64 ((wrap64 (2 * x1)) * ((rd_T112 x0 x7).f0))) * ((rd_T112 x0 x7).f1.f0))) * (wrap64 (Int.tdiv (2329089562800 : Int) ((rd_T112 x0 x7).f1.f1))))))) (wrap64 (x7 + 1)))) else (none)) else ((cr6_ratio.f k x6 2329089562800).bind fun bt401 => (if bt401.1 > 999999999 then (some (0, 0, 4)) else (if bt401.2 > 999999999 then (some (0, 0, 4)) else (some (bt401.1, bt401.2, 0)))))
def cr6_Rope.f (k : Nat) (l0 : List (S112)) (a1 : Int) : Option (Int × Int × Int) := cr6_Rope.l0 k l0 a1 0 0
set_option maxHeartbeats 8000000 in
set_option maxRecDepth 100000 in
theorem cr6_Rope.calls (k : Nat) (A0 : Option Addr) (c0 : Nat) (l0 : List (S112)) (a1 : Int) (r1 : Int) (r2 : Int) (r3 : Int) (w : World) (hr0 : Kd.C k112 w A0 l0.length l0) (hc0 : l0.length ≤ c0) (h : cr6_Rope.f k l0 a1 = some (r1, r2, r3)) :
  Calls Tryd.prog 44 #[.slice A0 l0.length c0, .int .i64 a1] w fun e w' => e = .returned (.tuple #[.agg #[.int .i64 r1, .int .i64 r2], .int .i64 r3]) ∧ Below w.heap.size w w' := by
 have hu23 := Tryd.underlying23
 have HR0 := Z0.mk hr0
 have HC0 := Z0.mk hc0
 clear hr0 hc0
 have HB := Z0.mk (Below.refl w.heap.size w)
 have H : (cr6_Rope.l0 k l0 a1 0 0) = some (r1, r2, r3) := h
 clear h
 have H' := Z0.mk H
 clear H
 go_enter Tryd.func44, Tryd.ntmps44
 go_wp2_with (first | ((with_reducible refine gtD (N := 4) rfl ?_); refine bxE ?hg (N := 4) ?hd (cs := #[.int .i64 0, .int .i64 0]) (t := 23) ?hr ?_; (case hd => rfl); (case hg => rfl); (case hr => first | (go_simp; done) | (go_simp; rfl)); intro gb397 hg w3 hbox hb; have n0_ := Z0.mk (bwT (by repeat (first | (with_reducible first | exact HB.out | apply bwA | apply bwN | apply bw1) | exact HB.out)) hb); have n1_ := Z0.mk (hbox); have n2_ := Z0.mk ((by rw [hg]; exact (bwZ (by repeat (first | (with_reducible first | exact HB.out | apply bwA | apply bwN | apply bw1) | exact HB.out))) : w.heap.size ≤ gb397)); have n3_ := Z0.mk ((by rw [hg]; exact (bwZ (by repeat (first | (with_reducible first | exact HB.out | apply bwA | apply bwN | apply bw1) | exact HB.out))) : w.heap.size ≤ gb397)); clear HB; have HB := n0_; have BK397 := n1_; have GW397 := n2_; have GE397 := n3_; clear n0_ n1_ n2_ n3_; clear hb hbox hg))
 repeat (go_quiet (first | ((with_reducible refine gtD (N := 4) rfl ?_); refine bxE ?hg (N := 4) ?hd (cs := #[.int .i64 0, .int .i64 0]) (t := 23) ?hr ?_; (case hd => rfl); (case hg => rfl); (case hr => first | (go_simp; done) | (go_simp; rfl)); intro gb397 hg w3 hbox hb; have n0_ := Z0.mk (bwT (by repeat (first | (with_reducible first | exact HB.out | apply bwA | apply bwN | apply bw1) | exact HB.out)) hb); have n1_ := Z0.mk (hbox); have n2_ := Z0.mk ((by rw [hg]; exact (bwZ (by repeat (first | (with_reducible first | exact HB.out | apply bwA | apply bwN | apply bw1) | exact HB.out))) : w.heap.size ≤ gb397)); have n3_ := Z0.mk ((by rw [hg]; exact (bwZ (by repeat (first | (with_reducible first | exact HB.out | apply bwA | apply bwN | apply bw1) | exact HB.out))) : w.heap.size ≤ gb397)); clear HB; have HB := n0_; have BK397 := n1_; have GW397 := n2_; have GE397 := n3_; clear n0_ n1_ n2_ n3_; clear hb hbox hg)); try go_wp2_with (first | ((with_reducible refine gtD (N := 4) rfl ?_); refine bxE ?hg (N := 4) ?hd (cs := #[.int .i64 0, .int .i64 0]) (t := 23) ?hr ?_; (case hd => rfl); (case hg => rfl); (case hr => first | (go_simp; done) | (go_simp; rfl)); intro gb397 hg w3 hbox hb; have n0_ := Z0.mk (bwT (by repeat (first | (with_reducible first | exact HB.out | apply bwA | apply bwN | apply bw1) | exact HB.out)) hb); have n1_ := Z0.mk (hbox); have n2_ := Z0.mk ((by rw [hg]; exact (bwZ (by repeat (first | (with_reducible first | exact HB.out | apply bwA | apply bwN | apply bw1) | exact HB.out))) : w.heap.size ≤ gb397)); have n3_ := Z0.mk ((by rw [hg]; exact (bwZ (by repeat (first | (with_reducible first | exact HB.out | apply bwA | apply bwN | apply bw1) | exact HB.out))) : w.heap.size ≤ gb397)); clear HB; have HB := n0_; have BK397 := n1_; have GW397 := n2_; have GE397 := n3_; clear n0_ n1_ n2_ n3_; clear hb hbox hg)))
 go_loopg [6, 7] k (fun kq v6 v7 w' => ∃ (x6_1 : Int) (x7_1 : Int), v6 = .int .i64 x6_1 ∧ v7 = .int .i64 x7_1 ∧ Z0 (cr6_Rope.l0 kq l0 a1 x6_1 x7_1 = some (r1, r2, r3)) ∧ Z0 (kq ≤ k) ∧ Z0 (w'.heap[gb397]? = some (.cells #[.int .i64 0, .int .i64 0] 23 (0, 0))) ∧ Z0 (Below w.heap.size w w'))
 case atStart => exact ⟨(0), (0), (by first | rfl | (simp; done) | (simp [*]; done)), (by first | rfl | (simp; done) | (simp [*]; done)), H', ⟨Nat.le_refl _⟩, ⟨by (with_reducible repeat (first | refine bkN ?_ _ | refine bkD ?_ | refine bkA ?_ _)); exact BK397.out⟩, ⟨by repeat (first | (with_reducible first | exact HB.out | apply bwA | apply bwN | apply bw1 | refine bwS ?_ GE397.out) | exact HB.out)⟩⟩
 case round =>
  clear H'
  try clear p2
  obtain ⟨x6_1, x7_1, rfl, rfl, HA, HK1, BK397, HB⟩ := hrel
  cases gk with
  | zero => exact absurd HA.out (by simp [cr6_Rope.l0])
  | succ k1 =>
   have H := HA.out
   clear HA
   simp only [cr6_Rope.l0] at H
   by_cases c4 : x7_1 < (l0.length : Int)
   ·rw [if_pos c4] at H
    have c4b0 : decide (x7_1 < (l0.length : Int)) = true := decide_eq_true c4
    clear c4
    by_cases c5 : 0 ≤ x7_1
    ·rw [if_pos c5] at H
     have c5b0 : decide (0 ≤ x7_1) = true := decide_eq_true c5
     clear c5
     by_cases c6 : ((rd_T112 l0 x7_1).f1.f1) = 0
     ·rw [if_pos c6] at H
      exact absurd H (by simp)
     ·rw [if_neg c6] at H
      have c6b0 : (((rd_T112 l0 x7_1).f1.f1) == 0) = false := beq_eq_false_iff_ne.mpr c6
      have c6b1 : (((rd_T112 l0 x7_1).f1.f1) != 0) = true := bne_iff_ne.mpr c6
      have H' := Z0.mk H
      clear H
      have p398 : 0 ≤ (x7_1 : Int) := of_decide_eq_true (by first | (with_reducible assumption) | assumption)
      have q398 : x7_1 < (l0.length : Int) := of_decide_eq_true (by first | (with_reducible assumption) | assumption)
      obtain ⟨ad398, e398, hx398_0, hx398_1, hx398_2⟩ := at_T112 HR0.out x7_1 p398 q398
      cases e398
      replace hx398_0 := (HB.out.cell (World.block_lt_of_cell? w _ hx398_0)).trans hx398_0
      replace hx398_1 := (HB.out.cell (World.block_lt_of_cell? w _ hx398_1)).trans hx398_1
      replace hx398_2 := (HB.out.cell (World.block_lt_of_cell? w _ hx398_2)).trans hx398_2
      replace p398 := eq_true p398
      replace q398 := eq_true q398
      have p399 : 0 ≤ (x7_1 : Int) := of_decide_eq_true (by first | (with_reducible assumption) | assumption)
      have q399 : x7_1 < (l0.length : Int) := of_decide_eq_true (by first | (with_reducible assumption) | assumption)
      obtain ⟨ad399, e399, hx399_0, hx399_1, hx399_2⟩ := at_T112 HR0.out x7_1 p399 q399
      obtain rfl : ad398 = ad399 := (by injection e399)
      replace hx399_0 := (HB.out.cell (World.block_lt_of_cell? w _ hx399_0)).trans hx399_0
      replace hx399_1 := (HB.out.cell (World.block_lt_of_cell? w _ hx399_1)).trans hx399_1
      replace hx399_2 := (HB.out.cell (World.block_lt_of_cell? w _ hx399_2)).trans hx399_2
      replace p399 := eq_true p399
      replace q399 := eq_true q399
      have p400 : 0 ≤ (x7_1 : Int) := of_decide_eq_true (by first | (with_reducible assumption) | assumption)
      have q400 : x7_1 < (l0.length : Int) := of_decide_eq_true (by first | (with_reducible assumption) | assumption)
      obtain ⟨ad400, e400, hx400_0, hx400_1, hx400_2⟩ := at_T112 HR0.out x7_1 p400 q400
      obtain rfl : ad398 = ad400 := (by injection e400)
      replace hx400_0 := (HB.out.cell (World.block_lt_of_cell? w _ hx400_0)).trans hx400_0
      replace hx400_1 := (HB.out.cell (World.block_lt_of_cell? w _ hx400_1)).trans hx400_1
      replace hx400_2 := (HB.out.cell (World.block_lt_of_cell? w _ hx400_2)).trans hx400_2
      replace p400 := eq_true p400
      replace q400 := eq_true q400
      go_wp2
      repeat (go_quiet (fail); try go_wp2)
      go_roundg k1
      case measure => have := HK1.out; omega
      case rel => exact ⟨(wrap64 (x6_1 + (wrap64 ((wrap64 ((wrap64 ((wrap64 (2 * a1)) * ((rd_T112 l0 x7_1).f0))) * ((rd_T112 l0 x7_1).f1.f0))) * (wrap64 (Int.tdiv (2329089562800 : Int) ((rd_T112 l0 x7_1).f1.f1))))))), (wrap64 (x7_1 + 1)), (by first | rfl | (simp; done) | (simp [*]; done)), (by first | rfl | (simp; done) | (simp [*]; done)), H', ⟨by have := HK1.out; omega⟩, ⟨by (with_reducible repeat (first | refine bkN ?_ _ | refine bkD ?_ | refine bkA ?_ _)); exact BK397.out⟩, ⟨by repeat (first | (with_reducible first | exact HB.out | apply bwA | apply bwN | apply bw1 | refine bwS ?_ GE397.out) | exact HB.out)⟩⟩
    ·rw [if_neg c5] at H
     exact absurd H (by simp)
   ·rw [if_neg c4] at H
    have c4b0 : decide (x7_1 < (l0.length : Int)) = false := decide_eq_false c4
    clear c4
    replace H := Option.bind_eq_some_iff.mp H
    obtain ⟨⟨t401, t402⟩, A70, H⟩ := H
    try dsimp only at H
    have A7 := Z0.mk A70
    clear A70
    by_cases c8 : t401 > 999999999
    ·rw [if_pos c8] at H
     have c8b0 : decide (999999999 < t401) = true := decide_eq_true c8
     clear c8
     simp only [Option.some.injEq, Prod.mk.injEq] at H
     obtain ⟨rfl, rfl, rfl⟩ := H
     go_wp2_with (first | (go_at_call 79; (with_reducible refine (cr6_ratio.calls k1 x6_1 2329089562800 t401 t402 _ A7.out).mono ?_); rintro e w9 ⟨rfl, hb⟩; have n0_ := Z0.mk (bkB (g := gb397) (o := .cells #[.int .i64 0, .int .i64 0] 23 (0, 0)) (by (with_reducible repeat (first | refine bkN ?_ _ | refine bkD ?_ | refine bkA ?_ _)); exact BK397.out) hb); have n1_ := Z0.mk (bwT (by repeat (first | (with_reducible first | exact HB.out | apply bwA | apply bwN | apply bw1 | refine bwS ?_ GE397.out) | exact HB.out)) hb); clear BK397; clear HB; have BK397 := n0_; have HB := n1_; clear n0_ n1_; (try clear hb); (try clear hb2); (try clear hk); (try clear hi)) | ((with_reducible refine gtD (N := 8) rfl ?_); refine bxE ?hg (N := 8) ?hd (cs := #[.int .i64 0, .int .i64 0]) (t := 23) ?hr ?_; (case hd => rfl); (case hg => rfl); (case hr => first | (go_simp; done) | (go_simp; rfl)); intro gb403 hg w10 hbox hb; have n0_ := Z0.mk (bkB (g := gb397) (o := .cells #[.int .i64 0, .int .i64 0] 23 (0, 0)) (by (with_reducible repeat (first | refine bkN ?_ _ | refine bkD ?_ | refine bkA ?_ _)); exact BK397.out) hb); have n1_ := Z0.mk (bwT (by repeat (first | (with_reducible first | exact HB.out | apply bwA | apply bwN | apply bw1 | refine bwS ?_ GE397.out) | exact HB.out)) hb); have n2_ := Z0.mk (hbox); have n3_ := Z0.mk ((by rw [hg]; exact (bwZ (by repeat (first | (with_reducible first | exact HB.out | apply bwA | apply bwN | apply bw1 | refine bwS ?_ GE397.out) | exact HB.out))) : w.heap.size ≤ gb403)); have n4_ := Z0.mk ((by rw [hg]; exact (bwZ (by repeat (first | (with_reducible first | exact HB.out | apply bwA | apply bwN | apply bw1 | refine bwS ?_ GE397.out) | exact HB.out))) : w.heap.size ≤ gb403)); have n5_ := Z0.mk ((by rw [hg]; exact Nat.ne_of_lt (blk_lt (g := gb397) (o := .cells #[.int .i64 0, .int .i64 0] 23 (0, 0)) (by (with_reducible repeat (first | refine bkN ?_ _ | refine bkD ?_ | refine bkA ?_ _)); exact BK397.out)) : gb397 ≠ gb403)); have n6_ := Z0.mk ((by rw [hg]; exact Nat.ne_of_gt (blk_lt (g := gb397) (o := .cells #[.int .i64 0, .int .i64 0] 23 (0, 0)) (by (with_reducible repeat (first | refine bkN ?_ _ | refine bkD ?_ | refine bkA ?_ _)); exact BK397.out)) : gb403 ≠ gb397)); clear BK397; clear HB; have BK397 := n0_; have HB := n1_; have BK403 := n2_; have GW403 := n3_; have GE403 := n4_; have NB397_403 := n5_; have NB403_397 := n6_; clear n0_ n1_ n2_ n3_ n4_ n5_ n6_; clear hb hbox hg; have hnb11 := NB403_397.out; have hnc11 := NB397_403.out; have hcz12_0 : w10.cell? ⟨gb403, 0, none⟩ = some (.int .i64 0) := (bkC BK403.out 0).trans rfl; have hcz12_1 : w10.cell? ⟨gb403, 1, none⟩ = some (.int .i64 0) := (bkC BK403.out 1).trans rfl; have hfz12_0 := bkZ BK403.out 0; have hfz12_1 := bkZ BK403.out 1; have hcz13_0 : w10.cell? ⟨gb397, 0, none⟩ = some (.int .i64 0) := (bkC BK397.out 0).trans rfl; have hcz13_1 : w10.cell? ⟨gb397, 1, none⟩ = some (.int .i64 0) := (bkC BK397.out 1).trans rfl; have hfz13_0 := bkZ BK397.out 0; have hfz13_1 := bkZ BK397.out 1))
     repeat (go_quiet (first | (go_at_call 79; (with_reducible refine (cr6_ratio.calls k1 x6_1 2329089562800 t401 t402 _ A7.out).mono ?_); rintro e w9 ⟨rfl, hb⟩; have n0_ := Z0.mk (bkB (g := gb397) (o := .cells #[.int .i64 0, .int .i64 0] 23 (0, 0)) (by (with_reducible repeat (first | refine bkN ?_ _ | refine bkD ?_ | refine bkA ?_ _)); exact BK397.out) hb); have n1_ := Z0.mk (bwT (by repeat (first | (with_reducible first | exact HB.out | apply bwA | apply bwN | apply bw1 | refine bwS ?_ GE397.out) | exact HB.out)) hb); clear BK397; clear HB; have BK397 := n0_; have HB := n1_; clear n0_ n1_; (try clear hb); (try clear hb2); (try clear hk); (try clear hi)) | ((with_reducible refine gtD (N := 8) rfl ?_); refine bxE ?hg (N := 8) ?hd (cs := #[.int .i64 0, .int .i64 0]) (t := 23) ?hr ?_; (case hd => rfl); (case hg => rfl); (case hr => first | (go_simp; done) | (go_simp; rfl)); intro gb403 hg w10 hbox hb; have n0_ := Z0.mk (bkB (g := gb397) (o := .cells #[.int .i64 0, .int .i64 0] 23 (0, 0)) (by (with_reducible repeat (first | refine bkN ?_ _ | refine bkD ?_ | refine bkA ?_ _)); exact BK397.out) hb); have n1_ := Z0.mk (bwT (by repeat (first | (with_reducible first | exact HB.out | apply bwA | apply bwN | apply bw1 | refine bwS ?_ GE397.out) | exact HB.out)) hb); have n2_ := Z0.mk (hbox); have n3_ := Z0.mk ((by rw [hg]; exact (bwZ (by repeat (first | (with_reducible first | exact HB.out | apply bwA | apply bwN | apply bw1 | refine bwS ?_ GE397.out) | exact HB.out))) : w.heap.size ≤ gb403)); have n4_ := Z0.mk ((by rw [hg]; exact (bwZ (by repeat (first | (with_reducible first | exact HB.out | apply bwA | apply bwN | apply bw1 | refine bwS ?_ GE397.out) | exact HB.out))) : w.heap.size ≤ gb403)); have n5_ := Z0.mk ((by rw [hg]; exact Nat.ne_of_lt (blk_lt (g := gb397) (o := .cells #[.int .i64 0, .int .i64 0] 23 (0, 0)) (by (with_reducible repeat (first | refine bkN ?_ _ | refine bkD ?_ | refine bkA ?_ _)); exact BK397.out)) : gb397 ≠ gb403)); have n6_ := Z0.mk ((by rw [hg]; exact Nat.ne_of_gt (blk_lt (g := gb397) (o := .cells #[.int .i64 0, .int .i64 0] 23 (0, 0)) (by (with_reducible repeat (first | refine bkN ?_ _ | refine bkD ?_ | refine bkA ?_ _)); exact BK397.out)) : gb403 ≠ gb397)); clear BK397; clear HB; have BK397 := n0_; have HB := n1_; have BK403 := n2_; have GW403 := n3_; have GE403 := n4_; have NB397_403 := n5_; have NB403_397 := n6_; clear n0_ n1_ n2_ n3_ n4_ n5_ n6_; clear hb hbox hg; have hnb11 := NB403_397.out; have hnc11 := NB397_403.out; have hcz12_0 : w10.cell? ⟨gb403, 0, none⟩ = some (.int .i64 0) := (bkC BK403.out 0).trans rfl; have hcz12_1 : w10.cell? ⟨gb403, 1, none⟩ = some (.int .i64 0) := (bkC BK403.out 1).trans rfl; have hfz12_0 := bkZ BK403.out 0; have hfz12_1 := bkZ BK403.out 1; have hcz13_0 : w10.cell? ⟨gb397, 0, none⟩ = some (.int .i64 0) := (bkC BK397.out 0).trans rfl; have hcz13_1 : w10.cell? ⟨gb397, 1, none⟩ = some (.int .i64 0) := (bkC BK397.out 1).trans rfl; have hfz13_0 := bkZ BK397.out 0; have hfz13_1 := bkZ BK397.out 1)); try go_wp2_with (first | (go_at_call 79; (with_reducible refine (cr6_ratio.calls k1 x6_1 2329089562800 t401 t402 _ A7.out).mono ?_); rintro e w9 ⟨rfl, hb⟩; have n0_ := Z0.mk (bkB (g := gb397) (o := .cells #[.int .i64 0, .int .i64 0] 23 (0, 0)) (by (with_reducible repeat (first | refine bkN ?_ _ | refine bkD ?_ | refine bkA ?_ _)); exact BK397.out) hb); have n1_ := Z0.mk (bwT (by repeat (first | (with_reducible first | exact HB.out | apply bwA | apply bwN | apply bw1 | refine bwS ?_ GE397.out) | exact HB.out)) hb); clear BK397; clear HB; have BK397 := n0_; have HB := n1_; clear n0_ n1_; (try clear hb); (try clear hb2); (try clear hk); (try clear hi)) | ((with_reducible refine gtD (N := 8) rfl ?_); refine bxE ?hg (N := 8) ?hd (cs := #[.int .i64 0, .int .i64 0]) (t := 23) ?hr ?_; (case hd => rfl); (case hg => rfl); (case hr => first | (go_simp; done) | (go_simp; rfl)); intro gb403 hg w10 hbox hb; have n0_ := Z0.mk (bkB (g := gb397) (o := .cells #[.int .i64 0, .int .i64 0] 23 (0, 0)) (by (with_reducible repeat (first | refine bkN ?_ _ | refine bkD ?_ | refine bkA ?_ _)); exact BK397.out) hb); have n1_ := Z0.mk (bwT (by repeat (first | (with_reducible first | exact HB.out | apply bwA | apply bwN | apply bw1 | refine bwS ?_ GE397.out) | exact HB.out)) hb); have n2_ := Z0.mk (hbox); have n3_ := Z0.mk ((by rw [hg]; exact (bwZ (by repeat (first | (with_reducible first | exact HB.out | apply bwA | apply bwN | apply bw1 | refine bwS ?_ GE397.out) | exact HB.out))) : w.heap.size ≤ gb403)); have n4_ := Z0.mk ((by rw [hg]; exact (bwZ (by repeat (first | (with_reducible first | exact HB.out | apply bwA | apply bwN | apply bw1 | refine bwS ?_ GE397.out) | exact HB.out))) : w.heap.size ≤ gb403)); have n5_ := Z0.mk ((by rw [hg]; exact Nat.ne_of_lt (blk_lt (g := gb397) (o := .cells #[.int .i64 0, .int .i64 0] 23 (0, 0)) (by (with_reducible repeat (first | refine bkN ?_ _ | refine bkD ?_ | refine bkA ?_ _)); exact BK397.out)) : gb397 ≠ gb403)); have n6_ := Z0.mk ((by rw [hg]; exact Nat.ne_of_gt (blk_lt (g := gb397) (o := .cells #[.int .i64 0, .int .i64 0] 23 (0, 0)) (by (with_reducible repeat (first | refine bkN ?_ _ | refine bkD ?_ | refine bkA ?_ _)); exact BK397.out)) : gb403 ≠ gb397)); clear BK397; clear HB; have BK397 := n0_; have HB := n1_; have BK403 := n2_; have GW403 := n3_; have GE403 := n4_; have NB397_403 := n5_; have NB403_397 := n6_; clear n0_ n1_ n2_ n3_ n4_ n5_ n6_; clear hb hbox hg; have hnb11 := NB403_397.out; have hnc11 := NB397_403.out; have hcz12_0 : w10.cell? ⟨gb403, 0, none⟩ = some (.int .i64 0) := (bkC BK403.out 0).trans rfl; have hcz12_1 : w10.cell? ⟨gb403, 1, none⟩ = some (.int .i64 0) := (bkC BK403.out 1).trans rfl; have hfz12_0 := bkZ BK403.out 0; have hfz12_1 := bkZ BK403.out 1; have hcz13_0 : w10.cell? ⟨gb397, 0, none⟩ = some (.int .i64 0) := (bkC BK397.out 0).trans rfl; have hcz13_1 : w10.cell? ⟨gb397, 1, none⟩ = some (.int .i64 0) := (bkC BK397.out 1).trans rfl; have hfz13_0 := bkZ BK397.out 0; have hfz13_1 := bkZ BK397.out 1)))
     refine bodyPost_ret (results_ct rfl _ _ gb397 23 #[.int .i64 0, .int .i64 0] (0, 0) _ rfl (by (with_reducible repeat (first | refine bkN ?_ _ | refine bkD ?_ | refine bkA ?_ _)); refine bkP (cs := #[.int .i64 0, .int .i64 0]) ?_ 1 _ rfl; (with_reducible repeat (first | refine bkN ?_ _ | refine bkD ?_ | refine bkA ?_ _)); refine bkP (cs := #[.int .i64 0, .int .i64 0]) ?_ 0 _ rfl; (with_reducible repeat (first | refine bkN ?_ _ | refine bkD ?_ | refine bkA ?_ _)); refine bkF ?_ NB397_403.out _; (with_reducible repeat (first | refine bkN ?_ _ | refine bkD ?_ | refine bkA ?_ _)); refine bkF ?_ NB397_403.out _; (with_reducible repeat (first | refine bkN ?_ _ | refine bkD ?_ | refine bkA ?_ _)); exact BK397.out) Tryd.underlying23 rfl (by kernel_rfl)) rfl ?_
     exact ⟨by first | rfl | (simp [errW_none, errW_some] <;> rfl) | (simp [*, errW_none, errW_some] <;> rfl), by repeat (first | (with_reducible first | exact HB.out | apply bwA | apply bwN | apply bw1 | refine bwS ?_ GE397.out | refine bwS ?_ GE403.out) | exact HB.out)⟩
    ·rw [if_neg c8] at H
     have c8b0 : decide (999999999 < t401) = false := decide_eq_false c8
     clear c8
     by_cases c14 : t402 > 999999999
     ·rw [if_pos c14] at H
      have c14b0 : decide (999999999 < t402) = true := decide_eq_true c14
      clear c14
      simp only [Option.some.injEq, Prod.mk.injEq] at H
      obtain ⟨rfl, rfl, rfl⟩ := H
      go_wp2_with (first | (go_at_call 79; (with_reducible refine (cr6_ratio.calls k1 x6_1 2329089562800 t401 t402 _ A7.out).mono ?_); rintro e w15 ⟨rfl, hb⟩; have n0_ := Z0.mk (bkB (g := gb397) (o := .cells #[.int .i64 0, .int .i64 0] 23 (0, 0)) (by (with_reducible repeat (first | refine bkN ?_ _ | refine bkD ?_ | refine bkA ?_ _)); exact BK397.out) hb); have n1_ := Z0.mk (bwT (by repeat (first | (with_reducible first | exact HB.out | apply bwA | apply bwN | apply bw1 | refine bwS ?_ GE397.out) | exact HB.out)) hb); clear BK397; clear HB; have BK397 := n0_; have HB := n1_; clear n0_ n1_; (try clear hb); (try clear hb2); (try clear hk); (try clear hi)) | ((with_reducible refine gtD (N := 8) rfl ?_); refine bxE ?hg (N := 8) ?hd (cs := #[.int .i64 0, .int .i64 0]) (t := 23) ?hr ?_; (case hd => rfl); (case hg => rfl); (case hr => first | (go_simp; done) | (go_simp; rfl)); intro gb403 hg w16 hbox hb; have n0_ := Z0.mk (bkB (g := gb397) (o := .cells #[.int .i64 0, .int .i64 0] 23 (0, 0)) (by (with_reducible repeat (first | refine bkN ?_ _ | refine bkD ?_ | refine bkA ?_ _)); exact BK397.out) hb); have n1_ := Z0.mk (bwT (by repeat (first | (with_reducible first | exact HB.out | apply bwA | apply bwN | apply bw1 | refine bwS ?_ GE397.out) | exact HB.out)) hb); have n2_ := Z0.mk (hbox); have n3_ := Z0.mk ((by rw [hg]; exact (bwZ (by repeat (first | (with_reducible first | exact HB.out | apply bwA | apply bwN | apply bw1 | refine bwS ?_ GE397.out) | exact HB.out))) : w.heap.size ≤ gb403)); have n4_ := Z0.mk ((by rw [hg]; exact (bwZ (by repeat (first | (with_reducible first | exact HB.out | apply bwA | apply bwN | apply bw1 | refine bwS ?_ GE397.out) | exact HB.out))) : w.heap.size ≤ gb403)); have n5_ := Z0.mk ((by rw [hg]; exact Nat.ne_of_lt (blk_lt (g := gb397) (o := .cells #[.int .i64 0, .int .i64 0] 23 (0, 0)) (by (with_reducible repeat (first | refine bkN ?_ _ | refine bkD ?_ | refine bkA ?_ _)); exact BK397.out)) : gb397 ≠ gb403)); have n6_ := Z0.mk ((by rw [hg]; exact Nat.ne_of_gt (blk_lt (g := gb397) (o := .cells #[.int .i64 0, .int .i64 0] 23 (0, 0)) (by (with_reducible repeat (first | refine bkN ?_ _ | refine bkD ?_ | refine bkA ?_ _)); exact BK397.out)) : gb403 ≠ gb397)); clear BK397; clear HB; have BK397 := n0_; have HB := n1_; have BK403 := n2_; have GW403 := n3_; have GE403 := n4_; have NB397_403 := n5_; have NB403_397 := n6_; clear n0_ n1_ n2_ n3_ n4_ n5_ n6_; clear hb hbox hg; have hnb17 := NB403_397.out; have hnc17 := NB397_403.out; have hcz18_0 : w16.cell? ⟨gb403, 0, none⟩ = some (.int .i64 0) := (bkC BK403.out 0).trans rfl; have hcz18_1 : w16.cell? ⟨gb403, 1, none⟩ = some (.int .i64 0) := (bkC BK403.out 1).trans rfl; have hfz18_0 := bkZ BK403.out 0; have hfz18_1 := bkZ BK403.out 1; have hcz19_0 : w16.cell? ⟨gb397, 0, none⟩ = some (.int .i64 0) := (bkC BK397.out 0).trans rfl; have hcz19_1 : w16.cell? ⟨gb397, 1, none⟩ = some (.int .i64 0) := (bkC BK397.out 1).trans rfl; have hfz19_0 := bkZ BK397.out 0; have hfz19_1 := bkZ BK397.out 1))
      repeat (go_quiet (first | (go_at_call 79; (with_reducible refine (cr6_ratio.calls k1 x6_1 2329089562800 t401 t402 _ A7.out).mono ?_); rintro e w15 ⟨rfl, hb⟩; have n0_ := Z0.mk (bkB (g := gb397) (o := .cells #[.int .i64 0, .int .i64 0] 23 (0, 0)) (by (with_reducible repeat (first | refine bkN ?_ _ | refine bkD ?_ | refine bkA ?_ _)); exact BK397.out) hb); have n1_ := Z0.mk (bwT (by repeat (first | (with_reducible first | exact HB.out | apply bwA | apply bwN | apply bw1 | refine bwS ?_ GE397.out) | exact HB.out)) hb); clear BK397; clear HB; have BK397 := n0_; have HB := n1_; clear n0_ n1_; (try clear hb); (try clear hb2); (try clear hk); (try clear hi)) | ((with_reducible refine gtD (N := 8) rfl ?_); refine bxE ?hg (N := 8) ?hd (cs := #[.int .i64 0, .int .i64 0]) (t := 23) ?hr ?_; (case hd => rfl); (case hg => rfl); (case hr => first | (go_simp; done) | (go_simp; rfl)); intro gb403 hg w16 hbox hb; have n0_ := Z0.mk (bkB (g := gb397) (o := .cells #[.int .i64 0, .int .i64 0] 23 (0, 0)) (by (with_reducible repeat (first | refine bkN ?_ _ | refine bkD ?_ | refine bkA ?_ _)); exact BK397.out) hb); have n1_ := Z0.mk (bwT (by repeat (first | (with_reducible first | exact HB.out | apply bwA | apply bwN | apply bw1 | refine bwS ?_ GE397.out) | exact HB.out)) hb); have n2_ := Z0.mk (hbox); have n3_ := Z0.mk ((by rw [hg]; exact (bwZ (by repeat (first | (with_reducible first | exact HB.out | apply bwA | apply bwN | apply bw1 | refine bwS ?_ GE397.out) | exact HB.out))) : w.heap.size ≤ gb403)); have n4_ := Z0.mk ((by rw [hg]; exact (bwZ (by repeat (first | (with_reducible first | exact HB.out | apply bwA | apply bwN | apply bw1 | refine bwS ?_ GE397.out) | exact HB.out))) : w.heap.size ≤ gb403)); have n5_ := Z0.mk ((by rw [hg]; exact Nat.ne_of_lt (blk_lt (g := gb397) (o := .cells #[.int .i64 0, .int .i64 0] 23 (0, 0)) (by (with_reducible repeat (first | refine bkN ?_ _ | refine bkD ?_ | refine bkA ?_ _)); exact BK397.out)) : gb397 ≠ gb403)); have n6_ := Z0.mk ((by rw [hg]; exact Nat.ne_of_gt (blk_lt (g := gb397) (o := .cells #[.int .i64 0, .int .i64 0] 23 (0, 0)) (by (with_reducible repeat (first | refine bkN ?_ _ | refine bkD ?_ | refine bkA ?_ _)); exact BK397.out)) : gb403 ≠ gb397)); clear BK397; clear HB; have BK397 := n0_; have HB := n1_; have BK403 := n2_; have GW403 := n3_; have GE403 := n4_; have NB397_403 := n5_; have NB403_397 := n6_; clear n0_ n1_ n2_ n3_ n4_ n5_ n6_; clear hb hbox hg; have hnb17 := NB403_397.out; have hnc17 := NB397_403.out; have hcz18_0 : w16.cell? ⟨gb403, 0, none⟩ = some (.int .i64 0) := (bkC BK403.out 0).trans rfl; have hcz18_1 : w16.cell? ⟨gb403, 1, none⟩ = some (.int .i64 0) := (bkC BK403.out 1).trans rfl; have hfz18_0 := bkZ BK403.out 0; have hfz18_1 := bkZ BK403.out 1; have hcz19_0 : w16.cell? ⟨gb397, 0, none⟩ = some (.int .i64 0) := (bkC BK397.out 0).trans rfl; have hcz19_1 : w16.cell? ⟨gb397, 1, none⟩ = some (.int .i64 0) := (bkC BK397.out 1).trans rfl; have hfz19_0 := bkZ BK397.out 0; have hfz19_1 := bkZ BK397.out 1)); try go_wp2_with (first | (go_at_call 79; (with_reducible refine (cr6_ratio.calls k1 x6_1 2329089562800 t401 t402 _ A7.out).mono ?_); rintro e w15 ⟨rfl, hb⟩; have n0_ := Z0.mk (bkB (g := gb397) (o := .cells #[.int .i64 0, .int .i64 0] 23 (0, 0)) (by (with_reducible repeat (first | refine bkN ?_ _ | refine bkD ?_ | refine bkA ?_ _)); exact BK397.out) hb); have n1_ := Z0.mk (bwT (by repeat (first | (with_reducible first | exact HB.out | apply bwA | apply bwN | apply bw1 | refine bwS ?_ GE397.out) | exact HB.out)) hb); clear BK397; clear HB; have BK397 := n0_; have HB := n1_; clear n0_ n1_; (try clear hb); (try clear hb2); (try clear hk); (try clear hi)) | ((with_reducible refine gtD (N := 8) rfl ?_); refine bxE ?hg (N := 8) ?hd (cs := #[.int .i64 0, .int .i64 0]) (t := 23) ?hr ?_; (case hd => rfl); (case hg => rfl); (case hr => first | (go_simp; done) | (go_simp; rfl)); intro gb403 hg w16 hbox hb; have n0_ := Z0.mk (bkB (g := gb397) (o := .cells #[.int .i64 0, .int .i64 0] 23 (0, 0)) (by (with_reducible repeat (first | refine bkN ?_ _ | refine bkD ?_ | refine bkA ?_ _)); exact BK397.out) hb); have n1_ := Z0.mk (bwT (by repeat (first | (with_reducible first | exact HB.out | apply bwA | apply bwN | apply bw1 | refine bwS ?_ GE397.out) | exact HB.out)) hb); have n2_ := Z0.mk (hbox); have n3_ := Z0.mk ((by rw [hg]; exact (bwZ (by repeat (first | (with_reducible first | exact HB.out | apply bwA | apply bwN | apply bw1 | refine bwS ?_ GE397.out) | exact HB.out))) : w.heap.size ≤ gb403)); have n4_ := Z0.mk ((by rw [hg]; exact (bwZ (by repeat (first | (with_reducible first | exact HB.out | apply bwA | apply bwN | apply bw1 | refine bwS ?_ GE397.out) | exact HB.out))) : w.heap.size ≤ gb403)); have n5_ := Z0.mk ((by rw [hg]; exact Nat.ne_of_lt (blk_lt (g := gb397) (o := .cells #[.int .i64 0, .int .i64 0] 23 (0, 0)) (by (with_reducible repeat (first | refine bkN ?_ _ | refine bkD ?_ | refine bkA ?_ _)); exact BK397.out)) : gb397 ≠ gb403)); have n6_ := Z0.mk ((by rw [hg]; exact Nat.ne_of_gt (blk_lt (g := gb397) (o := .cells #[.int .i64 0, .int .i64 0] 23 (0, 0)) (by (with_reducible repeat (first | refine bkN ?_ _ | refine bkD ?_ | refine bkA ?_ _)); exact BK397.out)) : gb403 ≠ gb397)); clear BK397; clear HB; have BK397 := n0_; have HB := n1_; have BK403 := n2_; have GW403 := n3_; have GE403 := n4_; have NB397_403 := n5_; have NB403_397 := n6_; clear n0_ n1_ n2_ n3_ n4_ n5_ n6_; clear hb hbox hg; have hnb17 := NB403_397.out; have hnc17 := NB397_403.out; have hcz18_0 : w16.cell? ⟨gb403, 0, none⟩ = some (.int .i64 0) := (bkC BK403.out 0).trans rfl; have hcz18_1 : w16.cell? ⟨gb403, 1, none⟩ = some (.int .i64 0) := (bkC BK403.out 1).trans rfl; have hfz18_0 := bkZ BK403.out 0; have hfz18_1 := bkZ BK403.out 1; have hcz19_0 : w16.cell? ⟨gb397, 0, none⟩ = some (.int .i64 0) := (bkC BK397.out 0).trans rfl; have hcz19_1 : w16.cell? ⟨gb397, 1, none⟩ = some (.int .i64 0) := (bkC BK397.out 1).trans rfl; have hfz19_0 := bkZ BK397.out 0; have hfz19_1 := bkZ BK397.out 1)))
      refine bodyPost_ret (results_ct rfl _ _ gb397 23 #[.int .i64 0, .int .i64 0] (0, 0) _ rfl (by (with_reducible repeat (first | refine bkN ?_ _ | refine bkD ?_ | refine bkA ?_ _)); refine bkP (cs := #[.int .i64 0, .int .i64 0]) ?_ 1 _ rfl; (with_reducible repeat (first | refine bkN ?_ _ | refine bkD ?_ | refine bkA ?_ _)); refine bkP (cs := #[.int .i64 0, .int .i64 0]) ?_ 0 _ rfl; (with_reducible repeat (first | refine bkN ?_ _ | refine bkD ?_ | refine bkA ?_ _)); refine bkF ?_ NB397_403.out _; (with_reducible repeat (first | refine bkN ?_ _ | refine bkD ?_ | refine bkA ?_ _)); refine bkF ?_ NB397_403.out _; (with_reducible repeat (first | refine bkN ?_ _ | refine bkD ?_ | refine bkA ?_ _)); exact BK397.out) Tryd.underlying23 rfl (by kernel_rfl)) rfl ?_
      exact ⟨by first | rfl | (simp [errW_none, errW_some] <;> rfl) | (simp [*, errW_none, errW_some] <;> rfl), by repeat (first | (with_reducible first | exact HB.out | apply bwA | apply bwN | apply bw1 | refine bwS ?_ GE397.out | refine bwS ?_ GE403.out) | exact HB.out)⟩
     ·rw [if_neg c14] at H
      have c14b0 : decide (999999999 < t402) = false := decide_eq_false c14
      clear c14
      simp only [Option.some.injEq, Prod.mk.injEq] at H
      obtain ⟨rfl, rfl, rfl⟩ := H
      go_wp2_with (first | (go_at_call 79; (with_reducible refine (cr6_ratio.calls k1 x6_1 2329089562800 t401 t402 _ A7.out).mono ?_); rintro e w20 ⟨rfl, hb⟩; have n0_ := Z0.mk (bkB (g := gb397) (o := .cells #[.int .i64 0, .int .i64 0] 23 (0, 0)) (by (with_reducible repeat (first | refine bkN ?_ _ | refine bkD ?_ | refine bkA ?_ _)); exact BK397.out) hb); have n1_ := Z0.mk (bwT (by repeat (first | (with_reducible first | exact HB.out | apply bwA | apply bwN | apply bw1 | refine bwS ?_ GE397.out) | exact HB.out)) hb); clear BK397; clear HB; have BK397 := n0_; have HB := n1_; clear n0_ n1_; (try clear hb); (try clear hb2); (try clear hk); (try clear hi)) | ((with_reducible refine gtD (N := 8) rfl ?_); refine bxE ?hg (N := 8) ?hd (cs := #[.int .i64 0, .int .i64 0]) (t := 23) ?hr ?_; (case hd => rfl); (case hg => rfl); (case hr => first | (go_simp; done) | (go_simp; rfl)); intro gb403 hg w21 hbox hb; have n0_ := Z0.mk (bkB (g := gb397) (o := .cells #[.int .i64 0, .int .i64 0] 23 (0, 0)) (by (with_reducible repeat (first | refine bkN ?_ _ | refine bkD ?_ | refine bkA ?_ _)); exact BK397.out) hb); have n1_ := Z0.mk (bwT (by repeat (first | (with_reducible first | exact HB.out | apply bwA | apply bwN | apply bw1 | refine bwS ?_ GE397.out) | exact HB.out)) hb); have n2_ := Z0.mk (hbox); have n3_ := Z0.mk ((by rw [hg]; exact (bwZ (by repeat (first | (with_reducible first | exact HB.out | apply bwA | apply bwN | apply bw1 | refine bwS ?_ GE397.out) | exact HB.out))) : w.heap.size ≤ gb403)); have n4_ := Z0.mk ((by rw [hg]; exact (bwZ (by repeat (first | (with_reducible first | exact HB.out | apply bwA | apply bwN | apply bw1 | refine bwS ?_ GE397.out) | exact HB.out))) : w.heap.size ≤ gb403)); have n5_ := Z0.mk ((by rw [hg]; exact Nat.ne_of_lt (blk_lt (g := gb397) (o := .cells #[.int .i64 0, .int .i64 0] 23 (0, 0)) (by (with_reducible repeat (first | refine bkN ?_ _ | refine bkD ?_ | refine bkA ?_ _)); exact BK397.out)) : gb397 ≠ gb403)); have n6_ := Z0.mk ((by rw [hg]; exact Nat.ne_of_gt (blk_lt (g := gb397) (o := .cells #[.int .i64 0, .int .i64 0] 23 (0, 0)) (by (with_reducible repeat (first | refine bkN ?_ _ | refine bkD ?_ | refine bkA ?_ _)); exact BK397.out)) : gb403 ≠ gb397)); clear BK397; clear HB; have BK397 := n0_; have HB := n1_; have BK403 := n2_; have GW403 := n3_; have GE403 := n4_; have NB397_403 := n5_; have NB403_397 := n6_; clear n0_ n1_ n2_ n3_ n4_ n5_ n6_; clear hb hbox hg; have hnb22 := NB403_397.out; have hnc22 := NB397_403.out; have hcz23_0 : w21.cell? ⟨gb403, 0, none⟩ = some (.int .i64 0) := (bkC BK403.out 0).trans rfl; have hcz23_1 : w21.cell? ⟨gb403, 1, none⟩ = some (.int .i64 0) := (bkC BK403.out 1).trans rfl; have hfz23_0 := bkZ BK403.out 0; have hfz23_1 := bkZ BK403.out 1; have hcz24_0 : w21.cell? ⟨gb397, 0, none⟩ = some (.int .i64 0) := (bkC BK397.out 0).trans rfl; have hcz24_1 : w21.cell? ⟨gb397, 1, none⟩ = some (.int .i64 0) := (bkC BK397.out 1).trans rfl; have hfz24_0 := bkZ BK397.out 0; have hfz24_1 := bkZ BK397.out 1))
      repeat (go_quiet (first | (go_at_call 79; (with_reducible refine (cr6_ratio.calls k1 x6_1 2329089562800 t401 t402 _ A7.out).mono ?_); rintro e w20 ⟨rfl, hb⟩; have n0_ := Z0.mk (bkB (g := gb397) (o := .cells #[.int .i64 0, .int .i64 0] 23 (0, 0)) (by (with_reducible repeat (first | refine bkN ?_ _ | refine bkD ?_ | refine bkA ?_ _)); exact BK397.out) hb); have n1_ := Z0.mk (bwT (by repeat (first | (with_reducible first | exact HB.out | apply bwA | apply bwN | apply bw1 | refine bwS ?_ GE397.out) | exact HB.out)) hb); clear BK397; clear HB; have BK397 := n0_; have HB := n1_; clear n0_ n1_; (try clear hb); (try clear hb2); (try clear hk); (try clear hi)) | ((with_reducible refine gtD (N := 8) rfl ?_); refine bxE ?hg (N := 8) ?hd (cs := #[.int .i64 0, .int .i64 0]) (t := 23) ?hr ?_; (case hd => rfl); (case hg => rfl); (case hr => first | (go_simp; done) | (go_simp; rfl)); intro gb403 hg w21 hbox hb; have n0_ := Z0.mk (bkB (g := gb397) (o := .cells #[.int .i64 0, .int .i64 0] 23 (0, 0)) (by (with_reducible repeat (first | refine bkN ?_ _ | refine bkD ?_ | refine bkA ?_ _)); exact BK397.out) hb); have n1_ := Z0.mk (bwT (by repeat (first | (with_reducible first | exact HB.out | apply bwA | apply bwN | apply bw1 | refine bwS ?_ GE397.out) | exact HB.out)) hb); have n2_ := Z0.mk (hbox); have n3_ := Z0.mk ((by rw [hg]; exact (bwZ (by repeat (first | (with_reducible first | exact HB.out | apply bwA | apply bwN | apply bw1 | refine bwS ?_ GE397.out) | exact HB.out))) : w.heap.size ≤ gb403)); have n4_ := Z0.mk ((by rw [hg]; exact (bwZ (by repeat (first | (with_reducible first | exact HB.out | apply bwA | apply bwN | apply bw1 | refine bwS ?_ GE397.out) | exact HB.out))) : w.heap.size ≤ gb403)); have n5_ := Z0.mk ((by rw [hg]; exact Nat.ne_of_lt (blk_lt (g := gb397) (o := .cells #[.int .i64 0, .int .i64 0] 23 (0, 0)) (by (with_reducible repeat (first | refine bkN ?_ _ | refine bkD ?_ | refine bkA ?_ _)); exact BK397.out)) : gb397 ≠ gb403)); have n6_ := Z0.mk ((by rw [hg]; exact Nat.ne_of_gt (blk_lt (g := gb397) (o := .cells #[.int .i64 0, .int .i64 0] 23 (0, 0)) (by (with_reducible repeat (first | refine bkN ?_ _ | refine bkD ?_ | refine bkA ?_ _)); exact BK397.out)) : gb403 ≠ gb397)); clear BK397; clear HB; have BK397 := n0_; have HB := n1_; have BK403 := n2_; have GW403 := n3_; have GE403 := n4_; have NB397_403 := n5_; have NB403_397 := n6_; clear n0_ n1_ n2_ n3_ n4_ n5_ n6_; clear hb hbox hg; have hnb22 := NB403_397.out; have hnc22 := NB397_403.out; have hcz23_0 : w21.cell? ⟨gb403, 0, none⟩ = some (.int .i64 0) := (bkC BK403.out 0).trans rfl; have hcz23_1 : w21.cell? ⟨gb403, 1, none⟩ = some (.int .i64 0) := (bkC BK403.out 1).trans rfl; have hfz23_0 := bkZ BK403.out 0; have hfz23_1 := bkZ BK403.out 1; have hcz24_0 : w21.cell? ⟨gb397, 0, none⟩ = some (.int .i64 0) := (bkC BK397.out 0).trans rfl; have hcz24_1 : w21.cell? ⟨gb397, 1, none⟩ = some (.int .i64 0) := (bkC BK397.out 1).trans rfl; have hfz24_0 := bkZ BK397.out 0; have hfz24_1 := bkZ BK397.out 1)); try go_wp2_with (first | (go_at_call 79; (with_reducible refine (cr6_ratio.calls k1 x6_1 2329089562800 t401 t402 _ A7.out).mono ?_); rintro e w20 ⟨rfl, hb⟩; have n0_ := Z0.mk (bkB (g := gb397) (o := .cells #[.int .i64 0, .int .i64 0] 23 (0, 0)) (by (with_reducible repeat (first | refine bkN ?_ _ | refine bkD ?_ | refine bkA ?_ _)); exact BK397.out) hb); have n1_ := Z0.mk (bwT (by repeat (first | (with_reducible first | exact HB.out | apply bwA | apply bwN | apply bw1 | refine bwS ?_ GE397.out) | exact HB.out)) hb); clear BK397; clear HB; have BK397 := n0_; have HB := n1_; clear n0_ n1_; (try clear hb); (try clear hb2); (try clear hk); (try clear hi)) | ((with_reducible refine gtD (N := 8) rfl ?_); refine bxE ?hg (N := 8) ?hd (cs := #[.int .i64 0, .int .i64 0]) (t := 23) ?hr ?_; (case hd => rfl); (case hg => rfl); (case hr => first | (go_simp; done) | (go_simp; rfl)); intro gb403 hg w21 hbox hb; have n0_ := Z0.mk (bkB (g := gb397) (o := .cells #[.int .i64 0, .int .i64 0] 23 (0, 0)) (by (with_reducible repeat (first | refine bkN ?_ _ | refine bkD ?_ | refine bkA ?_ _)); exact BK397.out) hb); have n1_ := Z0.mk (bwT (by repeat (first | (with_reducible first | exact HB.out | apply bwA | apply bwN | apply bw1 | refine bwS ?_ GE397.out) | exact HB.out)) hb); have n2_ := Z0.mk (hbox); have n3_ := Z0.mk ((by rw [hg]; exact (bwZ (by repeat (first | (with_reducible first | exact HB.out | apply bwA | apply bwN | apply bw1 | refine bwS ?_ GE397.out) | exact HB.out))) : w.heap.size ≤ gb403)); have n4_ := Z0.mk ((by rw [hg]; exact (bwZ (by repeat (first | (with_reducible first | exact HB.out | apply bwA | apply bwN | apply bw1 | refine bwS ?_ GE397.out) | exact HB.out))) : w.heap.size ≤ gb403)); have n5_ := Z0.mk ((by rw [hg]; exact Nat.ne_of_lt (blk_lt (g := gb397) (o := .cells #[.int .i64 0, .int .i64 0] 23 (0, 0)) (by (with_reducible repeat (first | refine bkN ?_ _ | refine bkD ?_ | refine bkA ?_ _)); exact BK397.out)) : gb397 ≠ gb403)); have n6_ := Z0.mk ((by rw [hg]; exact Nat.ne_of_gt (blk_lt (g := gb397) (o := .cells #[.int .i64 0, .int .i64 0] 23 (0, 0)) (by (with_reducible repeat (first | refine bkN ?_ _ | refine bkD ?_ | refine bkA ?_ _)); exact BK397.out)) : gb403 ≠ gb397)); clear BK397; clear HB; have BK397 := n0_; have HB := n1_; have BK403 := n2_; have GW403 := n3_; have GE403 := n4_; have NB397_403 := n5_; have NB403_397 := n6_; clear n0_ n1_ n2_ n3_ n4_ n5_ n6_; clear hb hbox hg; have hnb22 := NB403_397.out; have hnc22 := NB397_403.out; have hcz23_0 : w21.cell? ⟨gb403, 0, none⟩ = some (.int .i64 0) := (bkC BK403.out 0).trans rfl; have hcz23_1 : w21.cell? ⟨gb403, 1, none⟩ = some (.int .i64 0) := (bkC BK403.out 1).trans rfl; have hfz23_0 := bkZ BK403.out 0; have hfz23_1 := bkZ BK403.out 1; have hcz24_0 : w21.cell? ⟨gb397, 0, none⟩ = some (.int .i64 0) := (bkC BK397.out 0).trans rfl; have hcz24_1 : w21.cell? ⟨gb397, 1, none⟩ = some (.int .i64 0) := (bkC BK397.out 1).trans rfl; have hfz24_0 := bkZ BK397.out 0; have hfz24_1 := bkZ BK397.out 1)))
      refine bodyPost_ret (results_ct rfl _ _ gb397 23 #[.int .i64 t401, .int .i64 t402] (0, 0) _ rfl (by (with_reducible repeat (first | refine bkN ?_ _ | refine bkD ?_ | refine bkA ?_ _)); refine bkP (cs := #[.int .i64 t401, .int .i64 0]) ?_ 1 _ rfl; (with_reducible repeat (first | refine bkN ?_ _ | refine bkD ?_ | refine bkA ?_ _)); refine bkP (cs := #[.int .i64 0, .int .i64 0]) ?_ 0 _ rfl; (with_reducible repeat (first | refine bkN ?_ _ | refine bkD ?_ | refine bkA ?_ _)); refine bkF ?_ NB397_403.out _; (with_reducible repeat (first | refine bkN ?_ _ | refine bkD ?_ | refine bkA ?_ _)); refine bkF ?_ NB397_403.out _; (with_reducible repeat (first | refine bkN ?_ _ | refine bkD ?_ | refine bkA ?_ _)); exact BK397.out) Tryd.underlying23 rfl (by kernel_rfl)) rfl ?_
      exact ⟨by first | rfl | (simp [errW_none, errW_some] <;> rfl) | (simp [*, errW_none, errW_some] <;> rfl), by repeat (first | (with_reducible first | exact HB.out | apply bwA | apply bwN | apply bw1 | refine bwS ?_ GE397.out | refine bwS ?_ GE403.out) | exact HB.out)⟩
end Go.Proofs.YtppighiaffppkaaDoor.H
end
