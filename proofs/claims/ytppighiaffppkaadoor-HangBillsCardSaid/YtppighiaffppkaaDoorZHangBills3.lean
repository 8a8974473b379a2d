/- What the statement HangBills needs beyond the common part: walks of the functions that it calls, the plain law, the row and its card, part 3. Condition: the laid table hang.tens, as the card ties it. -/
import Derived.Test.YtppighiaffppkaaDoorRows
import Derived.Test.YtppighiaffppkaaDoorCards
import Derived.Test.YtppighiaffppkaaDoorTie
import Derived.WalkKit
import Derived.ProofKit
import Derived.OpenShut
import Derived.ShutString
import Derived.ChangeOld
import Derived.Below
import Derived.SizedLaws
import Derived.LaidMore
import Derived.Stop.Joined
import Derived.SevenTiedAt
import Derived.Test.YtppighiaffppkaaDoorZHangBills2
section
namespace Go.Proofs.YtppighiaffppkaaDoor.H
open Go.RowKit Go.Proofs.YtppighiaffppkaaDoorW.PrintWords Go.Proofs.YtppighiaffppkaaDoorW.PrintLast Go.Proofs.YtppighiaffppkaaDoorW.PrintMore
attribute [local go_sem] max2_int min2_int max_two min_two max_three min_three max_four min_four
set_option linter.unusedVariables false
set_option linter.unusedSimpArgs false
mutual
def cl6_HangBills.j0 : Nat → List (S121) → List (S119) → Int → Bool → Option (Bool)
 | 0, _, _, _, _ => none
 | k + 1, x0, x1, x2, x21 => if x21 = true then ((cl6_awake.f k).bind fun t574 => (some t574)) else ((cl6_twines.f k x0).bind fun t575 => ((cl6_lines.f k x1).bind fun t578 => ((hang_Bill.f k t575 t578 x2).bind fun bt581 => ((cr6_CheckTwines.f k x0).bind fun t585 => (if t585 = 0 then ((cr6_CheckLines.f k x0 x1).bind fun t586 => ((cr1_CheckRange.f x2 0 100).bind fun t587 => ((cr1_First.f k (([t586, t587] : List Int))).bind fun t591 => (cl6_HangBills.j1 k x0 x1 x2 bt581.1 bt581.2 t591)))) else (cl6_HangBills.j1 k x0 x1 x2 bt581.1 bt581.2 t585))))))
def cl6_HangBills.j1 : Nat → List (S121) → List (S119) → Int → List (S106) → Int → Int → Option (Bool)
 | 0, _, _, _, _, _, _ => none
 | k + 1, x0, x1, x2, x7, x8, x9 => if x9 = 0 then ((cr6_Bill.f k x0 x1 x2).bind fun bt592 => (cl6_HangBills.j2 k x7 x8 bt592.2 bt592.1)) else (cl6_HangBills.j2 k x7 x8 x9 ([] : List (S107)))
def cl6_HangBills.j2 : Nat → List (S106) → Int → Int → List (S107) → Option (Bool)
 | 0, _, _, _, _ => none
 | k + 1, x7, x8, x9, x10 => cl6_HangBills.l0 k x8 x9 x10 ([] : List (S107)) x7 (x7.length : Int) 0
def cl6_HangBills.l0 : Nat → Int → Int → List (S107) → List (S107) → List (S106) → Int → Int → Option (Bool)
 | 0, _, _, _, _, _, _, _ => none
 | k + 1, x8, x9, x10, x11, x52, x53, x54 => if x54 < x53 then (if 0 ≤ x54 then (if x54 < (x52.length : Int) then (if x11.length < 5864062014805 then (cl6_HangBills.l0 k x8 x9 x10 (x11 ++ [(⟨(rd_T106 x52 x54).f0, (rd_T106 x52 x54).f1, (rd_T106 x52 x54).f2⟩ : S107)]) x52 x53 (wrap64 (x54 + 1))) else (none)) else (none)) else (none)) else ((cr6_SameSums.f k x11 x10).bind fun t601 => (if t601 = true then (if x8 = x9 then ((cl6_awake.f k).bind fun t602 => (some t602)) else (none)) else (none)))
end
def cl6_HangBills.f (k : Nat) (l0 : List (S121)) (l1 : List (S119)) (a2 : Int) : Option (Bool) := (cr6_ShortTwines.f k l0).bind fun t572 => (if t572 = true then ((cr6_ShortLines.f k l1 8).bind fun t573 => (cl6_HangBills.j0 k l0 l1 a2 (!t573))) else (cl6_HangBills.j0 k l0 l1 a2 true))
set_option maxHeartbeats 8000000 in
set_option maxRecDepth 100000 in
theorem cl6_HangBills.calls (k : Nat) (A0 : Option Addr) (c0 : Nat) (l0 : List (S121)) (A1 : Option Addr) (c1 : Nat) (l1 : List (S119)) (a2 : Int) (r : Bool) (w : World) (hG : GH w) (hr0 : Kd.C k121 w A0 l0.length l0) (hc0 : l0.length ≤ c0) (hr1 : Kd.C k119 w A1 l1.length l1) (hc1 : l1.length ≤ c1) (h : cl6_HangBills.f k l0 l1 a2 = some r) :
  Calls Tryd.prog 9 #[.slice A0 l0.length c0, .slice A1 l1.length c1, .int .i64 a2] w fun e w' => e = .returned (.bool r) ∧ Below w.heap.size w w' := by
 have hu106 := Tryd.underlying106
 have HR0 := Z0.mk hr0
 have HC0 := Z0.mk hc0
 clear hr0 hc0
 have HR1 := Z0.mk hr1
 have HC1 := Z0.mk hc1
 clear hr1 hc1
 have HB := Z0.mk (Below.refl w.heap.size w)
 have H : ((cr6_ShortTwines.f k l0).bind fun t572 => (if t572 = true then ((cr6_ShortLines.f k l1 8).bind fun t573 => (cl6_HangBills.j0 k l0 l1 a2 (!t573))) else (cl6_HangBills.j0 k l0 l1 a2 true))) = some r := h
 clear h
 have HC4 := Z0.mk H
 clear H
 go_enter Tryd.func9, Tryd.ntmps9
 go_upto_region 1 with (fail)
 go_cut [21] (fun v21 wc => ∃ (kq : Nat) (x21_3 : Bool), v21 = .bool x21_3 ∧ Z0 (cl6_HangBills.j0 kq l0 l1 a2 x21_3 = some r) ∧ Z0 (kq ≤ k) ∧ Z0 (Below w.heap.size w wc))
 case first =>
  have H := HC4.out;clear HC4;replace H := Option.bind_eq_some_iff.mp H
  obtain ⟨t572, A50, H⟩ := H;try dsimp only at H
  have A5 := Z0.mk A50;clear A50;by_cases c6 : t572 = true
  ·subst c6;have H1 : ((cr6_ShortLines.f k l1 8).bind fun t573 => (cl6_HangBills.j0 k l0 l1 a2 (!t573))) = some r := by rw [if_pos rfl] at H; exact H
   clear H;have H := H1;clear H1;replace H := Option.bind_eq_some_iff.mp H
   obtain ⟨t573, A70, H⟩ := H;try dsimp only at H
   have A7 := Z0.mk A70;clear A70;have H' := Z0.mk H;clear H;go_wp2_with (first | ((with_reducible refine gtC (f := 49) rfl ?_); refine goesL_ (some 15) rfl rfl Tryd.func49 (by kernel_rfl) rfl #[.slice A0 l0.length c0] rfl (by (try simp only [List.map_toArray, List.map_cons, List.map_nil]) <;> rfl) ?_; (with_reducible refine (cr6_ShortTwines.calls k _ _ l0 true _ ?side1 ?side2 A5.out).mono ?_); (case side1 => repeat (first | exact (Kd.C_below HR0.out HB.out) | (with_reducible refine Kd.C_alloc ?_ _) | (with_reducible refine Kd.C_drewN ?_ _) | (with_reducible refine Kd.C_drew ?_))); (case side2 => exact HC0.out); rintro e w' ⟨rfl, ⟨nd, rfl⟩⟩; refine ⟨_, rfl, ?_⟩) | (go_at_call 60; (with_reducible refine (cr6_ShortLines.calls k _ _ l1 8 t573 _ ?side1 ?side2 A7.out).mono ?_); (case side1 => repeat (first | exact (Kd.C_below HR1.out (by repeat (first | (with_reducible first | exact HB.out | apply bwA | apply bwN | apply bw1) | exact HB.out))) | (with_reducible refine Kd.C_alloc ?_ _) | (with_reducible refine Kd.C_drewN ?_ _) | (with_reducible refine Kd.C_drew ?_))); (case side2 => exact HC1.out); rintro e w' ⟨rfl, ⟨nd, rfl⟩⟩))
   go_meet
   case rel => exact ⟨_, (!t573), (by first | rfl | (simp; done) | (simp [*]; done)), H', ⟨by first | omega | exact Nat.le_refl _⟩, ⟨by repeat (first | (with_reducible first | exact HB.out | apply bwA | apply bwN | apply bw1) | exact HB.out)⟩⟩
  ·replace c6 := Bool.eq_false_iff.mpr c6
   subst c6;have H1 : (cl6_HangBills.j0 k l0 l1 a2 true) = some r := by rw [if_neg (show ¬ (false = true) by decide)] at H; exact H
   clear H;have H := H1;clear H1;have H' := Z0.mk H;clear H;go_wp2_with (first | ((with_reducible refine gtC (f := 49) rfl ?_); refine goesL_ (some 15) rfl rfl Tryd.func49 (by kernel_rfl) rfl #[.slice A0 l0.length c0] rfl (by (try simp only [List.map_toArray, List.map_cons, List.map_nil]) <;> rfl) ?_; (with_reducible refine (cr6_ShortTwines.calls k _ _ l0 false _ ?side1 ?side2 A5.out).mono ?_); (case side1 => repeat (first | exact (Kd.C_below HR0.out HB.out) | (with_reducible refine Kd.C_alloc ?_ _) | (with_reducible refine Kd.C_drewN ?_ _) | (with_reducible refine Kd.C_drew ?_))); (case side2 => exact HC0.out); rintro e w' ⟨rfl, ⟨nd, rfl⟩⟩; refine ⟨_, rfl, ?_⟩))
   go_meet
   case rel => exact ⟨_, (true), (by first | rfl | (simp; done) | (simp [*]; done)), H', ⟨by first | omega | exact Nat.le_refl _⟩, ⟨by repeat (first | (with_reducible first | exact HB.out | apply bwA | apply bwN | apply bw1) | exact HB.out)⟩⟩
 case rest =>
  clear HC4;try clear c1
  try clear p2
  try clear c4
  try clear c6
  obtain ⟨kq, x21_3, rfl, HA, HJ3, HB⟩ := hcut;cases kq with
  | zero => exact absurd HA.out (by simp [cl6_HangBills.j0])
  | succ kj3 =>
   have H := HA.out;clear HA;simp only [cl6_HangBills.j0] at H;by_cases c8 : x21_3 = true
   ·subst c8;have H1 : ((cl6_awake.f kj3).bind fun t574 => (some t574)) = some r := by rw [if_pos rfl] at H; exact H
    clear H;have H := H1;clear H1;replace H := Option.bind_eq_some_iff.mp H
    obtain ⟨t574, A90, H⟩ := H;try dsimp only at H
    have A9 := Z0.mk A90;clear A90;obtain rfl := Option.some.inj H;go_wp2_with (first | ((with_reducible refine gtC (f := 22) rfl ?_); refine goesL_ (some 22) rfl rfl Tryd.func22 (by kernel_rfl) rfl #[] rfl (by (try simp only [List.map_toArray, List.map_cons, List.map_nil]) <;> rfl) ?_; (with_reducible refine (cl6_awake.calls kj3  t574 _ (hG.below (by repeat (first | (with_reducible first | exact HB.out | apply bwA | apply bwN | apply bw1) | exact HB.out))) A9.out).mono ?_); rintro e w10 ⟨rfl, hb⟩; refine ⟨_, rfl, ?_⟩; have n0_ := Z0.mk (bwT (by repeat (first | (with_reducible first | exact HB.out | apply bwA | apply bwN | apply bw1) | exact HB.out)) hb); clear HB; have HB := n0_; clear n0_; (try clear hb); (try clear hb2); (try clear hk); (try clear hi)))
    go_ret
    exact ⟨by first | rfl | (simp [errW_none, errW_some] <;> rfl) | (simp [*, errW_none, errW_some] <;> rfl), by repeat (first | (with_reducible first | exact HB.out | apply bwA | apply bwN | apply bw1) | exact HB.out)⟩
   ·replace c8 := Bool.eq_false_iff.mpr c8
    subst c8;have H1 : ((cl6_twines.f kj3 l0).bind fun t575 => ((cl6_lines.f kj3 l1).bind fun t578 => ((hang_Bill.f kj3 t575 t578 a2).bind fun bt581 => ((cr6_CheckTwines.f kj3 l0).bind fun t585 => (if t585 = 0 then ((cr6_CheckLines.f kj3 l0 l1).bind fun t586 => ((cr1_CheckRange.f a2 0 100).bind fun t587 => ((cr1_First.f kj3 (([t586, t587] : List Int))).bind fun t591 => (cl6_HangBills.j1 kj3 l0 l1 a2 bt581.1 bt581.2 t591)))) else (cl6_HangBills.j1 kj3 l0 l1 a2 bt581.1 bt581.2 t585)))))) = some r := by rw [if_neg (show ¬ (false = true) by decide)] at H; exact H
    clear H;have H := H1;clear H1;replace H := Option.bind_eq_some_iff.mp H
    obtain ⟨t575, A110, H⟩ := H;try dsimp only at H
    have A11 := Z0.mk A110;clear A110;replace H := Option.bind_eq_some_iff.mp H
    obtain ⟨t578, A120, H⟩ := H;try dsimp only at H
    have A12 := Z0.mk A120;clear A120;replace H := Option.bind_eq_some_iff.mp H
    obtain ⟨⟨t581, t582⟩, A130, H⟩ := H;try dsimp only at H
    have A13 := Z0.mk A130;clear A130;replace H := Option.bind_eq_some_iff.mp H
    obtain ⟨t585, A140, H⟩ := H;try dsimp only at H
    have A14 := Z0.mk A140;clear A140;have HC15 := Z0.mk H;clear H;go_upto_if 35 with (first | ((with_reducible refine gtC (f := 51) rfl ?_); refine goesL_ (some 25) rfl rfl Tryd.func51 (by kernel_rfl) rfl #[.slice A0 l0.length c0] rfl (by (try simp only [List.map_toArray, List.map_cons, List.map_nil]) <;> rfl) ?_; (with_reducible refine (cl6_twines.calls kj3 _ _ l0 t575 _ ?side1 ?side2 A11.out).mono ?_); (case side1 => repeat (first | exact (Kd.C_below HR0.out HB.out) | (with_reducible refine Kd.C_alloc ?_ _) | (with_reducible refine Kd.C_drewN ?_ _) | (with_reducible refine Kd.C_drew ?_))); (case side2 => exact HC0.out); rintro e w16 ⟨v576, rfl, ho0, hb⟩; refine ⟨_, rfl, ?_⟩; have n0_ := Z0.mk (Kd.R_lower ho0 (bwZ (by repeat (first | (with_reducible first | exact HB.out | apply bwA | apply bwN | apply bw1) | exact HB.out)))); have n1_ := Z0.mk (bwT (by repeat (first | (with_reducible first | exact HB.out | apply bwA | apply bwN | apply bw1) | exact HB.out)) hb); clear HB; have HO577 := n0_; have HB := n1_; clear n0_ n1_; (try clear hb); (try clear hb2); (try clear hk); (try clear hi); (try clear ho0)) | ((with_reducible refine gtC (f := 62) rfl ?_); refine goesL_ (some 27) rfl rfl Tryd.func62 (by kernel_rfl) rfl #[.slice A1 l1.length c1] rfl (by (try simp only [List.map_toArray, List.map_cons, List.map_nil]) <;> rfl) ?_; (with_reducible refine (cl6_lines.calls kj3 _ _ l1 t578 _ ?side1 ?side2 A12.out).mono ?_); (case side1 => repeat (first | exact (Kd.C_below HR1.out HB.out) | (with_reducible refine Kd.C_alloc ?_ _) | (with_reducible refine Kd.C_drewN ?_ _) | (with_reducible refine Kd.C_drew ?_))); (case side2 => exact HC1.out); rintro e w17 ⟨v579, rfl, ho0, hb⟩; refine ⟨_, rfl, ?_⟩; have n0_ := Z0.mk (Kd.R_below (by (with_reducible repeat (first | apply Kd.R_alloc | apply Kd.R_drewN | apply Kd.R_drew)); exact HO577.out) hb); have n1_ := Z0.mk (Kd.R_lower ho0 (bwZ (by repeat (first | (with_reducible first | exact HB.out | apply bwA | apply bwN | apply bw1) | exact HB.out)))); have n2_ := Z0.mk (bwT (by repeat (first | (with_reducible first | exact HB.out | apply bwA | apply bwN | apply bw1) | exact HB.out)) hb); clear HO577 HB; have HO577 := n0_; have HO580 := n1_; have HB := n2_; clear n0_ n1_ n2_; (try clear hb); (try clear hb2); (try clear hk); (try clear hi); (try clear ho0); obtain ⟨Ao18, co18, eo18⟩ := Kd.R_slice HO577.out; subst eo18; obtain ⟨Ao19, co19, eo19⟩ := Kd.R_slice HO580.out; subst eo19) | ((with_reducible refine gtC (f := 61) rfl ?_); refine goesL_ (some 29) rfl rfl Tryd.func61 (by kernel_rfl) rfl #[.slice Ao18 t575.length co18, .slice Ao19 t578.length co19, .int .i64 a2] rfl (by (try simp only [List.map_toArray, List.map_cons, List.map_nil]) <;> rfl) ?_; (with_reducible refine (hang_Bill.calls kj3 _ _ t575 _ _ t578 a2 t581 t582 _ ?side1 ?side2 ?side3 ?side4 A13.out).mono ?_); (case side1 => repeat (first | exact (Kd.R_reads' HO577.out).2.2 | (with_reducible refine Kd.C_alloc ?_ _) | (with_reducible refine Kd.C_drewN ?_ _) | (with_reducible refine Kd.C_drew ?_))); (case side2 => exact (Kd.R_reads' HO577.out).2.1); (case side3 => repeat (first | exact (Kd.R_reads' HO580.out).2.2 | (with_reducible refine Kd.C_alloc ?_ _) | (with_reducible refine Kd.C_drewN ?_ _) | (with_reducible refine Kd.C_drew ?_))); (case side4 => exact (Kd.R_reads' HO580.out).2.1); rintro e w20 ⟨v583, rfl, ho0, hb⟩; refine ⟨_, rfl, ?_⟩; have n0_ := Z0.mk (Kd.R_below (by (with_reducible repeat (first | apply Kd.R_alloc | apply Kd.R_drewN | apply Kd.R_drew)); exact HO577.out) hb); have n1_ := Z0.mk (Kd.R_below (by (with_reducible repeat (first | apply Kd.R_alloc | apply Kd.R_drewN | apply Kd.R_drew)); exact HO580.out) hb); have n2_ := Z0.mk (Kd.R_lower ho0 (bwZ (by repeat (first | (with_reducible first | exact HB.out | apply bwA | apply bwN | apply bw1) | exact HB.out)))); have n3_ := Z0.mk (bwT (by repeat (first | (with_reducible first | exact HB.out | apply bwA | apply bwN | apply bw1) | exact HB.out)) hb); clear HO577 HO580 HB; have HO577 := n0_; have HO580 := n1_; have HO584 := n2_; have HB := n3_; clear n0_ n1_ n2_ n3_; (try clear hb); (try clear hb2); (try clear hk); (try clear hi); (try clear ho0)) | ((with_reducible refine gtC (f := 52) rfl ?_); refine goesL_ (some 33) rfl rfl Tryd.func52 (by kernel_rfl) rfl #[.slice A0 l0.length c0] rfl (by (try simp only [List.map_toArray, List.map_cons, List.map_nil]) <;> rfl) ?_; (with_reducible refine (cr6_CheckTwines.calls kj3 _ _ l0 t585 _ ?side1 ?side2 A14.out).mono ?_); (case side1 => repeat (first | exact (Kd.C_below HR0.out HB.out) | (with_reducible refine Kd.C_alloc ?_ _) | (with_reducible refine Kd.C_drewN ?_ _) | (with_reducible refine Kd.C_drew ?_))); (case side2 => exact HC0.out); rintro e w21 ⟨rfl, hb⟩; refine ⟨_, rfl, ?_⟩; have n0_ := Z0.mk (Kd.R_below (by (with_reducible repeat (first | apply Kd.R_alloc | apply Kd.R_drewN | apply Kd.R_drew)); exact HO577.out) hb); have n1_ := Z0.mk (Kd.R_below (by (with_reducible repeat (first | apply Kd.R_alloc | apply Kd.R_drewN | apply Kd.R_drew)); exact HO580.out) hb); have n2_ := Z0.mk (Kd.R_below (by (with_reducible repeat (first | apply Kd.R_alloc | apply Kd.R_drewN | apply Kd.R_drew)); exact HO584.out) hb); have n3_ := Z0.mk (bwT (by repeat (first | (with_reducible first | exact HB.out | apply bwA | apply bwN | apply bw1) | exact HB.out)) hb); clear HO577 HO580 HO584 HB; have HO577 := n0_; have HO580 := n1_; have HO584 := n2_; have HB := n3_; clear n0_ n1_ n2_ n3_; (try clear hb); (try clear hb2); (try clear hk); (try clear hi)))
    (try simp only [Act.put, List.setIfInBounds_toArray, List.set_cons_zero, List.set_cons_succ])
    go_cut [9] (fun v9 wc => ∃ (kq : Nat) (x9_14 : Int), v9 = .int .i64 x9_14 ∧ Z0 (cl6_HangBills.j1 kq l0 l1 a2 t581 t582 x9_14 = some r) ∧ Z0 (kq ≤ kj3) ∧ Z0 (Kd.R k106 106 wc w.heap.size (fun _ => True) v583 t581) ∧ Z0 (Below w.heap.size w wc))
    case first =>
     have H := HC15.out;clear HC15;by_cases c22 : t585 = 0
     ·rw [if_pos c22] at H;have c22b0 : (t585 == 0) = true := beq_iff_eq.mpr c22;have c22b1 : (t585 != 0) = false := bne_eq_false_iff_eq.mpr c22;clear c22;(first | rw [c22b0] | (simp only [i64_w, i32_w]; rw [c22b0]) | skip)
      replace H := Option.bind_eq_some_iff.mp H
      obtain ⟨t586, A230, H⟩ := H;try dsimp only at H
      have A23 := Z0.mk A230;clear A230;replace H := Option.bind_eq_some_iff.mp H
      obtain ⟨t587, A240, H⟩ := H;try dsimp only at H
      have A24 := Z0.mk A240;clear A240;obtain ⟨y588, hy588⟩ : ∃ y_ : List Int, y_ = (([t586, t587] : List Int)) := ⟨_, rfl⟩;replace H : ((cr1_First.f kj3 y588).bind fun t591 => (cl6_HangBills.j1 kj3 l0 l1 a2 t581 t582 t591)) = some r := by first | (rw [hy588]; with_reducible exact H) | (have H2_ := (Option.bind_some _ _).symm.trans H; rw [hy588]; with_reducible exact H2_) | (have H2_ := (Option.bind_some _ _).symm.trans H; with_reducible exact H2_) | with_reducible exact H | (rw [hy588]; exact H) | exact H
      have Ny588 := Z0.mk hy588;clear hy588;replace H := Option.bind_eq_some_iff.mp H
      obtain ⟨t591, A250, H⟩ := H;try dsimp only at H
      have A25 := Z0.mk A250;clear A250;have H' := Z0.mk H;clear H;go_wp2_with (first | ((with_reducible refine gtC (f := 63) rfl ?_); refine goesL_ (some 38) rfl rfl Tryd.func63 (by kernel_rfl) rfl #[.slice A0 l0.length c0, .slice A1 l1.length c1] rfl (by (try simp only [List.map_toArray, List.map_cons, List.map_nil]) <;> rfl) ?_; (with_reducible refine (cr6_CheckLines.calls kj3 _ _ l0 _ _ l1 t586 _ ?side1 ?side2 ?side3 ?side4 A23.out).mono ?_); (case side1 => repeat (first | exact (Kd.C_below HR0.out HB.out) | (with_reducible refine Kd.C_alloc ?_ _) | (with_reducible refine Kd.C_drewN ?_ _) | (with_reducible refine Kd.C_drew ?_))); (case side2 => exact HC0.out); (case side3 => repeat (first | exact (Kd.C_below HR1.out HB.out) | (with_reducible refine Kd.C_alloc ?_ _) | (with_reducible refine Kd.C_drewN ?_ _) | (with_reducible refine Kd.C_drew ?_))); (case side4 => exact HC1.out); rintro e w26 ⟨rfl, hb⟩; refine ⟨_, rfl, ?_⟩; have n0_ := Z0.mk (Kd.R_below (by (with_reducible repeat (first | apply Kd.R_alloc | apply Kd.R_drewN | apply Kd.R_drew)); exact HO577.out) hb); have n1_ := Z0.mk (Kd.R_below (by (with_reducible repeat (first | apply Kd.R_alloc | apply Kd.R_drewN | apply Kd.R_drew)); exact HO580.out) hb); have n2_ := Z0.mk (Kd.R_below (by (with_reducible repeat (first | apply Kd.R_alloc | apply Kd.R_drewN | apply Kd.R_drew)); exact HO584.out) hb); have n3_ := Z0.mk (bwT (by repeat (first | (with_reducible first | exact HB.out | apply bwA | apply bwN | apply bw1) | exact HB.out)) hb); clear HO577 HO580 HO584 HB; have HO577 := n0_; have HO580 := n1_; have HO584 := n2_; have HB := n3_; clear n0_ n1_ n2_ n3_; (try clear hb); (try clear hb2); (try clear hk); (try clear hi)) | ((with_reducible refine gtC (f := 27) rfl ?_); refine goesL_ (some 40) rfl rfl Tryd.func27 (by kernel_rfl) rfl #[.int .i64 a2, .int .i64 0, .int .i64 100] rfl (by (try simp only [List.map_toArray, List.map_cons, List.map_nil]) <;> rfl) ?_; (with_reducible refine (cr1_CheckRange.calls a2 0 100 t587 _ A24.out).mono ?_); rintro e w' ⟨rfl, ⟨nd, rfl⟩⟩; refine ⟨_, rfl, ?_⟩) | ((with_reducible refine gtD (N := 41) rfl ?_); refine Kd.R_lit (Kd.int .i64) _ 3 ?hg (N := 41) ?hd (xs := ([t586, t587] : List Int)) (inner := [.int .i64 t586, .int .i64 t587]) (ok := fun _ => True) (okp := fun _ => True) ?hr ?hp (fun _ hk => hk) trivial (Below.refl _ _) (Nat.le_refl _) (by simp) ?_; (case hd => rfl); (case hg => rfl); (case hr => first | (go_simp; done) | (go_simp; rfl)); (case hp => exact (Reps.one (show Kd.M (Kd.int .i64) _ _ _ t586 [.int .i64 t586] from rfl) (Reps.one (show Kd.M (Kd.int .i64) _ _ _ t587 [.int .i64 t587] from rfl) (Reps.none _ _)))); intro v589 w27 ho28 hb hg_ hnew_; clear hg_ hnew_; (first | rw [← Ny588.out] at ho28 | (simp only [Int.reduceToNat] at ho28; rw [← Ny588.out] at ho28)); have n0_ := Z0.mk (Kd.R_below (by (with_reducible repeat (first | apply Kd.R_alloc | apply Kd.R_drewN | apply Kd.R_drew)); exact HO577.out) hb); have n1_ := Z0.mk (Kd.R_below (by (with_reducible repeat (first | apply Kd.R_alloc | apply Kd.R_drewN | apply Kd.R_drew)); exact HO580.out) hb); have n2_ := Z0.mk (Kd.R_below (by (with_reducible repeat (first | apply Kd.R_alloc | apply Kd.R_drewN | apply Kd.R_drew)); exact HO584.out) hb); have n3_ := Z0.mk (Kd.R_lower ho28 (bwZ (by repeat (first | (with_reducible first | exact HB.out | apply bwA | apply bwN | apply bw1) | exact HB.out)))); have n4_ := Z0.mk (bwT (by repeat (first | (with_reducible first | exact HB.out | apply bwA | apply bwN | apply bw1) | exact HB.out)) hb); clear HO577 HO580 HO584 HB; have HO577 := n0_; have HO580 := n1_; have HO584 := n2_; have HO590 := n3_; have HB := n4_; clear n0_ n1_ n2_ n3_ n4_; clear hb ho28; obtain ⟨Ao29, co29, eo29⟩ := Kd.R_slice HO590.out; subst eo29) | ((with_reducible refine gtC (f := 26) rfl ?_); refine goesL_ (some 42) rfl rfl Tryd.func26 (by kernel_rfl) rfl #[.slice Ao29 y588.length co29] rfl (by (try simp only [List.map_toArray, List.map_cons, List.map_nil]) <;> rfl) ?_; (with_reducible refine (cr1_First.calls kj3 _ _ y588 t591 _ ?side1 ?side2 A25.out).mono ?_); (case side1 => repeat (first | exact (Kd.R_reads' HO590.out).2.2 | (with_reducible refine Kd.C_alloc ?_ _) | (with_reducible refine Kd.C_drewN ?_ _) | (with_reducible refine Kd.C_drew ?_))); (case side2 => exact (Kd.R_reads' HO590.out).2.1); rintro e w' ⟨rfl, ⟨nd, rfl⟩⟩; refine ⟨_, rfl, ?_⟩))
      go_meet
      case rel => exact ⟨_, (t591), (by first | rfl | (simp; done) | (simp [*]; done)), H', ⟨by have := HJ3.out; first | omega | exact Nat.le_refl _⟩, ⟨by (with_reducible repeat (first | apply Kd.R_alloc | apply Kd.R_drewN | apply Kd.R_drew)); exact HO584.out⟩, ⟨by repeat (first | (with_reducible first | exact HB.out | apply bwA | apply bwN | apply bw1) | exact HB.out)⟩⟩
     ·rw [if_neg c22] at H;have c22b0 : (t585 == 0) = false := beq_eq_false_iff_ne.mpr c22;have c22b1 : (t585 != 0) = true := bne_iff_ne.mpr c22;(first | rw [c22b0] | (simp only [i64_w, i32_w]; rw [c22b0]) | skip)
      have H' := Z0.mk H;clear H;go_wp2
      go_meet
      case rel => exact ⟨_, (t585), (by first | rfl | (simp; done) | (simp [*]; done)), H', ⟨by have := HJ3.out; first | omega | exact Nat.le_refl _⟩, ⟨by (with_reducible repeat (first | apply Kd.R_alloc | apply Kd.R_drewN | apply Kd.R_drew)); exact HO584.out⟩, ⟨by repeat (first | (with_reducible first | exact HB.out | apply bwA | apply bwN | apply bw1) | exact HB.out)⟩⟩
    case rest =>
     clear HC15;try clear c1
     try clear c2
     try clear p2
     try clear c4
     try clear c5
     try clear c6
     try clear c8
     try clear c9
     try clear c22
     try clear c22b0
     try clear c22b1
     try clear c26
     try clear c27
     try clear p2
     obtain ⟨kq, x9_14, rfl, HA, HJ14, HO_7, HB⟩ := hcut;cases kq with
     | zero => exact absurd HA.out (by simp [cl6_HangBills.j1])
     | succ kj14 =>
      have H := HA.out;clear HA;simp only [cl6_HangBills.j1] at H;have HC30 := Z0.mk H;clear H;go_upto_if 44 with (fail)
      go_cut [9, 10] (fun v9 v10 wc => ∃ (kq : Nat) (x9_29 : Int) (x10_29 : List (S107)), v9 = .int .i64 x9_29 ∧ Z0 (cl6_HangBills.j2 kq t581 t582 x9_29 x10_29 = some r) ∧ Z0 (kq ≤ kj14) ∧ Z0 (Kd.R k106 106 wc w.heap.size (fun _ => True) v583 t581) ∧ Z0 (Kd.R k107 107 wc w.heap.size (fun _ => True) v10 x10_29) ∧ Z0 (Below w.heap.size w wc))
      case first =>
       have H := HC30.out;clear HC30;by_cases c31 : x9_14 = 0
       ·rw [if_pos c31] at H;have c31b0 : (x9_14 == 0) = true := beq_iff_eq.mpr c31;have c31b1 : (x9_14 != 0) = false := bne_eq_false_iff_eq.mpr c31;clear c31;(first | rw [c31b0] | (simp only [i64_w, i32_w]; rw [c31b0]) | skip)
        replace H := Option.bind_eq_some_iff.mp H
        obtain ⟨⟨t592, t593⟩, A320, H⟩ := H;try dsimp only at H
        have A32 := Z0.mk A320;clear A320;have H' := Z0.mk H;clear H;go_wp2_with (first | ((with_reducible refine gtC (f := 64) rfl ?_); refine goesL_ (some 49) rfl rfl Tryd.func64 (by kernel_rfl) rfl #[.slice A0 l0.length c0, .slice A1 l1.length c1, .int .i64 a2] rfl (by (try simp only [List.map_toArray, List.map_cons, List.map_nil]) <;> rfl) ?_; (with_reducible refine (cr6_Bill.calls kj14 _ _ l0 _ _ l1 a2 t592 t593 _ ?side1 ?side2 ?side3 ?side4 A32.out).mono ?_); (case side1 => repeat (first | exact (Kd.C_below HR0.out HB.out) | (with_reducible refine Kd.C_alloc ?_ _) | (with_reducible refine Kd.C_drewN ?_ _) | (with_reducible refine Kd.C_drew ?_))); (case side2 => exact HC0.out); (case side3 => repeat (first | exact (Kd.C_below HR1.out HB.out) | (with_reducible refine Kd.C_alloc ?_ _) | (with_reducible refine Kd.C_drewN ?_ _) | (with_reducible refine Kd.C_drew ?_))); (case side4 => exact HC1.out); rintro e w33 ⟨v594, rfl, ho0, hb⟩; refine ⟨_, rfl, ?_⟩; have n0_ := Z0.mk (Kd.R_below (by (with_reducible repeat (first | apply Kd.R_alloc | apply Kd.R_drewN | apply Kd.R_drew)); exact HO_7.out) hb); have n1_ := Z0.mk (Kd.R_lower ho0 (bwZ (by repeat (first | (with_reducible first | exact HB.out | apply bwA | apply bwN | apply bw1) | exact HB.out)))); have n2_ := Z0.mk (bwT (by repeat (first | (with_reducible first | exact HB.out | apply bwA | apply bwN | apply bw1) | exact HB.out)) hb); clear HO_7 HB; have HO_7 := n0_; have HO595 := n1_; have HB := n2_; clear n0_ n1_ n2_; (try clear hb); (try clear hb2); (try clear hk); (try clear hi); (try clear ho0)))
        go_meet
        case rel => exact ⟨_, (t593), (t592), (by first | rfl | (simp; done) | (simp [*]; done)), H', ⟨by have := HJ3.out; have := HJ14.out; first | omega | exact Nat.le_refl _⟩, ⟨by (with_reducible repeat (first | apply Kd.R_alloc | apply Kd.R_drewN | apply Kd.R_drew)); exact HO_7.out⟩, ⟨by (with_reducible repeat (first | apply Kd.R_alloc | apply Kd.R_drewN | apply Kd.R_drew)); exact HO595.out⟩, ⟨by repeat (first | (with_reducible first | exact HB.out | apply bwA | apply bwN | apply bw1) | exact HB.out)⟩⟩
       ·rw [if_neg c31] at H;have c31b0 : (x9_14 == 0) = false := beq_eq_false_iff_ne.mpr c31;have c31b1 : (x9_14 != 0) = true := bne_iff_ne.mpr c31;(first | rw [c31b0] | (simp only [i64_w, i32_w]; rw [c31b0]) | skip)
        have H' := Z0.mk H;clear H;go_wp2
        go_meet
        case rel => exact ⟨_, (x9_14), (([] : List (S107))), (by first | rfl | (simp; done) | (simp [*]; done)), H', ⟨by have := HJ3.out; have := HJ14.out; first | omega | exact Nat.le_refl _⟩, ⟨by (with_reducible repeat (first | apply Kd.R_alloc | apply Kd.R_drewN | apply Kd.R_drew)); exact HO_7.out⟩, ⟨by first | exact Kd.R_nil _ _ _ _ _ | exact Kd.N_nil _ _ _ _ _ | exact Kd.V_nil _ _ _ _ _ | exact Kd.Q_nil _ _ _ _ _ | exact Kd.S_nil _ _ _ _ _⟩, ⟨by repeat (first | (with_reducible first | exact HB.out | apply bwA | apply bwN | apply bw1) | exact HB.out)⟩⟩
      case rest =>
       clear HC30;try clear c1
       try clear c2
       try clear p2
       try clear c3
       try clear c4
       try clear c5
       try clear c6
       try clear c8
       try clear c9
       try clear c22
       try clear c22b0
       try clear c22b1
       try clear c26
       try clear c27
       try clear c31
       try clear c31b0
       try clear c31b1
       try clear p2
       obtain ⟨kq, x9_29, x10_29, rfl, HA, HJ29, HO_7, HO_10, HB⟩ := hcut;cases kq with
       | zero => exact absurd HA.out (by simp [cl6_HangBills.j2])
       | succ kj29 =>
        have H := HA.out;clear HA;simp only [cl6_HangBills.j2] at H;have H' := Z0.mk H;clear H;obtain ⟨Ao34, co34, eo34⟩ := Kd.R_slice HO_7.out;subst eo34;go_wp2
        go_loopg [11, 54] kj29 (fun kq v11 v54 w' => ∃ (x11_4 : List (S107)) (x54_4 : Int), v54 = .int .i64 x54_4 ∧ Z0 (cl6_HangBills.l0 kq t582 x9_29 x10_29 x11_4 t581 (t581.length : Int) x54_4 = some r) ∧ Z0 (kq ≤ kj29) ∧ Z0 (Kd.R k107 107 w' w.heap.size (fun k_ => some k_ ≠ (v11 : Value).ownBlock) u10 x10_29) ∧ Z0 (Kd.R k107 107 w' w.heap.size (fun k_ => some k_ ≠ (u10 : Value).ownBlock) v11 x11_4) ∧ Z0 (Kd.R k106 106 w' w.heap.size (fun _ => True) (.slice Ao34 t581.length co34) t581) ∧ Z0 (Below w.heap.size w w'))
        case atStart => exact ⟨(([] : List (S107))), (0), (by first | rfl | (simp; done) | (simp [*]; done)), H', ⟨Nat.le_refl _⟩, ⟨by (with_reducible repeat (first | apply Kd.R_alloc | apply Kd.R_drewN | apply Kd.R_drew)); exact Kd.R_mono HO_10.out (fun _ hk => (by simp [Value.ownBlock]))⟩, ⟨by first | exact Kd.R_nil _ _ _ _ _ | exact Kd.N_nil _ _ _ _ _ | exact Kd.V_nil _ _ _ _ _ | exact Kd.Q_nil _ _ _ _ _ | exact Kd.S_nil _ _ _ _ _⟩, ⟨by (with_reducible repeat (first | apply Kd.R_alloc | apply Kd.R_drewN | apply Kd.R_drew)); exact HO_7.out⟩, ⟨by repeat (first | (with_reducible first | exact HB.out | apply bwA | apply bwN | apply bw1) | exact HB.out)⟩⟩
        case round =>
         clear H';try clear c1
         try clear c2
         try clear p2
         try clear c3
         try clear c4
         try clear c5
         try clear c6
         try clear c8
         try clear c9
         try clear c22
         try clear c22b0
         try clear c22b1
         try clear c26
         try clear c27
         try clear c31
         try clear c31b0
         try clear c31b1
         try clear p2
         obtain ⟨x11_4, x54_4, rfl, HA, HK4, HO_10, HO_11, HO_52, HB⟩ := hrel;cases gk with
         | zero => exact absurd HA.out (by simp [cl6_HangBills.l0])
         | succ k4 =>
          have H := HA.out;clear HA;simp only [cl6_HangBills.l0] at H;by_cases c35 : x54_4 < (t581.length : Int)
          ·rw [if_pos c35] at H;have c35b0 : decide (x54_4 < (t581.length : Int)) = true := decide_eq_true c35;clear c35;by_cases c36 : 0 ≤ x54_4
           ·rw [if_pos c36] at H;have c36b0 : decide (0 ≤ x54_4) = true := decide_eq_true c36;clear c36;by_cases c37 : x54_4 < (t581.length : Int)
            ·rw [if_pos c37] at H;have c37b0 : decide (x54_4 < (t581.length : Int)) = true := decide_eq_true c37;clear c37;by_cases c38 : x11_4.length < 5864062014805
             ·rw [if_pos c38] at H;have LMc38 := Z0.mk c38;clear c38;obtain ⟨y598, hy598⟩ : ∃ y_ : List (S107), y_ = (x11_4 ++ [(⟨(rd_T106 t581 x54_4).f0, (rd_T106 t581 x54_4).f1, (rd_T106 t581 x54_4).f2⟩ : S107)]) := ⟨_, rfl⟩;replace H : (cl6_HangBills.l0 k4 t582 x9_29 x10_29 y598 t581 (t581.length : Int) (wrap64 (x54_4 + 1))) = some r := by first | (rw [hy598]; with_reducible exact H) | (have H2_ := (Option.bind_some _ _).symm.trans H; rw [hy598]; with_reducible exact H2_) | (have H2_ := (Option.bind_some _ _).symm.trans H; with_reducible exact H2_) | with_reducible exact H | (rw [hy598]; exact H) | exact H
              have Ny598 := Z0.mk hy598;clear hy598;have H' := Z0.mk H;clear H;have p596 : 0 ≤ (x54_4 : Int) := of_decide_eq_true (by first | (with_reducible assumption) | assumption);have q596 : x54_4 < (t581.length : Int) := of_decide_eq_true (by first | (with_reducible assumption) | assumption);obtain ⟨ad596, e596, hx596_0, hx596_1, hx596_2⟩ := at_T106 (Kd.R_reads' HO_52.out).2.2 x54_4 p596 q596;cases e596;replace p596 := eq_true p596
              replace q596 := eq_true q596
              go_wp2_with (first | ((with_reducible refine gtD (N := 13) rfl ?_); refine bxE ?hg (N := 13) ?hd (cs := #[.int .i64 0, .int .i64 0, .int .i64 0]) (t := 106) ?hr ?_; (case hd => rfl); (case hg => rfl); (case hr => first | (go_simp; done) | (go_simp; rfl)); intro gb597 hg w39 hbox hb; have n0_ := Z0.mk (Kd.R_below (by (with_reducible repeat (first | apply Kd.R_alloc | apply Kd.R_drewN | apply Kd.R_drew)); exact HO_10.out) hb); have n1_ := Z0.mk (Kd.R_below (by (with_reducible repeat (first | apply Kd.R_alloc | apply Kd.R_drewN | apply Kd.R_drew)); exact HO_11.out) hb); have n2_ := Z0.mk (Kd.R_below (Kd.R_elderB (by (with_reducible repeat (first | apply Kd.R_alloc | apply Kd.R_drewN | apply Kd.R_drew)); exact HO_52.out) gb597 (Nat.le_of_eq hg.symm)) hb); have n3_ := Z0.mk (bwT (by repeat (first | (with_reducible first | exact HB.out | apply bwA | apply bwN | apply bw1) | exact HB.out)) hb); have n4_ := Z0.mk (hbox); have n5_ := Z0.mk ((by rw [hg]; exact (bwZ (by repeat (first | (with_reducible first | exact HB.out | apply bwA | apply bwN | apply bw1) | exact HB.out))) : w.heap.size ≤ gb597)); have n6_ := Z0.mk ((by rw [hg]; exact (bwZ (by repeat (first | (with_reducible first | exact HB.out | apply bwA | apply bwN | apply bw1) | exact HB.out))) : w.heap.size ≤ gb597)); clear HO_10 HO_11 HO_52 HB; have HO_10 := n0_; have HO_11 := n1_; have HO_52 := n2_; have HB := n3_; have BK597 := n4_; have GW597 := n5_; have GE597 := n6_; clear n0_ n1_ n2_ n3_ n4_ n5_ n6_; clear hb hbox hg; have hcz40_0 : w39.cell? ⟨gb597, 0, none⟩ = some (.int .i64 0) := (bkC BK597.out 0).trans rfl; have hcz40_1 : w39.cell? ⟨gb597, 1, none⟩ = some (.int .i64 0) := (bkC BK597.out 1).trans rfl; have hcz40_2 : w39.cell? ⟨gb597, 2, none⟩ = some (.int .i64 0) := (bkC BK597.out 2).trans rfl; have hfz40_0 := bkZ BK597.out 0; have hfz40_1 := bkZ BK597.out 1; have hfz40_2 := bkZ BK597.out 2) | ((with_reducible refine gate_builtin (b := .append) (xs := #[.tmp 58, .tmp 60]) rfl ?_); at_builtin; refine Kd.R_append k107 (w0 := w) w.heap.size rfl (.tmp 58) (.tmp 60) 102 107 (.agg #[(.int .i64 0), (.int .i64 0), (.int .i64 0)]) 24 rfl Tryd.underlying102 info107 rfl (by decide) (by omega) u11 x11_4 (⟨(rd_T106 t581 x54_4).f0, (rd_T106 t581 x54_4).f1, (rd_T106 t581 x54_4).f2⟩ : S107) [.int .i64 ((rd_T106 t581 x54_4).f0), .int .i64 ((rd_T106 t581 x54_4).f1), .int .i64 ((rd_T106 t581 x54_4).f2)] (fun k_ => some k_ ≠ (u10 : Value).ownBlock) (fun _ => False) rfl (by first | (go_simp; done) | (go_simp; rfl)) ?aP (fun _ hk => hk.elim) ?aF ?aO ?aB ?aS ?aL ?_; (case aP => exact k107_mkM _ _ _ (⟨(rd_T106 t581 x54_4).f0, (rd_T106 t581 x54_4).f1, (rd_T106 t581 x54_4).f2⟩ : S107)); (case aB => exact (by repeat (first | (with_reducible first | exact HB.out | apply bwA | apply bwN | apply bw1 | refine bwS ?_ GE597.out) | exact HB.out))); (case aF => exact (fun k_ hk => Kd.fresh' (Kd.R_lt (by (with_reducible repeat (first | apply Kd.R_alloc | apply Kd.R_drewN | apply Kd.R_drew)); exact (Kd.R_mono (Kd.R_far (p := ⟨gb597, 2, none⟩) (Kd.R_far (p := ⟨gb597, 1, none⟩) (Kd.R_far (p := ⟨gb597, 0, none⟩) (Kd.R_types HO_10.out BK597.out (by decide)) (fun _ hk => hk.2) (.int .i64 ((rd_T106 t581 x54_4).f0))) (fun _ hk => hk.2) (.int .i64 ((rd_T106 t581 x54_4).f1))) (fun _ hk => hk.2) (.int .i64 ((rd_T106 t581 x54_4).f2))) (fun _ h_ => h_.1)))) k_ hk)); (case aO => exact (by (with_reducible repeat (first | apply Kd.R_alloc | apply Kd.R_drewN | apply Kd.R_drew)); exact Kd.R_mono (Kd.R_far (p := ⟨gb597, 2, none⟩) (Kd.R_far (p := ⟨gb597, 1, none⟩) (Kd.R_far (p := ⟨gb597, 0, none⟩) (Kd.R_types HO_11.out BK597.out (by decide)) (fun _ hk => hk.2) (.int .i64 ((rd_T106 t581 x54_4).f0))) (fun _ hk => hk.2) (.int .i64 ((rd_T106 t581 x54_4).f1))) (fun _ hk => hk.2) (.int .i64 ((rd_T106 t581 x54_4).f2))) (fun _ hk => hk.1))); (case aS => exact (bwZ (by repeat (first | (with_reducible first | exact HB.out | apply bwA | apply bwN | apply bw1 | refine bwS ?_ GE597.out) | exact HB.out)))); (case aL => have := LMc38.out; omega); intro v599 w41 ho hb hg hat; rw [← Ny598.out] at ho; have n0_ := Z0.mk (Kd.R_after (ok := (fun _ => True)) (by (with_reducible repeat (first | apply Kd.R_alloc | apply Kd.R_drewN | apply Kd.R_drew)); exact Kd.R_mono (Kd.R_far (p := ⟨gb597, 2, none⟩) (Kd.R_far (p := ⟨gb597, 1, none⟩) (Kd.R_far (p := ⟨gb597, 0, none⟩) (Kd.R_types HO_10.out BK597.out (by decide)) (fun _ hk => hk.2) (.int .i64 ((rd_T106 t581 x54_4).f0))) (fun _ hk => hk.2) (.int .i64 ((rd_T106 t581 x54_4).f1))) (fun _ hk => hk.2) (.int .i64 ((rd_T106 t581 x54_4).f2))) (fun _ hk => ⟨trivial, hk.1⟩)) hg hat); have n1_ := Z0.mk (Kd.R_over' (by (with_reducible repeat (first | apply Kd.R_alloc | apply Kd.R_drewN | apply Kd.R_drew)); exact (Kd.R_mono (Kd.R_far (p := ⟨gb597, 2, none⟩) (Kd.R_far (p := ⟨gb597, 1, none⟩) (Kd.R_far (p := ⟨gb597, 0, none⟩) (Kd.R_mono HO_52.out (fun k_ hk => (⟨hk, hk.2⟩ : _ ∧ k_ ≠ gb597))) (fun _ hk => hk.2) (.int .i64 ((rd_T106 t581 x54_4).f0))) (fun _ hk => hk.2) (.int .i64 ((rd_T106 t581 x54_4).f1))) (fun _ hk => hk.2) (.int .i64 ((rd_T106 t581 x54_4).f2))) (fun _ h_ => h_.1))) (Kd.R_typed (by (with_reducible repeat (first | apply Kd.R_alloc | apply Kd.R_drewN | apply Kd.R_drew)); exact (Kd.R_mono (Kd.R_far (p := ⟨gb597, 2, none⟩) (Kd.R_far (p := ⟨gb597, 1, none⟩) (Kd.R_far (p := ⟨gb597, 0, none⟩) (Kd.R_types HO_11.out BK597.out (by decide)) (fun _ hk => hk.2) (.int .i64 ((rd_T106 t581 x54_4).f0))) (fun _ hk => hk.2) (.int .i64 ((rd_T106 t581 x54_4).f1))) (fun _ hk => hk.2) (.int .i64 ((rd_T106 t581 x54_4).f2))) (fun _ h_ => h_.1)))) (by decide) hg); have n2_ := Z0.mk (blk_grown (g := gb597) (o := .cells #[.int .i64 ((rd_T106 t581 x54_4).f0), .int .i64 ((rd_T106 t581 x54_4).f1), .int .i64 ((rd_T106 t581 x54_4).f2)] 106 (0, 0)) (by (with_reducible repeat (first | refine bkN ?_ _ | refine bkD ?_ | refine bkA ?_ _)); refine bkP (cs := #[.int .i64 ((rd_T106 t581 x54_4).f0), .int .i64 ((rd_T106 t581 x54_4).f1), .int .i64 0]) ?_ 2 _ rfl; (with_reducible repeat (first | refine bkN ?_ _ | refine bkD ?_ | refine bkA ?_ _)); refine bkP (cs := #[.int .i64 ((rd_T106 t581 x54_4).f0), .int .i64 0, .int .i64 0]) ?_ 1 _ rfl; (with_reducible repeat (first | refine bkN ?_ _ | refine bkD ?_ | refine bkA ?_ _)); refine bkP (cs := #[.int .i64 0, .int .i64 0, .int .i64 0]) ?_ 0 _ rfl; (with_reducible repeat (first | refine bkN ?_ _ | refine bkD ?_ | refine bkA ?_ _)); exact BK597.out) hg (Kd.R_ne HO_11.out BK597.out (by decide))); have n3_ := Z0.mk (hb); have n4_ := Z0.mk (ho); clear HO_10 HO_52 BK597 HB HO_11; have HO_10 := n0_; have HO_52 := n1_; have BK597 := n2_; have HB := n3_; have HO600 := n4_; clear n0_ n1_ n2_ n3_ n4_; clear ho hb hg hat))
              go_roundg k4
              case measure => have := HJ3.out; have := HJ14.out; have := HJ29.out; have := HK4.out; omega
              case rel => exact ⟨(y598), (wrap64 (x54_4 + 1)), (by first | rfl | (simp; done) | (simp [*]; done)), H', ⟨by have := HJ3.out; have := HJ14.out; have := HJ29.out; have := HK4.out; omega⟩, ⟨by (with_reducible repeat (first | apply Kd.R_alloc | apply Kd.R_drewN | apply Kd.R_drew)); exact Kd.R_mono HO_10.out (fun _ hk => hk.2)⟩, ⟨by (with_reducible repeat (first | apply Kd.R_alloc | apply Kd.R_drewN | apply Kd.R_drew)); exact HO600.out⟩, ⟨by (with_reducible repeat (first | apply Kd.R_alloc | apply Kd.R_drewN | apply Kd.R_drew)); exact Kd.R_mono HO_52.out (fun _ hk => trivial)⟩, ⟨by repeat (first | (with_reducible first | exact HB.out | apply bwA | apply bwN | apply bw1 | refine bwS ?_ GE597.out) | exact HB.out)⟩⟩
             ·rw [if_neg c38] at H;exact absurd H (by simp)
            ·rw [if_neg c37] at H;exact absurd H (by simp)
           ·rw [if_neg c36] at H;exact absurd H (by simp)
          ·rw [if_neg c35] at H;have c35b0 : decide (x54_4 < (t581.length : Int)) = false := decide_eq_false c35;clear c35;replace H := Option.bind_eq_some_iff.mp H
           obtain ⟨t601, A420, H⟩ := H;try dsimp only at H
           have A42 := Z0.mk A420;clear A420;by_cases c43 : t601 = true
           ·subst c43;have H1 : (if t582 = x9_29 then ((cl6_awake.f k4).bind fun t602 => (some t602)) else (none)) = some r := by rw [if_pos rfl] at H; exact H
            clear H;have H := H1;clear H1;by_cases c44 : t582 = x9_29
            ·rw [if_pos c44] at H;have c44b0 : (t582 == x9_29) = true := beq_iff_eq.mpr c44;have c44b1 : (t582 != x9_29) = false := bne_eq_false_iff_eq.mpr c44;clear c44;replace H := Option.bind_eq_some_iff.mp H
             obtain ⟨t602, A450, H⟩ := H;try dsimp only at H
             have A45 := Z0.mk A450;clear A450;obtain rfl := Option.some.inj H;obtain ⟨Ao46, co46, eo46⟩ := Kd.R_slice HO_11.out;subst eo46;obtain ⟨Ao47, co47, eo47⟩ := Kd.R_slice HO_10.out;subst eo47;go_wp2_with (first | ((with_reducible refine gtC (f := 65) rfl ?_); refine goesL_ (some 65) rfl rfl Tryd.func65 (by kernel_rfl) rfl #[.slice Ao46 x11_4.length co46, .slice Ao47 x10_29.length co47] rfl (by (try simp only [List.map_toArray, List.map_cons, List.map_nil]) <;> rfl) ?_; (with_reducible refine (cr6_SameSums.calls k4 _ _ x11_4 _ _ x10_29 true _ ?side1 ?side2 ?side3 ?side4 A42.out).mono ?_); (case side1 => repeat (first | exact (Kd.R_reads' HO_11.out).2.2 | (with_reducible refine Kd.C_alloc ?_ _) | (with_reducible refine Kd.C_drewN ?_ _) | (with_reducible refine Kd.C_drew ?_))); (case side2 => exact (Kd.R_reads' HO_11.out).2.1); (case side3 => repeat (first | exact (Kd.R_reads' HO_10.out).2.2 | (with_reducible refine Kd.C_alloc ?_ _) | (with_reducible refine Kd.C_drewN ?_ _) | (with_reducible refine Kd.C_drew ?_))); (case side4 => exact (Kd.R_reads' HO_10.out).2.1); rintro e w' ⟨rfl, ⟨nd, rfl⟩⟩; refine ⟨_, rfl, ?_⟩) | (go_at_call 22; (with_reducible refine (cl6_awake.calls k4  t602 _ (hG.below (by repeat (first | (with_reducible first | exact HB.out | apply bwA | apply bwN | apply bw1) | exact HB.out))) A45.out).mono ?_); rintro e w48 ⟨rfl, hb⟩; have n0_ := Z0.mk (Kd.R_below (by (with_reducible repeat (first | apply Kd.R_alloc | apply Kd.R_drewN | apply Kd.R_drew)); exact HO_10.out) hb); have n1_ := Z0.mk (Kd.R_below (by (with_reducible repeat (first | apply Kd.R_alloc | apply Kd.R_drewN | apply Kd.R_drew)); exact HO_11.out) hb); have n2_ := Z0.mk (Kd.R_below (by (with_reducible repeat (first | apply Kd.R_alloc | apply Kd.R_drewN | apply Kd.R_drew)); exact HO_52.out) hb); have n3_ := Z0.mk (bwT (by repeat (first | (with_reducible first | exact HB.out | apply bwA | apply bwN | apply bw1) | exact HB.out)) hb); clear HO_10 HO_11 HO_52 HB; have HO_10 := n0_; have HO_11 := n1_; have HO_52 := n2_; have HB := n3_; clear n0_ n1_ n2_ n3_; (try clear hb); (try clear hb2); (try clear hk); (try clear hi)))
             go_ret
             exact ⟨by first | rfl | (simp [errW_none, errW_some] <;> rfl) | (simp [*, errW_none, errW_some] <;> rfl), by repeat (first | (with_reducible first | exact HB.out | apply bwA | apply bwN | apply bw1) | exact HB.out)⟩
            ·rw [if_neg c44] at H;exact absurd H (by simp)
           ·replace c43 := Bool.eq_false_iff.mpr c43
            subst c43;have H1 : (none) = some r := by rw [if_neg (show ¬ (false = true) by decide)] at H; exact H
            clear H;have H := H1;clear H1;exact absurd H (by simp)
end Go.Proofs.YtppighiaffppkaaDoor.H
end
section
namespace Go.Proofs.YtppighiaffppkaaDoor.H
open Go.RowKit Go.Proofs.YtppighiaffppkaaDoorW.PrintWords Go.Proofs.YtppighiaffppkaaDoorW.PrintLast Go.Proofs.YtppighiaffppkaaDoorW.PrintMore
set_option linter.unusedSimpArgs false
set_option linter.unusedVariables false
theorem Ev.eqb {α β : Type} {x : Option α} {f : Nat → α → Option β} {a : α} {r : β} (h : x = Option.some a) (k : Ev (fun n => f n a) r) : Ev (fun n => x.bind (f n)) r := by
 subst h; exact k
theorem Ev.pos {α : Type} {c : Prop} [Decidable c] {g f : Nat → Option α} {r : α} (hc : c) (k : Ev g r) : Ev (fun n => if c then g n else f n) r := by simpa [hc] using k
theorem Ev.neg {α : Type} {c : Prop} [Decidable c] {g f : Nat → Option α} {r : α} (hc : ¬ c) (k : Ev f r) : Ev (fun n => if c then g n else f n) r := by simpa [hc] using k
theorem ref_CheckRange_eq (n lo hi : Int) : cr1_CheckRange.f n lo hi = some (rangeE n lo hi) := by
 unfold cr1_CheckRange.f rangeE
 split
 ·rfl
 ·split <;> rfl
theorem ref_First_loop (l : List Int) (hl : l.length < 9223372036854775807) : ∀ (d i k : Nat), i + d = l.length → d < k → cr1_First.l0 k l (i : Int) = some (firstE (l.drop i)) := by
 intro d
 induction d with
 | zero =>
  intro i k hi hk;obtain ⟨k, rfl⟩ : ∃ m, k = m + 1 := ⟨k - 1, by omega⟩;simp only [cr1_First.l0];rw [if_neg (by omega), List.drop_eq_nil_of_le (by omega)];rfl
 | succ d ih =>
  intro i k hi hk;obtain ⟨k, rfl⟩ : ∃ m, k = m + 1 := ⟨k - 1, by omega⟩;simp only [cr1_First.l0];rw [if_pos (by omega), if_pos (by omega), rd_drop (by omega), List.drop_eq_getElem_cons (by omega), wrap_id (by omega) (by omega)];have e : ((i : Int) + 1) = ((i + 1 : Nat) : Int) := by omega
  rw [e, ih (i + 1) k (by omega) (by omega)];simp only [firstE];split <;> rfl
theorem ref_First_ev (l : List Int) (hl : l.length < 9223372036854775807) : Ev (fun k => cr1_First.f k l) (firstE l) :=
 ⟨l.length + 1, fun k hk => by
  have := ref_First_loop l hl l.length 0 k (by omega) (by omega);simpa [cr1_First.f] using this⟩
theorem firstE_two (a b : Int) : firstE [a, b] = if a = 0 then b else a := by
 simp only [firstE]
 split
 ·split
  ·exact Eq.symm (by assumption)
  ·rfl
 ·rfl
theorem firstE_four (a b c d : Int) : firstE [a, b, c, d] = firstE [firstE [a, firstE [b, c]], d] := by
 simp only [firstE_two]
 simp only [firstE]
 repeat' split
 all_goals first | rfl | omega
theorem checkBar_eq (n : Int) : hang_checkBar.f n = some (rangeE n 1 100) := by
 unfold hang_checkBar.f; rw [hang_within_eq]; rfl
theorem getD_nat {α : Type} (l : List α) (z : α) {i : Nat} (h : i < l.length) : l.getD ((i : Int).toNat) z = l[i] := by
 simp [List.getD_eq_getElem?_getD, h]
theorem rd121 {l : List S121} {i : Nat} (h : i < l.length) : rd_T121 l (i : Int) = l[i] := getD_nat l z121 h
theorem rd132 {l : List S132} {i : Nat} (h : i < l.length) : rd_T132 l (i : Int) = l[i] := getD_nat l z132 h
def cTw (x : S121) : S132 := ⟨x.f0, x.f1, x.f2⟩
theorem ShortTwines_loop (l : List S121) (hl : l.length ≤ 9223372036854775807) : ∀ (d i : Nat), i + d = l.length → ∃ b, Ev (fun k => cr6_ShortTwines.l0 k l (i : Int)) b := by
 intro d
 induction d with
 | zero => intro i hi; exact ⟨true, Ev.step (fun _ => rfl) (Ev.neg (by omega) (Ev.now _))⟩
 | succ d ih =>
  intro i hi;by_cases h : ((rd_T121 l (i : Int)).f0.size : Int) > 40
  ·exact ⟨false, Ev.step (fun _ => rfl) (Ev.pos (by omega) (Ev.pos (by omega) (Ev.pos h (Ev.now _))))⟩
  ·obtain ⟨b, hb⟩ := ih (i + 1) (by omega);refine ⟨b, Ev.step (fun _ => rfl) (Ev.pos (by omega) (Ev.pos (by omega) (Ev.neg h ?_)))⟩;rw [wrap_id (x := (i : Int) + 1) (by omega) (by omega)];exact hb
theorem ShortTwines_ev (l : List S121) (hl : l.length ≤ 9223372036854775807) : ∃ b, Ev (fun k => cr6_ShortTwines.f k l) b ∧ (b = true → l.length ≤ 33) := by
 obtain ⟨b, hb⟩ := ShortTwines_loop l hl l.length 0 (by omega)
 by_cases h : (l.length : Int) > 6
 ·by_cases g : ((l.length : Int) != 33) = true
  ·exact ⟨false, Ev.pos h (Ev.step (fun _ => rfl) (Ev.pos g (Ev.now _))), fun e => by cases e⟩
  ·refine ⟨b, Ev.pos h (Ev.step (fun _ => rfl) (Ev.neg g hb)), fun _ => ?_⟩;simp at g; omega
 ·exact ⟨b, Ev.neg h (Ev.step (fun _ => rfl) (Ev.neg (c := false = true) (g := fun _ => Option.some false) (by decide) hb)), fun _ => by omega⟩
theorem twines_loop (l : List S121) (hl : l.length ≤ 33) : ∀ (d i : Nat), i + d = l.length → Ev (fun k => cl6_twines.l0 k ((l.take i).map cTw) l (l.length : Int) (i : Int)) (l.map cTw) := by
 intro d
 induction d with
 | zero =>
  intro i hi;have e : l.take i = l := List.take_of_length_le (by omega);rw [e];exact Ev.step (fun _ => rfl) (Ev.neg (by omega) (Ev.now _))
 | succ d ih =>
  intro i hi;refine Ev.step (fun _ => rfl) (Ev.pos (by omega) (Ev.pos (by omega) (Ev.pos (by omega) (Ev.pos (by simp; omega) ?_))));rw [wrap_id (x := (i : Int) + 1) (by omega) (by omega), rd121 (by omega)];have e : (l.take i).map cTw ++ [(⟨(l[i]'(by omega)).f0, (l[i]'(by omega)).f1, (l[i]'(by omega)).f2⟩ : S132)] = (l.take (i + 1)).map cTw := by
   rw [List.take_succ_eq_append_getElem (by omega), List.map_append]; rfl
  rw [e];exact ih (i + 1) (by omega)
theorem twines_ev (l : List S121) (hl : l.length ≤ 33) : Ev (fun k => cl6_twines.f k l) (l.map cTw) := twines_loop l hl l.length 0 (by omega)
def twIdx (s : ByteArray) : List S121 → Int → Int
 | [], _ => -1
 | x :: t, j => if x.f0.toList = s.toList then j else twIdx s t (j + 1)
theorem twineAt_loop (l : List S121) (s : ByteArray) (hl : l.length ≤ 9223372036854775807) : ∀ (d i : Nat), i + d = l.length → Ev (fun k => cr6_TwineAt.l0 k l s (i : Int)) (twIdx s (l.drop i) i) := by
 intro d
 induction d with
 | zero =>
  intro i hi;rw [List.drop_eq_nil_of_le (by omega)];exact Ev.step (fun _ => rfl) (Ev.neg (by omega) (Ev.now _))
 | succ d ih =>
  intro i hi;have e : l.drop i = l[i]'(by omega) :: l.drop (i + 1) := List.drop_eq_getElem_cons (by omega);rw [e];unfold twIdx
  by_cases h : (l[i]'(by omega)).f0.toList = s.toList
  ·rw [if_pos h];refine Ev.step (fun _ => rfl) (Ev.pos (by omega) (Ev.pos (by omega) (Ev.pos ?_ (Ev.now _))));rw [rd121 (by omega)]; exact h
  ·rw [if_neg h];refine Ev.step (fun _ => rfl) (Ev.pos (by omega) (Ev.pos (by omega) (Ev.neg ?_ ?_)))
   ·rw [rd121 (by omega)]; exact h
   ·rw [wrap_id (x := (i : Int) + 1) (by omega) (by omega)];exact ih (i + 1) (by omega)
theorem twineAt_ev (l : List S121) (s : ByteArray) (hl : l.length ≤ 9223372036854775807) : Ev (fun k => cr6_TwineAt.f k l s) (twIdx s l 0) := by
 have := twineAt_loop l s hl l.length 0 (by omega)
 simpa [cr6_TwineAt.f] using this
theorem index_loop (l : List S121) (s : ByteArray) (hl : l.length ≤ 9223372036854775807) : ∀ (d i : Nat), i + d = l.length →
  Ev (fun k => hang_Twine_110.l0 (fun x0 _ _ => some (x0.toList == s.toList)) k (l.map cTw) ((l.map cTw).length : Int) (i : Int)) (twIdx s (l.drop i) i) := by
 intro d
 have hm : (l.map cTw).length = l.length := by simp
 induction d with
 | zero =>
  intro i hi;rw [List.drop_eq_nil_of_le (by omega)];exact Ev.step (fun _ => rfl) (Ev.neg (by omega) (Ev.now _))
 | succ d ih =>
  intro i hi;have e : l.drop i = l[i]'(by omega) :: l.drop (i + 1) := List.drop_eq_getElem_cons (by omega);have r : rd_T132 (l.map cTw) (i : Int) = cTw (l[i]'(by omega)) := by rw [rd132 (by omega)]; simp
  rw [e];unfold twIdx
  by_cases h : (l[i]'(by omega)).f0.toList = s.toList
  ·rw [if_pos h];refine Ev.step (fun _ => rfl) (Ev.pos (by omega) (Ev.pos (by omega) (Ev.pos (by omega) (Ev.eqb (a := true) ?_ (Ev.pos rfl (Ev.now _))))));rw [r]; show some (((l[i]'(by omega)).f0.toList == s.toList)) = some true
   rw [h]; simp
  ·rw [if_neg h];refine Ev.step (fun _ => rfl) (Ev.pos (by omega) (Ev.pos (by omega) (Ev.pos (by omega) (Ev.eqb (a := false) ?_ (Ev.neg (by decide) ?_)))))
   ·rw [r]; show some (((l[i]'(by omega)).f0.toList == s.toList)) = some false
    rw [beq_false_of_ne h]
   ·rw [wrap_id (x := (i : Int) + 1) (by omega) (by omega)];exact ih (i + 1) (by omega)
theorem index_ev (l : List S121) (s : ByteArray) (hl : l.length ≤ 9223372036854775807) : Ev (fun k => hang_Twine_110.f (fun x0 _ _ => some (x0.toList == s.toList)) k (l.map cTw)) (twIdx s l 0) := by
 have := index_loop l s hl l.length 0 (by omega)
 simpa [hang_Twine_110.f] using this
theorem again_ev (l : List S121) (i : Nat) (s : ByteArray) (y1 y2 : Int) (hl : l.length ≤ 33) (hi : i ≤ l.length) : Ev (fun k => hang_again.f k (l.map cTw) (i : Int) s y1 y2) (decide (0 ≤ twIdx s (l.take i) 0)) := by
 unfold hang_again.f
 have e : (l.map cTw).take ((i : Int).toNat) = (l.take i).map cTw := by simp [List.map_take]
 rw [e]
 exact (index_ev (l.take i) s (by simp; omega)).bind (Ev.some rfl)
theorem nameByte (s : ByteArray) (i : Nat) (h : i < s.size) : bt s (i : Int) = ((s.data.toList.getD i 0).toNat : Int) := by
 rw [byte_at s i h, ← bt_at s (i : Int) (by omega)]
 rfl
theorem ref_IsName_loop (s : ByteArray) (hs : s.size ≤ 24) : ∀ (d i : Nat), i + d = s.size → Ev (fun k => cr1_IsName.l0 k s (i : Int)) ((List.range' i d).all fun j => okByte j (s.data.toList.getD j 0).toNat) := by
 intro d
 induction d with
 | zero => intro i hi; exact Ev.step (fun _ => rfl) (Ev.neg (by omega) (Ev.now _))
 | succ d ih =>
  intro i hi;have hb := nameByte s i (by omega);have hw : wrap64 ((i : Int) + 1) = ((i + 1 : Nat) : Int) := by rw [wrap_id (by omega) (by omega)]; omega
  rw [List.range'_succ, List.all_cons];refine Ev.step (fun _ => rfl) (Ev.pos (by omega) (Ev.pos (by omega) ?_));rw [hb, hw];have hn := ih (i + 1) (by omega);generalize (s.data.toList.getD i 0).toNat = c at *;have yes : okByte i c = true → Ev (fun k => cr1_IsName.l0 k s ((i + 1 : Nat) : Int)) (okByte i c && ((List.range' (i + 1) d).all fun j => okByte j (s.data.toList.getD j 0).toNat)) := by
   intro h; rw [h, Bool.true_and]; exact hn
  have no : okByte i c = false → Ev (fun _ : Nat => some false) (okByte i c && ((List.range' (i + 1) d).all fun j => okByte j (s.data.toList.getD j 0).toNat)) := by
   intro h; rw [h, Bool.false_and]; exact Ev.now _
  by_cases h1 : (c : Int) ≥ 97
  ·refine Ev.pos h1 ?_;by_cases h2 : (c : Int) ≤ 122
   ·exact Ev.pos h2 (yes (by unfold okByte; simp; omega))
   refine Ev.neg h2 (Ev.pos (by omega) (Ev.neg (by omega) ?_));by_cases h3 : (i : Int) = 0
   ·exact Ev.pos h3 (no (by unfold okByte; simp; omega))
   refine Ev.neg h3 (Ev.neg (by omega) (Ev.neg (by omega) (Ev.pos (by omega) (no (by unfold okByte; simp; omega)))))
  ·refine Ev.neg h1 ?_;by_cases h2 : (c : Int) ≥ 65
   ·refine Ev.pos h2 ?_;by_cases h3 : (c : Int) ≤ 90
    ·exact Ev.pos h3 (yes (by unfold okByte; simp; omega))
    refine Ev.neg h3 ?_;by_cases h4 : (i : Int) = 0
    ·exact Ev.pos h4 (no (by unfold okByte; simp; omega))
    refine Ev.neg h4 ?_;by_cases h5 : (c : Int) = 95
    ·exact Ev.pos h5 (yes (by unfold okByte; simp; omega))
    exact Ev.neg h5 (Ev.neg (by omega) (Ev.pos (by omega) (no (by unfold okByte; simp; omega))))
   ·refine Ev.neg h2 ?_;by_cases h4 : (i : Int) = 0
    ·exact Ev.pos h4 (no (by unfold okByte; simp; omega))
    refine Ev.neg h4 (Ev.neg (by omega) ?_);by_cases h5 : (c : Int) < 48
    ·exact Ev.pos h5 (no (by unfold okByte; simp; omega))
    refine Ev.neg h5 ?_;by_cases h6 : (c : Int) > 57
    ·exact Ev.pos h6 (no (by unfold okByte; simp; omega))
    exact Ev.neg h6 (yes (by unfold okByte; simp; omega))
theorem ref_IsName_ev (s : ByteArray) (hs0 : s.size ≤ 9223372036854775807) : Ev (fun k => cr1_IsName.f k s) (isName s) := by
 unfold isName
 by_cases h : (s.size : Int) = 0
 ·have e : decide (s.size ≠ 0 ∧ s.size ≤ 24) = false := decide_eq_false (by omega);rw [e, Bool.false_and];exact Ev.pos h (Ev.step (fun _ => rfl) (Ev.pos (c := true = true) (f := fun k => cr1_IsName.l0 k s 0) rfl (Ev.now _)))
 ·by_cases g : (s.size : Int) > 24
  ·have e : decide (s.size ≠ 0 ∧ s.size ≤ 24) = false := decide_eq_false (by omega);rw [e, Bool.false_and];exact Ev.neg h (Ev.step (fun _ => rfl) (Ev.pos (by simpa using g) (Ev.now _)))
  ·have e : decide (s.size ≠ 0 ∧ s.size ≤ 24) = true := decide_eq_true (by omega);rw [e, Bool.true_and];refine Ev.neg h (Ev.step (fun _ => rfl) (Ev.neg (by simpa using g) ?_));have := ref_IsName_loop s (by omega) s.size 0 (by omega);unfold okAll
   rw [List.range_eq_range'];exact this
def twE (l : List S121) (x : S121) : Int := firstE [whenE (!(isName x.f0)) 8, whenE (decide (0 ≤ twIdx x.f0 l 0)) 9, rangeE x.f1 1 100000, rangeE x.f2 1 100]
theorem checkTwines_loop (l : List S121) (hl : l.length ≤ 33) (hs : ∀ x ∈ l, x.f0.size ≤ 9223372036854775807) : ∀ (d i : Nat), i + d = l.length →
  ∃ r, Ev (fun k => hang_CheckTwines.l0 k (l.map cTw) (l.map cTw) ((l.map cTw).length : Int) (i : Int)) r ∧ Ev (fun k => cr6_CheckTwines.l0 k l (i : Int)) r ∧ (r = 0 → ∀ j, i ≤ j → (hj : j < l.length) → twE (l.take j) l[j] = 0) := by
 intro d
 have hm : (l.map cTw).length = l.length := by simp
 induction d with
 | zero =>
  intro i hi;exact ⟨0, Ev.step (fun _ => rfl) (Ev.neg (by omega) (Ev.now _)), Ev.step (fun _ => rfl) (Ev.neg (by omega) (Ev.now _)), fun _ j h1 h2 => by omega⟩
 | succ d ih =>
  intro i hi;have hil : i < l.length := by omega
  have r : rd_T132 (l.map cTw) (i : Int) = cTw l[i] := by rw [rd132 (by omega)]; simp
  have hw : wrap64 ((i : Int) + 1) = ((i + 1 : Nat) : Int) := by rw [wrap_id (by omega) (by omega)]; omega
  have hn := ref_IsName_ev l[i].f0 (hs _ (List.getElem_mem hil));have ha := again_ev l i l[i].f0 l[i].f1 l[i].f2 hl (by omega);have ht := twineAt_ev (l.take i) l[i].f0 (by simp; omega);obtain ⟨q, q1, q2, q3⟩ := ih (i + 1) (by omega);have hang : ∀ v : Int, (twE (l.take i) l[i] = 0 → v = q) → (twE (l.take i) l[i] ≠ 0 → v = twE (l.take i) l[i]) → Ev (fun k => hang_CheckTwines.l0 k (l.map cTw) (l.map cTw) ((l.map cTw).length : Int) (i : Int)) v := by
   intro v v0 v1;refine Ev.step (fun _ => rfl) (Ev.pos (by omega) (Ev.pos (by omega) (Ev.pos (by omega) ?_)));rw [r];refine ha.bind (Ev.eqb (a := isName l[i].f0) rfl (Ev.eqb (hang_when_eq ..) (Ev.eqb (hang_when_eq ..) (Ev.eqb (hang_within_eq ..) (Ev.eqb (hang_within_eq ..) ((hang_first_ev _ (by simp)).bind ?_))))));by_cases h : twE (l.take i) l[i] = 0
   ·refine Ev.pos h ?_;rw [hw, v0 h]; exact q1
   ·refine Ev.neg h ?_;rw [v1 h]; exact Ev.now _
  have ref : ∀ v : Int, (twE (l.take i) l[i] = 0 → v = q) → (twE (l.take i) l[i] ≠ 0 → v = twE (l.take i) l[i]) → Ev (fun k => cr6_CheckTwines.l0 k l (i : Int)) v := by
   intro v v0 v1;refine Ev.step (fun _ => rfl) (Ev.pos (by omega) (Ev.pos (by omega) ?_));rw [rd121 hil];refine hn.bind ?_;unfold twE at v0 v1
   rw [firstE_four] at v0 v1;have hT : ((i : Int)).toNat = i := by omega
   cases hN : isName l[i].f0 with
   | false =>
    rw [hN] at v1;have e : whenE (!false) 8 = 8 := rfl;rw [e] at v1;refine Ev.neg (by decide) ?_;have : v = 8 := by
     refine v1 ?_ |>.trans ?_
     ·simp [firstE]
     ·simp [firstE]
    rw [this]; exact Ev.now _
   | true =>
    rw [hN] at v0 v1;have e : whenE (!true) 8 = 0 := rfl;rw [e] at v0 v1;refine Ev.pos rfl (Ev.pos (by omega) ?_);rw [hT];refine ht.bind ?_;by_cases hA : twIdx l[i].f0 (l.take i) 0 ≥ 0
    ·rw [decide_eq_true hA] at v1;have e2 : whenE true 9 = 9 := rfl;rw [e2] at v1;refine Ev.pos hA ?_;have : v = 9 := by
      refine v1 ?_ |>.trans ?_
      ·simp [firstE]
      ·simp [firstE]
     rw [this]; exact Ev.now _
    ·rw [decide_eq_false (show ¬ (0 ≤ twIdx l[i].f0 (l.take i) 0) from hA)] at v0 v1;have e2 : whenE false 9 = 0 := rfl;rw [e2] at v0 v1;have e3 : firstE [firstE [0, firstE [0, rangeE l[i].f1 1 100000]], rangeE l[i].f2 1 100] = firstE [rangeE l[i].f1 1 100000, rangeE l[i].f2 1 100] := by
      rw [firstE_two 0 (rangeE _ _ _), if_pos rfl, firstE_two 0 (rangeE _ _ _), if_pos rfl]
     rw [e3] at v0 v1;refine Ev.neg hA (Ev.eqb (ref_CheckRange_eq ..) (Ev.eqb (ref_CheckRange_eq ..) ((ref_First_ev _ (by simp)).bind ?_)));by_cases h : firstE [rangeE l[i].f1 1 100000, rangeE l[i].f2 1 100] = 0
     ·refine Ev.pos h ?_;rw [hw, v0 h]; exact q2
     ·refine Ev.neg h ?_;rw [v1 h]; exact Ev.now _
  by_cases h : twE (l.take i) l[i] = 0
  ·refine ⟨q, hang q (fun _ => rfl) (fun c => absurd h c), ref q (fun _ => rfl) (fun c => absurd h c), fun h0 j h1 h2 => ?_⟩;rcases (by omega : j = i ∨ i + 1 ≤ j) with rfl | h3
   ·exact h
   ·exact q3 h0 j h3 h2
  ·exact ⟨_, hang _ (fun c => absurd c h) (fun _ => rfl), ref _ (fun c => absurd c h) (fun _ => rfl), fun h0 => absurd h0 h⟩
theorem checkTwines_ev (l : List S121) (hl : l.length ≤ 33) (hs : ∀ x ∈ l, x.f0.size ≤ 9223372036854775807) :
  ∃ r, Ev (fun k => hang_CheckTwines.f k (l.map cTw)) r ∧ Ev (fun k => cr6_CheckTwines.f k l) r ∧ (r = 0 → l.length ≤ 32 ∧ ∀ j, (hj : j < l.length) → twE (l.take j) l[j] = 0) := by
 have hm : (l.map cTw).length = l.length := by simp
 by_cases h : (l.length : Int) > 32
 ·exact ⟨5, Ev.pos (by omega) (Ev.now _), Ev.pos h (Ev.now _), fun c => by omega⟩
 ·obtain ⟨r, h1, h2, h3⟩ := checkTwines_loop l hl hs l.length 0 (by omega);exact ⟨r, Ev.neg (by omega) h1, Ev.neg h h2, fun h0 => ⟨by omega, fun j hj => h3 h0 j (by omega) hj⟩⟩
theorem rd119 {l : List S119} {i : Nat} (h : i < l.length) : rd_T119 l (i : Int) = l[i] := getD_nat l z119 h
theorem rd133 {l : List S133} {i : Nat} (h : i < l.length) : rd_T133 l (i : Int) = l[i] := getD_nat l z133 h
theorem rd106 {l : List S106} {i : Nat} (h : i < l.length) : rd_T106 l (i : Int) = l[i] := getD_nat l z106 h
def cLn (x : S119) : S133 := ⟨x.f0, x.f1, x.f2, x.f3⟩
theorem ShortLines_loop (l : List S119) (hl : l.length ≤ 9223372036854775807) : ∀ (d i : Nat), i + d = l.length → ∃ b, Ev (fun k => cr6_ShortLines.l0 k l (i : Int)) b := by
 intro d
 induction d with
 | zero => intro i hi; exact ⟨true, Ev.step (fun _ => rfl) (Ev.neg (by omega) (Ev.now _))⟩
 | succ d ih =>
  intro i hi;by_cases h : ((rd_T119 l (i : Int)).f3.size : Int) > 40
  ·exact ⟨false, Ev.step (fun _ => rfl) (Ev.pos (by omega) (Ev.pos (by omega) (Ev.pos h (Ev.now _))))⟩
  ·obtain ⟨b, hb⟩ := ih (i + 1) (by omega);refine ⟨b, Ev.step (fun _ => rfl) (Ev.pos (by omega) (Ev.pos (by omega) (Ev.neg h ?_)))⟩;rw [wrap_id (x := (i : Int) + 1) (by omega) (by omega)];exact hb
theorem ShortLines_ev (l : List S119) (hl : l.length ≤ 9223372036854775807) : ∃ b, Ev (fun k => cr6_ShortLines.f k l 8) b ∧ (b = true → l.length ≤ 65) := by
 obtain ⟨b, hb⟩ := ShortLines_loop l hl l.length 0 (by omega)
 by_cases h : (l.length : Int) > 8
 ·by_cases g : ((l.length : Int) != 65) = true
  ·exact ⟨false, Ev.pos h (Ev.step (fun _ => rfl) (Ev.pos g (Ev.now _))), fun e => by cases e⟩
  ·refine ⟨b, Ev.pos h (Ev.step (fun _ => rfl) (Ev.neg g hb)), fun _ => ?_⟩;simp at g; omega
 ·exact ⟨b, Ev.neg h (Ev.step (fun _ => rfl) (Ev.neg (c := false = true) (g := fun _ => Option.some false) (by decide) hb)), fun _ => by omega⟩
theorem lines_loop (l : List S119) (hl : l.length ≤ 65) : ∀ (d i : Nat), i + d = l.length → Ev (fun k => cl6_lines.l0 k ((l.take i).map cLn) l (l.length : Int) (i : Int)) (l.map cLn) := by
 intro d
 induction d with
 | zero =>
  intro i hi;have e : l.take i = l := List.take_of_length_le (by omega);rw [e];exact Ev.step (fun _ => rfl) (Ev.neg (by omega) (Ev.now _))
 | succ d ih =>
  intro i hi;refine Ev.step (fun _ => rfl) (Ev.pos (by omega) (Ev.pos (by omega) (Ev.pos (by omega) (Ev.pos (by simp; omega) ?_))));rw [wrap_id (x := (i : Int) + 1) (by omega) (by omega), rd119 (by omega)];have e : (l.take i).map cLn ++ [(⟨(l[i]'(by omega)).f0, (l[i]'(by omega)).f1, (l[i]'(by omega)).f2, (l[i]'(by omega)).f3⟩ : S133)] = (l.take (i + 1)).map cLn := by
   rw [List.take_succ_eq_append_getElem (by omega), List.map_append]; rfl
  rw [e];exact ih (i + 1) (by omega)
theorem lines_ev (l : List S119) (hl : l.length ≤ 65) : Ev (fun k => cl6_lines.f k l) (l.map cLn) := lines_loop l hl l.length 0 (by omega)
def numE (y : S119) : Int := firstE [rangeE y.f0 0 100000, rangeE y.f1 0 100000, rangeE y.f2 1 100]
def lnE (T : List S121) (y : S119) : Int := firstE [numE y, whenE (!(decide (0 ≤ twIdx y.f3 T 0))) 10]
def lnsE (T : List S121) (l : List S119) : Int := if l.length > 64 then 5 else firstE (l.map (lnE T))
theorem line_ev (n1 n2 b : Int) : Ev (fun k => hang_checkLine.f k n1 n2 b) (firstE [rangeE n1 0 100000, rangeE n2 0 100000, rangeE b 1 100]) := by
 unfold hang_checkLine.f
 exact Ev.eqb (hang_within_eq ..) (Ev.eqb (hang_within_eq ..) (Ev.eqb (checkBar_eq ..) ((hang_first_ev _ (by simp)).bind (Ev.some rfl))))
theorem allow_eq (n : Int) : hang_checkAllowance.f n = some (rangeE n 0 100) := by
 unfold hang_checkAllowance.f; rw [hang_within_eq]; rfl
theorem line1_ev (T : List S121) (hT : T.length ≤ 9223372036854775807) (y : S119) : Ev (fun k => hang_Bill_2.f k (T.map cTw) y.f0 y.f1 y.f2 y.f3) (lnE T y) := by
 unfold hang_Bill_2.f
 have kn : Ev (fun k => hang_known.f k (T.map cTw) y.f3) (decide (0 ≤ twIdx y.f3 T 0)) := by
  unfold hang_known.f
  exact (index_ev T y.f3 hT).bind (Ev.some rfl)
 exact (line_ev ..).bind (kn.bind (Ev.eqb (hang_when_eq ..) ((hang_first_ev _ (by simp)).bind (Ev.some rfl))))
theorem lineErrs_loop (T : List S121) (hT : T.length ≤ 9223372036854775807) (l : List S119) (hl : l.length ≤ 65) : ∀ (d i : Nat), i + d = l.length → ∃ K, ∀ c k, K ≤ c → K ≤ k → api_Errno_99.l0 (fun x0 x1 x2 x3 => hang_Bill_2.f c (T.map cTw) x0 x1 x2 x3) k ((l.take i).map (lnE T)) (l.map cLn) ((l.map cLn).length : Int) (i : Int) = some (l.map (lnE T)) := by
 have hm : (l.map cLn).length = l.length := by simp
 intro d
 induction d with
 | zero =>
  intro i hi;refine ⟨1, fun c k hc hk => ?_⟩;obtain ⟨k, rfl⟩ : ∃ m, k = m + 1 := ⟨k - 1, by omega⟩;have e : l.take i = l := List.take_of_length_le (by omega);rw [e];simp only [api_Errno_99.l0];rw [if_neg (by omega)]
 | succ d ih =>
  intro i hi;have hil : i < l.length := by omega
  obtain ⟨K, hK⟩ := ih (i + 1) (by omega);obtain ⟨K2, hK2⟩ := line1_ev T hT l[i];refine ⟨K + K2 + 1, fun c k hc hk => ?_⟩;obtain ⟨k, rfl⟩ : ∃ m, k = m + 1 := ⟨k - 1, by omega⟩;have r : rd_T133 (l.map cLn) (i : Int) = cLn l[i] := by rw [rd133 (by omega)]; simp
  simp only [api_Errno_99.l0];have e' : hang_Bill_2.f c (T.map cTw) (cLn l[i]).f0 (cLn l[i]).f1 (cLn l[i]).f2 (cLn l[i]).f3 = some (lnE T l[i]) := hK2 c (by omega);rw [if_pos (by omega), if_pos (by omega), if_pos (by omega), r, e', Option.bind_some, if_pos (by simp; omega), wrap_id (x := (i : Int) + 1) (by omega) (by omega)];have e : (l.take i).map (lnE T) ++ [lnE T l[i]] = (l.take (i + 1)).map (lnE T) := by
   rw [List.take_succ_eq_append_getElem (by omega), List.map_append]; rfl
  rw [e];exact hK c k (by omega) (by omega)
theorem lineErrs_ev (T : List S121) (hT : T.length ≤ 9223372036854775807) (l : List S119) (hl : l.length ≤ 65) : Ev (fun k => hang_lineErrs.f k (T.map cTw) (l.map cLn)) (l.map (lnE T)) := by
 obtain ⟨K, hK⟩ := lineErrs_loop T hT l hl l.length 0 (by omega)
 exact ⟨K, fun k hk => by simpa [hang_lineErrs.f, api_Errno_99.f] using hK k k hk hk⟩
theorem ref_CheckLines_loop (T : List S121) (hT : T.length ≤ 9223372036854775807) (l : List S119) (hl : l.length ≤ 65) : ∀ (d i : Nat), i + d = l.length → Ev (fun k => cr6_CheckLines.l0 k T l (i : Int)) (firstE ((l.drop i).map (lnE T))) := by
 intro d
 induction d with
 | zero =>
  intro i hi;rw [List.drop_eq_nil_of_le (by omega)];exact Ev.step (fun _ => rfl) (Ev.neg (by omega) (Ev.now _))
 | succ d ih =>
  intro i hi;have hil : i < l.length := by omega
  have e : l.drop i = l[i] :: l.drop (i + 1) := List.drop_eq_getElem_cons hil;have hw : wrap64 ((i : Int) + 1) = ((i + 1 : Nat) : Int) := by rw [wrap_id (by omega) (by omega)]; omega
  rw [e, List.map_cons];unfold firstE
  refine Ev.step (fun _ => rfl) (Ev.pos (by omega) (Ev.pos (by omega) ?_));rw [rd119 hil];refine Ev.eqb (ref_CheckRange_eq ..) (Ev.eqb (ref_CheckRange_eq ..) (Ev.eqb (ref_CheckRange_eq ..) ((ref_First_ev _ (by simp)).bind ?_)));have dn : lnE T l[i] = if numE l[i] = 0 then whenE (!(decide (0 ≤ twIdx l[i].f3 T 0))) 10 else numE l[i] := firstE_two _ _;by_cases h : numE l[i] = 0
  ·rw [if_pos h] at dn;refine Ev.pos h ((twineAt_ev T l[i].f3 hT).bind (Ev.step (fun _ => rfl) ?_));by_cases g : twIdx l[i].f3 T 0 < 0
   ·refine Ev.pos (decide_eq_true g) ?_;rw [decide_eq_false (by omega)] at dn;have : lnE T l[i] = 10 := dn;rw [this, if_neg (by decide)]; exact Ev.now _
   ·refine Ev.neg (by rw [decide_eq_true_eq]; exact g) ?_;rw [decide_eq_true (by omega)] at dn;have : lnE T l[i] = 0 := dn;rw [this, if_pos rfl];refine Ev.pos h ?_;rw [hw]; exact ih (i + 1) (by omega)
  ·rw [if_neg h] at dn;refine Ev.neg h (Ev.step (fun _ => rfl) ?_);rw [dn, if_neg h];simp only [cr6_CheckLines.j1];refine Ev.neg (by decide) ?_;exact Ev.neg h (Ev.now _)
theorem ref_CheckLines_ev (T : List S121) (hT : T.length ≤ 9223372036854775807) (l : List S119) (hl : l.length ≤ 65) : Ev (fun k => cr6_CheckLines.f k T l) (lnsE T l) := by
 unfold lnsE
 by_cases h : l.length > 64
 ·rw [if_pos h]; exact Ev.pos (by omega) (Ev.now _)
 ·rw [if_neg h]; exact Ev.neg (by omega) (ref_CheckLines_loop T hT l hl l.length 0 (by omega))
def lenOf (a : Int) (l : List S119) (x : S121) : Int := billM a (l.map cLn) x.f0.data.toList
def sumOf (a : Int) (l : List S119) (x : S121) : S106 := ⟨lenOf a l x, wrap64 (Int.tdiv (wrap64 (lenOf a l x * x.f1)) 1000), wrap64 (lenOf a l x * x.f2)⟩
def bigB (s : S106) : Bool := decide (s.f0 > 999999999 ∨ s.f1 > 999999999 ∨ s.f2 > 999999999)
theorem sums_loop (a : Int) (L : List S119) (T : List S121) (hT : T.length ≤ 33) (hs : ∀ x ∈ T, x.f0.size ≤ maxLen) : ∀ (d i : Nat), i + d = T.length → Ev (fun k => hang_Sum_100.l0 (fun x0 x1 x2 => hang_Bill_3.f (billM a (L.map cLn)) x0 x1 x2) k ((T.take i).map (sumOf a L)) (T.map cTw) ((T.map cTw).length : Int) (i : Int)) (T.map (sumOf a L)) := by
 have hm : (T.map cTw).length = T.length := by simp
 intro d
 induction d with
 | zero =>
  intro i hi;have e : T.take i = T := List.take_of_length_le (by omega);rw [e];exact Ev.step (fun _ => rfl) (Ev.neg (by omega) (Ev.now _))
 | succ d ih =>
  intro i hi;have hil : i < T.length := by omega
  have r : rd_T132 (T.map cTw) (i : Int) = cTw T[i] := by rw [rd132 (by omega)]; simp
  refine Ev.step (fun _ => rfl) (Ev.pos (by omega) (Ev.pos (by omega) (Ev.pos (by omega) ?_)));rw [r, wrap_id (x := (i : Int) + 1) (by omega) (by omega)];have e' : hang_Bill_3.f (billM a (L.map cLn)) (cTw T[i]).f0 (cTw T[i]).f1 (cTw T[i]).f2 = some ((sumOf a L T[i]).f0, (sumOf a L T[i]).f1, (sumOf a L T[i]).f2) := by
   unfold hang_Bill_3.f
   rw [if_pos (show (cTw T[i]).f0.size ≤ maxLen from hs _ (List.getElem_mem hil))];rfl
  refine Ev.eqb e' (Ev.pos (by simp; omega) ?_);have e : (T.take i).map (sumOf a L) ++ [(⟨(sumOf a L T[i]).f0, (sumOf a L T[i]).f1, (sumOf a L T[i]).f2⟩ : S106)] = (T.take (i + 1)).map (sumOf a L) := by
   rw [List.take_succ_eq_append_getElem hil, List.map_append]; rfl
  rw [e];exact ih (i + 1) (by omega)
theorem sums_ev (a : Int) (L : List S119) (T : List S121) (hT : T.length ≤ 33) (hs : ∀ x ∈ T, x.f0.size ≤ maxLen) : Ev (fun k => hang_sums.f (billM a (L.map cLn)) k (T.map cTw)) (T.map (sumOf a L)) := sums_loop a L T hT hs T.length 0 (by omega)
theorem big1_eq (s : S106) : hang_Bill_4.f s.f0 s.f1 s.f2 = some (bigB s) := by
 unfold hang_Bill_4.f bigB mx
 congr 1
 rw [decide_eq_decide]
 (repeat' split) <;> omega
theorem big_loop (S : List S106) (hS : S.length ≤ 33) : ∀ (d i : Nat), i + d = S.length → ∃ q : Int, Ev (fun k => hang_Sum_111.l0 (fun x0 x1 x2 => hang_Bill_4.f x0 x1 x2) k S (S.length : Int) (i : Int)) q ∧ (0 ≤ q ↔ ∃ s ∈ S.drop i, bigB s = true) := by
 intro d
 induction d with
 | zero =>
  intro i hi;refine ⟨-1, Ev.step (fun _ => rfl) (Ev.neg (by omega) (Ev.now _)), ?_⟩;rw [List.drop_eq_nil_of_le (by omega)]; simp
 | succ d ih =>
  intro i hi;have hil : i < S.length := by omega
  have e : S.drop i = S[i] :: S.drop (i + 1) := List.drop_eq_getElem_cons hil;have st : ∀ v : Int, (bigB S[i] = true → v = (i : Int)) → (¬ bigB S[i] = true → Ev (fun k => hang_Sum_111.l0 (fun x0 x1 x2 => hang_Bill_4.f x0 x1 x2) k S (S.length : Int) ((i + 1 : Nat) : Int)) v) → Ev (fun k => hang_Sum_111.l0 (fun x0 x1 x2 => hang_Bill_4.f x0 x1 x2) k S (S.length : Int) (i : Int)) v := by
   intro v y n;refine Ev.step (fun _ => rfl) (Ev.pos (by omega) (Ev.pos (by omega) (Ev.pos (by omega) ?_)));rw [rd106 hil, wrap_id (x := (i : Int) + 1) (by omega) (by omega)];refine Ev.eqb (big1_eq S[i]) ?_;by_cases h : bigB S[i] = true
   ·refine Ev.pos h ?_;rw [y h]; exact Ev.now _
   ·exact Ev.neg h (n h)
  by_cases h : bigB S[i] = true
  ·exact ⟨(i : Int), st _ (fun _ => rfl) (fun c => absurd h c), ⟨fun _ => ⟨S[i], by rw [e]; exact List.mem_cons_self .., h⟩, fun _ => by omega⟩⟩
  ·obtain ⟨q, h1, h2⟩ := ih (i + 1) (by omega);refine ⟨q, st _ (fun c => absurd c h) (fun _ => h1), h2.trans ?_⟩;rw [e];constructor
   ·rintro ⟨s, hs, hb⟩; exact ⟨s, List.mem_cons_of_mem _ hs, hb⟩
   ·rintro ⟨s, hs, hb⟩;rcases List.mem_cons.1 hs with rfl | hs
    ·exact absurd hb h
    ·exact ⟨s, hs, hb⟩
def billR (a : Int) (T : List S121) (L : List S119) : List S106 × Int := if T.all (fun x => !(bigB (sumOf a L x))) then (T.map (sumOf a L), 0) else ([], 4)
def billE (r a : Int) (T : List S121) (L : List S119) : Int := if r = 0 then firstE [lnsE T L, rangeE a 0 100] else r
theorem hang_Bill_ev (T : List S121) (L : List S119) (a r : Int) (hT : T.length ≤ 33) (hL : L.length ≤ 65) (hs : ∀ x ∈ T, x.f0.size ≤ maxLen) (hs' : ∀ y ∈ L, y.f3.size ≤ maxLen) (hr : Ev (fun k => hang_CheckTwines.f k (T.map cTw)) r) :
  Ev (fun k => hang_Bill.f k (T.map cTw) (L.map cLn) a) (if billE r a T L = 0 then billR a T L else ([], billE r a T L)) := by
 have hm : (L.map cLn).length = L.length := by simp
 have ht : (T.map (sumOf a L)).length = T.length := by simp
 unfold hang_Bill.f
 rw [hm]
 refine hr.bind (Ev.eqb (hang_when_eq ..) ((hang_first_ev _ (by simp)).bind ?_))
 rw [firstE_two]
 by_cases h : r = 0
 ·subst h;rw [if_pos rfl];by_cases g : L.length > 64
  ·have e : whenE (decide ((L.length : Int) > 64)) 5 = 5 := by unfold whenE; rw [if_pos (decide_eq_true (by omega))]
   have eb : billE 0 a T L = 5 := by unfold billE lnsE; rw [if_pos rfl, if_pos g]; rfl
   rw [e, eb, if_neg (by decide)];exact Ev.neg (by decide) (Ev.now _)
  ·have e : whenE (decide ((L.length : Int) > 64)) 5 = 0 := by unfold whenE; rw [if_neg (by rw [decide_eq_true_eq]; omega)]
   have eb : billE 0 a T L = firstE [firstE (L.map (lnE T)), rangeE a 0 100] := by unfold billE lnsE; rw [if_pos rfl, if_neg g]
   rw [e, eb];refine Ev.pos rfl ((lineErrs_ev T (by omega) L hL).bind ((hang_first_ev _ (by simp; omega)).bind (Ev.eqb (allow_eq ..) ((hang_first_ev _ (by simp)).bind ?_))));by_cases q : firstE [firstE (L.map (lnE T)), rangeE a 0 100] = 0
   ·refine Ev.pos q ?_;rw [if_pos q];have ok : billOk (L.map cLn) = true := by
     unfold billOk
     simp only [Bool.and_eq_true, List.all_eq_true, decide_eq_true_eq, List.length_map];refine ⟨fun s hs2 => ?_, by omega⟩;obtain ⟨y, hy, rfl⟩ := List.mem_map.1 hs2;exact hs' y hy
    refine Ev.pos ok ((sums_ev a L T hT hs).bind ?_);obtain ⟨b, b1, b2⟩ := big_loop (T.map (sumOf a L)) (by omega) (T.map (sumOf a L)).length 0 (by omega);have b1' : Ev (fun k => hang_big.f k (T.map (sumOf a L))) b := b1;refine b1'.bind ?_;unfold billR
    by_cases z : 0 ≤ b
    ·refine Ev.pos z ?_;obtain ⟨s, hs2, hb⟩ := b2.1 z;rw [List.drop_zero] at hs2;obtain ⟨x, hx, rfl⟩ := List.mem_map.1 hs2;rw [if_neg (fun c => by
      have := List.all_eq_true.1 c x hx;rw [hb] at this; cases this)]
     exact Ev.now _
    ·refine Ev.neg z ?_;rw [if_pos (List.all_eq_true.2 fun x hx => by
      cases hb : bigB (sumOf a L x)
      ·rfl
      ·exact absurd (b2.2 ⟨_, by rw [List.drop_zero]; exact List.mem_map_of_mem hx, hb⟩) z)]
     exact Ev.now _
   ·refine Ev.neg q ?_;rw [if_neg q]; exact Ev.now _
 ·have eb : billE r a T L = r := by unfold billE; rw [if_neg h]
  rw [if_neg h, eb, if_neg h];exact Ev.neg h (Ev.now _)
def c107 (s : S106) : S107 := ⟨s.f0, s.f1, s.f2⟩
theorem billM_step (a : Int) (L : List S119) (x : S121) {j : Nat} (h : j < L.length) : lenOf a (L.take (j + 1)) x = if L[j].f3.toList = x.f0.toList then wrap64 (lenOf a (L.take j) x + lineLen a (cLn L[j])) else lenOf a (L.take j) x := by
 unfold lenOf
 rw [List.take_succ_eq_append_getElem h, List.map_append, List.map_cons, List.map_nil, billM_snoc]
 have e : (cLn L[j]).f3 = L[j].f3 := rfl
 rw [ByteArray.toList_eq, ByteArray.toList_eq]
 dsimp only
 rw [e]
 by_cases g : L[j].f3.data.toList = x.f0.data.toList
 ·rw [if_pos g.symm, if_pos g, g]
 ·rw [if_neg (show ¬ (x.f0.data.toList = L[j].f3.data.toList) from fun c => g c.symm), if_neg g]
theorem ref_Bill_loop (T : List S121) (L : List S119) (a : Int) (hT : T.length ≤ 33) (hL : L.length ≤ 65) : ∀ (d i : Nat), i + d = T.length →
  Ev (fun k => cr6_Bill.l0 k T L a ((T.take i).map fun x => c107 (sumOf a L x)) (i : Int)) (if (T.drop i).all (fun x => !(bigB (sumOf a L x))) then (T.map fun x => c107 (sumOf a L x), 0) else ([], 4)) := by
 intro d
 induction d with
 | zero =>
  intro i hi;have e : T.take i = T := List.take_of_length_le (by omega);rw [e, List.drop_eq_nil_of_le (by omega)];exact Ev.step (fun _ => rfl) (Ev.neg (by omega) (Ev.now _))
 | succ d ih =>
  intro i hi;have hil : i < T.length := by omega
  have e : T.drop i = T[i] :: T.drop (i + 1) := List.drop_eq_getElem_cons hil;rw [e, List.all_cons];refine Ev.step (fun _ => rfl) (Ev.pos (by omega) ?_);have inner : ∀ (n j : Nat), j + n = L.length → Ev (fun k => cr6_Bill.l1 k T L a ((T.take i).map fun x => c107 (sumOf a L x)) (i : Int) (j : Int) (lenOf a (L.take j) T[i]) 0 0) (if (!(bigB (sumOf a L T[i])) && (T.drop (i + 1)).all (fun x => !(bigB (sumOf a L x)))) = true then (T.map fun x => c107 (sumOf a L x), 0) else ([], 4)) := by
   intro n;induction n with
   | zero =>
    intro j hj;have ej : L.take j = L := List.take_of_length_le (by omega);rw [ej];refine Ev.step (fun _ => rfl) (Ev.neg (by omega) (Ev.pos (by omega) (Ev.pos (by omega) ?_)));rw [rd121 hil, wrap_id (x := (i : Int) + 1) (by omega) (by omega)];have hb : bigB (sumOf a L T[i]) = decide (lenOf a L T[i] > 999999999 ∨ wrap64 (Int.tdiv (wrap64 (lenOf a L T[i] * T[i].f1)) 1000) > 999999999 ∨ wrap64 (lenOf a L T[i] * T[i].f2) > 999999999) := rfl;by_cases g1 : lenOf a L T[i] > 999999999
    ·refine Ev.pos g1 ?_;rw [decide_eq_true (Or.inl g1)] at hb;rw [hb, Bool.not_true, Bool.false_and, if_neg (by decide)]; exact Ev.now _
    refine Ev.neg g1 ?_;by_cases g2 : wrap64 (Int.tdiv (wrap64 (lenOf a L T[i] * T[i].f1)) 1000) > 999999999
    ·refine Ev.pos g2 ?_;rw [decide_eq_true (Or.inr (Or.inl g2))] at hb;rw [hb, Bool.not_true, Bool.false_and, if_neg (by decide)]; exact Ev.now _
    refine Ev.neg g2 ?_;by_cases g3 : wrap64 (lenOf a L T[i] * T[i].f2) > 999999999
    ·refine Ev.pos g3 ?_;rw [decide_eq_true (Or.inr (Or.inr g3))] at hb;rw [hb, Bool.not_true, Bool.false_and, if_neg (by decide)]; exact Ev.now _
    refine Ev.neg g3 (Ev.pos (by simp; omega) ?_);rw [decide_eq_false (by rintro (c | c | c) <;> contradiction)] at hb;rw [hb, Bool.not_false, Bool.true_and];have ea : (T.take i).map (fun x => c107 (sumOf a L x)) ++ [(⟨lenOf a L T[i], wrap64 (Int.tdiv (wrap64 (lenOf a L T[i] * T[i].f1)) 1000), wrap64 (lenOf a L T[i] * T[i].f2)⟩ : S107)] = (T.take (i + 1)).map (fun x => c107 (sumOf a L x)) := by
     rw [List.take_succ_eq_append_getElem hil, List.map_append]; rfl
    rw [ea];exact ih (i + 1) (by omega)
   | succ n ihn =>
    intro j hj;have hjl : j < L.length := by omega
    have s := billM_step a L T[i] hjl;refine Ev.step (fun _ => rfl) (Ev.pos (by omega) (Ev.pos (by omega) (Ev.pos (by omega) (Ev.pos (by omega) ?_))));rw [rd121 hil, rd119 hjl, wrap_id (x := (j : Int) + 1) (by omega) (by omega)];have nx := ihn (j + 1) (by omega);by_cases g : L[j].f3.toList = T[i].f0.toList
    ·rw [if_pos g] at s;rw [s] at nx;exact Ev.pos g (Ev.eqb (a := lineLen a (cLn L[j])) rfl nx)
    ·rw [if_neg g] at s;rw [s] at nx;exact Ev.neg g nx
  have st := inner L.length 0 (by omega);have z : lenOf a (L.take 0) T[i] = 0 := rfl;rw [z] at st;exact st
theorem ref_Bill_ev (T : List S121) (L : List S119) (a : Int) (hT : T.length ≤ 33) (hL : L.length ≤ 65) : Ev (fun k => cr6_Bill.f k T L a) ((billR a T L).1.map c107, (billR a T L).2) := by
 have := ref_Bill_loop T L a hT hL T.length 0 (by omega)
 rw [List.drop_zero] at this
 have e : (if T.all (fun x => !(bigB (sumOf a L x))) = true then ((T.map fun x => c107 (sumOf a L x)), (0 : Int)) else ([], 4)) = ((billR a T L).1.map c107, (billR a T L).2) := by
  unfold billR; split <;> simp [List.map_map, Function.comp_def]
 rw [e] at this
 exact this
theorem sameSums_loop (l : List S107) (hl : l.length ≤ 9223372036854775807) : ∀ (d i : Nat), i + d = l.length → Ev (fun k => cr6_SameSums.l0 k l l (i : Int)) true := by
 intro d
 induction d with
 | zero => intro i hi; exact Ev.step (fun _ => rfl) (Ev.neg (by omega) (Ev.now _))
 | succ d ih =>
  intro i hi;refine Ev.step (fun _ => rfl) (Ev.pos (by omega) (Ev.pos (by omega) (Ev.pos (by omega) (Ev.neg (by simp) ?_))));rw [wrap_id (x := (i : Int) + 1) (by omega) (by omega)];exact ih (i + 1) (by omega)
theorem sameSums_ev (l : List S107) (hl : l.length ≤ 9223372036854775807) : Ev (fun k => cr6_SameSums.f k l l) true := Ev.pos rfl (sameSums_loop l hl l.length 0 (by omega))
end Go.Proofs.YtppighiaffppkaaDoor.H
end
section
namespace Go.Proofs.YtppighiaffppkaaDoor.Pure
open Go.RowKit H R Go.Proofs.YtppighiaffppkaaDoorW.PrintWords Go.Proofs.YtppighiaffppkaaDoorW.PrintLast Go.Proofs.YtppighiaffppkaaDoorW.PrintMore
set_option linter.unusedSimpArgs false
set_option linter.unusedVariables false
theorem have_loop (x8 x9 : Int) (e : x8 = x9) (S : List S106) (hS : S.length ≤ 33) : ∀ (d i : Nat), i + d = S.length → Ev (fun k => cl6_HangBills.l0 k x8 x9 (S.map c107) ((S.take i).map c107) S (S.length : Int) (i : Int)) true := by
 intro d
 induction d with
 | zero =>
  intro i hi;have et : S.take i = S := List.take_of_length_le (by omega);rw [et];exact Ev.step (fun _ => rfl) (Ev.neg (by omega) ((sameSums_ev _ (by simp; omega)).bind (Ev.pos rfl (Ev.pos e (Ev.now true)))))
 | succ d ih =>
  intro i hi;have hil : i < S.length := by omega
  refine Ev.step (fun _ => rfl) (Ev.pos (by omega) (Ev.pos (by omega) (Ev.pos (by omega) (Ev.pos (by simp; omega) ?_))));rw [rd106 hil, wrap_id (x := (i : Int) + 1) (by omega) (by omega)];have ea : (S.take i).map c107 ++ [(⟨S[i].f0, S[i].f1, S[i].f2⟩ : S107)] = (S.take (i + 1)).map c107 := by
   rw [List.take_succ_eq_append_getElem hil, List.map_append]; rfl
  rw [ea];exact ih (i + 1) (by omega)
theorem billR_len (a : Int) (T : List S121) (L : List S119) : (billR a T L).1.length ≤ T.length := by
 unfold billR; split <;> simp
theorem pure_HangBills (T : List S121) (L : List S119) (a : Int) (hc : T.length ≤ maxLen) (hs : ∀ x ∈ T, okS x.f0 ∧ okI x.f1 ∧ okI x.f2) (hc' : L.length ≤ maxLen) (hs' : ∀ y ∈ L, okI y.f0 ∧ okI y.f1 ∧ okI y.f2 ∧ okS y.f3) (_ : okI a) : ∃ k, cl6_HangBills.f k T L a = some true := by
 refine Ev.rounds (g := fun k => cl6_HangBills.f k T L a) ?_
 unfold cl6_HangBills.f
 have skip : Ev (fun k => cl6_HangBills.j0 k T L a true) true := Ev.step (fun _ => rfl) (Ev.pos (c := true = true) (f := fun _ => Option.some true) rfl (Ev.now true))
 obtain ⟨b, hb, hb'⟩ := ShortTwines_ev T (by unfold maxLen at hc; omega)
 refine hb.bind ?_
 cases b with
 | false => exact Ev.neg (by decide) skip
 | true =>
  have hT := hb' rfl;obtain ⟨c, hd, hd'⟩ := ShortLines_ev L (by unfold maxLen at hc'; omega);refine Ev.pos rfl (hd.bind ?_);cases c with
  | false => exact skip
  | true =>
   have hL := hd' rfl;obtain ⟨r, c1, c2, c3⟩ := checkTwines_ev T hT (fun x hx => (hs x hx).1);have hm : ∀ x ∈ T, x.f0.size ≤ maxLen := fun x hx => by have := (hs x hx).1; unfold okS at this; unfold maxLen; omega
   have hm' : ∀ y ∈ L, y.f3.size ≤ maxLen := fun y hy => by have := (hs' y hy).2.2.2; unfold okS at this; unfold maxLen; omega
   have B := hang_Bill_ev T L a r hT hL hm hm' c1;have tail : ∀ e : Int, e = billE r a T L → Ev (fun k => cl6_HangBills.j1 k T L a (if billE r a T L = 0 then billR a T L else ([], billE r a T L)).1 (if billE r a T L = 0 then billR a T L else ([], billE r a T L)).2 e) true := by
    rintro _ rfl;refine Ev.step (fun _ => rfl) ?_;by_cases h : billE r a T L = 0
    ·simp only [if_pos h];refine Ev.pos h ((ref_Bill_ev T L a hT hL).bind (Ev.step (fun _ => rfl) ?_));have l := billR_len a T L;exact have_loop _ _ rfl (billR a T L).1 (by omega) (billR a T L).1.length 0 (by omega)
    ·simp only [if_neg h];refine Ev.neg h (Ev.step (fun _ => rfl) ?_);exact have_loop _ _ rfl [] (by simp) 0 0 (by simp)
   refine Ev.step (fun _ => rfl) (Ev.neg (c := (!true) = true) (g := fun _ => Option.some true) (by decide) ((twines_ev T hT).bind ((lines_ev L hL).bind (B.bind (c2.bind ?_)))));by_cases h : r = 0
   ·refine Ev.pos h ((ref_CheckLines_ev T (by omega) L hL).bind (Ev.eqb (ref_CheckRange_eq ..) ((ref_First_ev _ (by simp)).bind (tail _ ?_))));unfold billE; rw [if_pos h]
   ·refine Ev.neg h (tail _ ?_);unfold billE; rw [if_neg h]
end Go.Proofs.YtppighiaffppkaaDoor.Pure
end
section
namespace Go.Proofs.YtppighiaffppkaaDoor.hangBills
open Go.ChangeShapes Go.WideShapes Go.ChangeAt Go.RowKit Go.Proofs.YtppighiaffppkaaDoor.R
set_option linter.unusedVariables false
set_option maxRecDepth 100000 in
theorem lifted (os : Os) (started : os.Started) (Hd : Type) (enc : TypeId × Value → Hd) :
  ReturnsInHanded {} Tryd.checked os 9 .any (fun w args => (Rows.hangBillsSpec.pre enc Tryd.prog Tryd.f9 [] false w args ∧ laidMetH Tryd.prog laid w) ∧ sizedMet enc Tryd.prog Tryd.f9 (OpenSpec.ofChange Rows.hangBillsSpec) false w args)
   (Rows.hangBillsSpec.post enc Tryd.prog Tryd.f9 false true false false) := by
 refine returnsInHanded_of_change_and (C := Tryd.checked) (X := fun w _ => laidMetH Tryd.prog laid w) (fun _ _ _ hh h => h.of_heap hh) own started (by kernel_rfl) Tryd.func9
  (ChangeSpec.witness_shaped (enc := enc) (C := Tryd.checked) (os := os) (X := fun w _ => laidMetH Tryd.prog laid w) false (World.doorLaid Tryd.prog 400 os) #[.slice none 0 0, .slice none 0 0, .int .i64 0] 8 rfl (World.shaped_of_RefB (by kernel_rfl) (by kernel_rfl)) (by kernel_rfl) (by kernel_rfl) (by kernel_rfl) (door_met os _)) ?_
 intro W base args ds gs before hval0 hW hcnd hsz0 hL _
 have hval : ∀ (j : Nat) t v, Tryd.f9.params[j]? = some t → args[j]? = some v → Value.okWide Tryd.prog W .any base t v := hval0
 have hW' := hW
 obtain ⟨p, q, hA0, hV, rfl, hfz, hnd⟩ := hW
 have hA : DataW.TrodAll enc Tryd.prog W 0 (fun _ => true) true Tryd.f9.params.toList args.toList ds p := hA0
 rw [Tryd.params9] at hA hval
 obtain ⟨v0, vs0, d0, ds0, p0, q0, hargs, rfl, rfl, h0, r0⟩ := trodAll_cons hA
 obtain ⟨v1, vs1, d1, ds1, p1, q1, rfl, rfl, rfl, h1, r1⟩ := trodAll_cons r0
 obtain ⟨v2, vs2, d2, ds2, p2, q2, rfl, rfl, rfl, h2, r2⟩ := trodAll_cons r1
 obtain ⟨rfl, rfl, rfl⟩ := trodAll_nil r2
 obtain rfl : args = #[v0, v1, v2] := by cases args; simp_all
 obtain ⟨rfl, rfl⟩ := trodVars_none hV
 have k0 := h0
 have lt0 : ∀ x ∈ p0, x.block < W.heap.size := by obtain ⟨m, hm⟩ := k0; exact DataW.trod_lt m _ _ _ hm
 obtain ⟨A0, c0, l0, rfl, cl0, cm0, K0, w0⟩ := arg78 (hval 0 78 v0 rfl rfl) h0
 have k1 := h1
 have lt1 : ∀ x ∈ p1, x.block < W.heap.size := by obtain ⟨m, hm⟩ := k1; exact DataW.trod_lt m _ _ _ hm
 obtain ⟨A1, c1, l1, rfl, cl1, cm1, K1, w1⟩ := arg94 (hval 1 94 v1 rfl rfl) h1
 have k2 := h2
 have lt2 : ∀ x ∈ p2, x.block < W.heap.size := by obtain ⟨m, hm⟩ := k2; exact DataW.trod_lt m _ _ _ hm
 obtain ⟨a2, rfl, w2⟩ : ∃ a : Int, v2 = .int .i64 a ∧ okI a := by
  obtain ⟨a, rfl, _, _, _⟩ := open_int Tryd.underlying3 (hval 2 3 v2 rfl rfl) h2;obtain ⟨fuel, hf⟩ := h2;obtain ⟨b, e, w⟩ := cs3 (cs := [.int .i64 a]) hf;cases e; exact ⟨a, rfl, w⟩
 have hG : H.GH W := gh_of_laid hL
 clear hA0 hval0 hsz0 hL hcnd
 obtain ⟨k, hk⟩ := Pure.pure_HangBills l0 l1 a2 (Nat.le_trans cl0 cm0) w0 (Nat.le_trans cl1 cm1) w1 w2
 refine (H.cl6_HangBills.calls k A0 c0 l0 A1 c1 l1 a2 true W hG K0 cl0 K1 cl1 hk).mono fun e W' ⟨he, bel⟩ => ?_
 subst he
 exact ⟨_, rfl, _, _, _, [], _, [], hW', trodAll_mk1 (shut_bool Tryd.underlying4 _), (trodAll_cons_mk (Below.trod laidOut (by kernel_rfl) (of_decide_eq_true (by kernel_rfl)) k0 bel lt0) (trodAll_cons_mk (Below.trod laidOut (by kernel_rfl) (of_decide_eq_true (by kernel_rfl)) k1 bel lt1) (trodAll_cons_mk (Below.trod laidOut (by kernel_rfl) (of_decide_eq_true (by kernel_rfl)) k2 bel lt2) trodAll_mk0))), rfl, bel.frame _, fun h => by cases h⟩
theorem over : Rows.hangBillsRow.holds Tryd.pinned (OpenSpec.ofChange Rows.hangBillsSpec) :=
 OpenClaim.holds_of_wide 9 Tryd.f9 rfl rfl rfl rfl rfl rfl rfl ⟨rfl, rfl, rfl, rfl, rfl⟩ rfl rfl rfl rfl rfl (by kernel_rfl) Tryd.func9 (by kernel_rfl)
  (of_decide_eq_true (by kernel_rfl)) (by unfold Func.isWrapper; first | (rw [if_pos (by decide +kernel)]; kernel_rfl) | (rw [if_neg (by decide +kernel)]; exact ⟨rfl, rfl⟩))
  (fun os started Hd enc _ => lifted os started Hd enc)
theorem fits : ∀ t : TypeId, t ∈ Tryd.f9.params → Tryd.prog.wantsStandIn t = false := by
 rw [Tryd.params9]
 intro t ht
 simp only [List.mem_toArray, List.mem_cons, List.not_mem_nil, or_false] at ht
 rcases ht with rfl | rfl | rfl
 ·exact (show Tryd.prog.wantsStandIn 78 = false by kernel_rfl)
 ·exact (show Tryd.prog.wantsStandIn 94 = false by kernel_rfl)
 ·exact (show Tryd.prog.wantsStandIn 3 = false by kernel_rfl)
theorem card : Rows.HangBillsCardSaid :=
 Claim7.holds_tied_plain_at .later [] [.data] true (true, "bb9c8a1f3b87a99a73053614bf73ec5a74d01f458fba8a9eee33de806b476934") false
  over (fun _ h => by cases h) (by kernel_rfl) (fun _ h => by cases h) hangBills_row_tie rfl ⟨rfl, rfl⟩ (by kernel_rfl) rfl
  (fun f fn hf hfn => by
   obtain rfl : f = 9 := Option.some.inj ((show Tryd.prog.funcNamed "codend/codendlaw06.HangBills" = some 9 by kernel_rfl).symm.trans hf) |>.symm
   obtain rfl : fn = Tryd.f9 := (Option.some.inj (Tryd.func9.symm.trans hfn)).symm;exact ⟨by kernel_rfl, fun j t ht => fits t (Array.mem_of_getElem? ht)⟩)
  (by kernel_rfl)
#print axioms card
end Go.Proofs.YtppighiaffppkaaDoor.hangBills
namespace Go.Proofs.YtppighiaffppkaaDoor
theorem hangBills_holds : Rows.HangBillsCardSaid := hangBills.card
end Go.Proofs.YtppighiaffppkaaDoor
end
