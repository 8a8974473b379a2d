/- What the statement HangSizes needs beyond the common part: walks of the functions that it calls, the plain law, the row and its card, part 2. Condition: the laid table hang.tens, as the card ties it. -/
import Derived.Test.YtppighiaffppkaaDoorRows
import Derived.Test.YtppighiaffppkaaDoorCards
import Derived.Test.YtppighiaffppkaaDoorTie
import Derived.WalkKit
import Derived.ProofKit
import Derived.OpenShut
import Derived.ShutString
import Derived.ChangeOld
import Derived.Below
import Derived.SizedLaws
import Derived.LaidMore
import Derived.Stop.Joined
import Derived.SevenTiedAt
import Derived.Test.YtppighiaffppkaaDoorZHangSizes1
section
namespace Go.Proofs.YtppighiaffppkaaDoor.Pure
open Go.RowKit H R Go.Proofs.YtppighiaffppkaaDoorW.PrintWords Go.Proofs.YtppighiaffppkaaDoorW.PrintLast Go.Proofs.YtppighiaffppkaaDoorW.PrintMore
theorem beq2s (a b : Int) : (a == a && (b == b)) = true := by simp
theorem tail_HangSizes (p q r b m x4 x9 v0 v1 u0 u1 : Int) (h1 : v0 = u0) (h2 : v1 = u1) (h3 : x4 = x9) (z0 z1 z2 z3 : Int) (hz : z0 = 0 ∧ z1 = 0 ∧ z2 = 0 ∧ z3 = 0) :
  Ev (fun k => cl6_HangSizes.j0 k x4 (ifOk (widE p q b m) (widI p q b m)).2.2 (ifOk (widE p q b m) (heiI p q b m)).2.2 x9 (widE p q b m) p q r b m v0 v1 (ifOk (widE p q b m) (widI p q b m)).1 (ifOk (widE p q b m) (widI p q b m)).2.1 (ifOk (widE p q b m) (heiI p q b m)).1 (ifOk (widE p q b m) (heiI p q b m)).2.1 u0 u1 z0 z1 z2 z3) true := by
 obtain ⟨rfl, rfl, rfl, rfl⟩ := hz
 subst h1 h2 h3
 refine Ev.step (fun _ => rfl) ?_
 unfold ifOk
 by_cases h : widE p q b m = 0
 ·simp only [if_pos h]
  refine Ev.pos h ((ref_Width_ev h).bind ((ref_Height_ev h).bind ?_))
  exact Ev.pos (beq2s _ _) (Ev.pos rfl (Ev.pos (beq2s _ _) (Ev.pos h.symm (Ev.pos (beq2s _ _) (Ev.pos h.symm (Ev.now true))))))
 ·simp only [if_neg h]
  refine Ev.neg h ?_
  exact Ev.pos (beq2s _ _) (Ev.pos rfl (Ev.pos (beq2s _ _) (Ev.pos rfl (Ev.pos (beq2s _ _) (Ev.pos rfl (Ev.now true))))))
theorem pure_HangSizes (p q r b m : Int) (_ : okI p) (_ : okI q) (_ : okI r) (_ : okI b) (_ : okI m) : ∃ k, cl6_HangSizes.f k p q r b m = some true := by
 refine Ev.rounds (g := fun k => cl6_HangSizes.f k p q r b m) ?_
 unfold cl6_HangSizes.f
 refine (hang_Hanging_ev r b m).bind ((hang_Width_ev p q b m).bind ((hang_Height_ev p q b m).bind (Ev.eqb (ref_CheckRange_eq ..) ((ref_CheckNetting_ev b m).bind ((ref_First_ev _ (by simp)).bind ((ref_CheckRatio_ev p q).bind ((ref_CheckNetting_ev b m).bind ((ref_First_ev _ (by simp)).bind ?_))))))))
 have e1 : firstE [rangeE r 1 60000, firstE [rangeE b 1 100, rangeE m 1 300]] = hangE r b m := rfl
 have e2 : firstE [checkR p q, firstE [rangeE b 1 100, rangeE m 1 300]] = widE p q b m := rfl
 rw [e1, e2]
 by_cases h : hangE r b m = 0
 ·rw [if_pos h]
  exact Ev.pos h ((ref_Hanging_ev h).bind (tail_HangSizes _ _ _ _ _ _ _ _ _ _ _ rfl rfl rfl _ _ _ _ ⟨rfl, rfl, rfl, rfl⟩))
 ·rw [if_neg h]
  exact Ev.neg h (tail_HangSizes _ _ _ _ _ _ _ _ _ _ _ rfl rfl rfl _ _ _ _ ⟨rfl, rfl, rfl, rfl⟩)
end Go.Proofs.YtppighiaffppkaaDoor.Pure
end
section
namespace Go.Proofs.YtppighiaffppkaaDoor.hangSizes
open Go.ChangeShapes Go.WideShapes Go.ChangeAt Go.RowKit Go.Proofs.YtppighiaffppkaaDoor.R
set_option linter.unusedVariables false
set_option maxRecDepth 100000 in
theorem lifted (os : Os) (started : os.Started) (Hd : Type) (enc : TypeId × Value → Hd) :
  ReturnsInHanded {} Tryd.checked os 4 .any (fun w args => (Rows.hangSizesSpec.pre enc Tryd.prog Tryd.f4 [] false w args ∧ laidMetH Tryd.prog laid w) ∧ sizedMet enc Tryd.prog Tryd.f4 (OpenSpec.ofChange Rows.hangSizesSpec) false w args)
   (Rows.hangSizesSpec.post enc Tryd.prog Tryd.f4 false true false false) := by
 refine returnsInHanded_of_change_and (C := Tryd.checked) (X := fun w _ => laidMetH Tryd.prog laid w) (fun _ _ _ hh h => h.of_heap hh) own started (by kernel_rfl) Tryd.func4
  (ChangeSpec.witness_shaped (enc := enc) (C := Tryd.checked) (os := os) (X := fun w _ => laidMetH Tryd.prog laid w) false (World.doorLaid Tryd.prog 400 os) #[.agg #[.int .i64 0, .int .i64 0, .int .i64 0, .int .i64 0, .int .i64 0]] 8 rfl (World.shaped_of_RefB (by kernel_rfl) (by kernel_rfl)) (by kernel_rfl) (by kernel_rfl) (by kernel_rfl) (door_met os _)) ?_
 intro W base args ds gs before hval0 hW hcnd hsz0 hL _
 have hval : ∀ (j : Nat) t v, Tryd.f4.params[j]? = some t → args[j]? = some v → Value.okWide Tryd.prog W .any base t v := hval0
 have hW' := hW
 obtain ⟨p, q, hA0, hV, rfl, hfz, hnd⟩ := hW
 have hA : DataW.TrodAll enc Tryd.prog W 0 (fun _ => true) true Tryd.f4.params.toList args.toList ds p := hA0
 rw [Tryd.params4] at hA hval
 obtain ⟨v0, vs0, d0, ds0, p0, q0, hargs, rfl, rfl, h0, r0⟩ := trodAll_cons hA
 obtain ⟨rfl, rfl, rfl⟩ := trodAll_nil r0
 obtain rfl : args = #[v0] := by cases args; simp_all
 obtain ⟨rfl, rfl⟩ := trodVars_none hV
 have k0 := h0
 have lt0 : ∀ x ∈ p0, x.block < W.heap.size := by obtain ⟨m, hm⟩ := k0; exact DataW.trod_lt m _ _ _ hm
 obtain ⟨a0_0, a0_1, a0_2, a0_3, a0_4, rfl, w0_0, w0_1, w0_2, w0_3, w0_4⟩ := arg37 (hval 0 37 v0 rfl rfl) h0
 have hG : H.GH W := gh_of_laid hL
 clear hA0 hval0 hsz0 hL hcnd
 obtain ⟨k, hk⟩ := Pure.pure_HangSizes a0_0 a0_1 a0_2 a0_3 a0_4 w0_0 w0_1 w0_2 w0_3 w0_4
 refine (H.cl6_HangSizes.calls k a0_0 a0_1 a0_2 a0_3 a0_4 true W hG  hk).mono fun e W' ⟨he, bel⟩ => ?_
 subst he
 exact ⟨_, rfl, _, _, _, [], _, [], hW', trodAll_mk1 (shut_bool Tryd.underlying4 _), (trodAll_cons_mk (Below.trod laidOut (by kernel_rfl) (of_decide_eq_true (by kernel_rfl)) k0 bel lt0) trodAll_mk0), rfl, bel.frame _, fun h => by cases h⟩
theorem over : Rows.hangSizesRow.holds Tryd.pinned (OpenSpec.ofChange Rows.hangSizesSpec) :=
 OpenClaim.holds_of_wide 4 Tryd.f4 rfl rfl rfl rfl rfl rfl rfl ⟨rfl, rfl, rfl, rfl, rfl⟩ rfl rfl rfl rfl rfl (by kernel_rfl) Tryd.func4 (by kernel_rfl)
  (of_decide_eq_true (by kernel_rfl)) (by unfold Func.isWrapper; first | (rw [if_pos (by decide +kernel)]; kernel_rfl) | (rw [if_neg (by decide +kernel)]; exact ⟨rfl, rfl⟩))
  (fun os started Hd enc _ => lifted os started Hd enc)
theorem fits : ∀ t : TypeId, t ∈ Tryd.f4.params → Tryd.prog.wantsStandIn t = false := by
 rw [Tryd.params4]
 intro t ht
 simp only [List.mem_toArray, List.mem_cons, List.not_mem_nil, or_false] at ht
 subst ht
 ·exact (show Tryd.prog.wantsStandIn 37 = false by kernel_rfl)
theorem card : Rows.HangSizesCardSaid :=
 Claim7.holds_tied_plain_at .later [] [.data] true (true, "bb9c8a1f3b87a99a73053614bf73ec5a74d01f458fba8a9eee33de806b476934") false
  over (fun _ h => by cases h) (by kernel_rfl) (fun _ h => by cases h) hangSizes_row_tie rfl ⟨rfl, rfl⟩ (by kernel_rfl) rfl
  (fun f fn hf hfn => by
   obtain rfl : f = 4 := Option.some.inj ((show Tryd.prog.funcNamed "codend/codendlaw06.HangSizes" = some 4 by kernel_rfl).symm.trans hf) |>.symm
   obtain rfl : fn = Tryd.f4 := (Option.some.inj (Tryd.func4.symm.trans hfn)).symm
   exact ⟨by kernel_rfl, fun j t ht => fits t (Array.mem_of_getElem? ht)⟩)
  (by kernel_rfl)
#print axioms card
end Go.Proofs.YtppighiaffppkaaDoor.hangSizes
namespace Go.Proofs.YtppighiaffppkaaDoor
theorem hangSizes_holds : Rows.HangSizesCardSaid := hangSizes.card
end Go.Proofs.YtppighiaffppkaaDoor
end
