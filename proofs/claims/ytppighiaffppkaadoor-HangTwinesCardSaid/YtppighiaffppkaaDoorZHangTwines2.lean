/- What the statement HangTwines needs beyond the common part: walks of the functions that it calls, the plain law, the row and its card, part 2. Condition: the laid table hang.tens, as the card ties it. -/
import Derived.Test.YtppighiaffppkaaDoorRows
import Derived.Test.YtppighiaffppkaaDoorCards
import Derived.Test.YtppighiaffppkaaDoorTie
import Derived.WalkKit
import Derived.ProofKit
import Derived.OpenShut
import Derived.ShutString
import Derived.ChangeOld
import Derived.Below
import Derived.SizedLaws
import Derived.LaidMore
import Derived.Stop.Joined
import Derived.SevenTiedAt
import Derived.Test.YtppighiaffppkaaDoorZHangTwines1
section
namespace Go.Proofs.YtppighiaffppkaaDoor.H
open Go.RowKit Go.Proofs.YtppighiaffppkaaDoorW.PrintWords Go.Proofs.YtppighiaffppkaaDoorW.PrintLast Go.Proofs.YtppighiaffppkaaDoorW.PrintMore
set_option linter.unusedSimpArgs false
set_option linter.unusedVariables false
theorem getD_nat {α : Type} (l : List α) (z : α) {i : Nat} (h : i < l.length) : l.getD ((i : Int).toNat) z = l[i] := by
 simp [List.getD_eq_getElem?_getD, h]
theorem rd121 {l : List S121} {i : Nat} (h : i < l.length) : rd_T121 l (i : Int) = l[i] := getD_nat l z121 h
theorem rd132 {l : List S132} {i : Nat} (h : i < l.length) : rd_T132 l (i : Int) = l[i] := getD_nat l z132 h
def cTw (x : S121) : S132 := ⟨x.f0, x.f1, x.f2⟩
theorem ShortTwines_loop (l : List S121) (hl : l.length ≤ 9223372036854775807) : ∀ (d i : Nat), i + d = l.length → ∃ b, Ev (fun k => cr6_ShortTwines.l0 k l (i : Int)) b := by
 intro d
 induction d with
 | zero => intro i hi; exact ⟨true, Ev.step (fun _ => rfl) (Ev.neg (by omega) (Ev.now _))⟩
 | succ d ih =>
  intro i hi
  by_cases h : ((rd_T121 l (i : Int)).f0.size : Int) > 40
  ·exact ⟨false, Ev.step (fun _ => rfl) (Ev.pos (by omega) (Ev.pos (by omega) (Ev.pos h (Ev.now _))))⟩
  ·obtain ⟨b, hb⟩ := ih (i + 1) (by omega)
   refine ⟨b, Ev.step (fun _ => rfl) (Ev.pos (by omega) (Ev.pos (by omega) (Ev.neg h ?_)))⟩
   rw [wrap_id (x := (i : Int) + 1) (by omega) (by omega)]
   exact hb
theorem ShortTwines_ev (l : List S121) (hl : l.length ≤ 9223372036854775807) : ∃ b, Ev (fun k => cr6_ShortTwines.f k l) b ∧ (b = true → l.length ≤ 33) := by
 obtain ⟨b, hb⟩ := ShortTwines_loop l hl l.length 0 (by omega)
 by_cases h : (l.length : Int) > 6
 ·by_cases g : ((l.length : Int) != 33) = true
  ·exact ⟨false, Ev.pos h (Ev.step (fun _ => rfl) (Ev.pos g (Ev.now _))), fun e => by cases e⟩
  ·refine ⟨b, Ev.pos h (Ev.step (fun _ => rfl) (Ev.neg g hb)), fun _ => ?_⟩
   simp at g; omega
 ·exact ⟨b, Ev.neg h (Ev.step (fun _ => rfl) (Ev.neg (c := false = true) (g := fun _ => Option.some false) (by decide) hb)), fun _ => by omega⟩
theorem twines_loop (l : List S121) (hl : l.length ≤ 33) : ∀ (d i : Nat), i + d = l.length → Ev (fun k => cl6_twines.l0 k ((l.take i).map cTw) l (l.length : Int) (i : Int)) (l.map cTw) := by
 intro d
 induction d with
 | zero =>
  intro i hi
  have e : l.take i = l := List.take_of_length_le (by omega)
  rw [e]
  exact Ev.step (fun _ => rfl) (Ev.neg (by omega) (Ev.now _))
 | succ d ih =>
  intro i hi
  refine Ev.step (fun _ => rfl) (Ev.pos (by omega) (Ev.pos (by omega) (Ev.pos (by omega) (Ev.pos (by simp; omega) ?_))))
  rw [wrap_id (x := (i : Int) + 1) (by omega) (by omega), rd121 (by omega)]
  have e : (l.take i).map cTw ++ [(⟨(l[i]'(by omega)).f0, (l[i]'(by omega)).f1, (l[i]'(by omega)).f2⟩ : S132)] = (l.take (i + 1)).map cTw := by
   rw [List.take_succ_eq_append_getElem (by omega), List.map_append]; rfl
  rw [e]
  exact ih (i + 1) (by omega)
theorem twines_ev (l : List S121) (hl : l.length ≤ 33) : Ev (fun k => cl6_twines.f k l) (l.map cTw) := twines_loop l hl l.length 0 (by omega)
def twIdx (s : ByteArray) : List S121 → Int → Int
 | [], _ => -1
 | x :: t, j => if x.f0.toList = s.toList then j else twIdx s t (j + 1)
theorem twineAt_loop (l : List S121) (s : ByteArray) (hl : l.length ≤ 9223372036854775807) : ∀ (d i : Nat), i + d = l.length → Ev (fun k => cr6_TwineAt.l0 k l s (i : Int)) (twIdx s (l.drop i) i) := by
 intro d
 induction d with
 | zero =>
  intro i hi
  rw [List.drop_eq_nil_of_le (by omega)]
  exact Ev.step (fun _ => rfl) (Ev.neg (by omega) (Ev.now _))
 | succ d ih =>
  intro i hi
  have e : l.drop i = l[i]'(by omega) :: l.drop (i + 1) := List.drop_eq_getElem_cons (by omega)
  rw [e]
  unfold twIdx
  by_cases h : (l[i]'(by omega)).f0.toList = s.toList
  ·rw [if_pos h]
   refine Ev.step (fun _ => rfl) (Ev.pos (by omega) (Ev.pos (by omega) (Ev.pos ?_ (Ev.now _))))
   rw [rd121 (by omega)]; exact h
  ·rw [if_neg h]
   refine Ev.step (fun _ => rfl) (Ev.pos (by omega) (Ev.pos (by omega) (Ev.neg ?_ ?_)))
   ·rw [rd121 (by omega)]; exact h
   ·rw [wrap_id (x := (i : Int) + 1) (by omega) (by omega)]
    exact ih (i + 1) (by omega)
theorem twineAt_ev (l : List S121) (s : ByteArray) (hl : l.length ≤ 9223372036854775807) : Ev (fun k => cr6_TwineAt.f k l s) (twIdx s l 0) := by
 have := twineAt_loop l s hl l.length 0 (by omega)
 simpa [cr6_TwineAt.f] using this
theorem index_loop (l : List S121) (s : ByteArray) (hl : l.length ≤ 9223372036854775807) : ∀ (d i : Nat), i + d = l.length →
  Ev (fun k => hang_Twine_110.l0 (fun x0 _ _ => some (x0.toList == s.toList)) k (l.map cTw) ((l.map cTw).length : Int) (i : Int)) (twIdx s (l.drop i) i) := by
 intro d
 have hm : (l.map cTw).length = l.length := by simp
 induction d with
 | zero =>
  intro i hi
  rw [List.drop_eq_nil_of_le (by omega)]
  exact Ev.step (fun _ => rfl) (Ev.neg (by omega) (Ev.now _))
 | succ d ih =>
  intro i hi
  have e : l.drop i = l[i]'(by omega) :: l.drop (i + 1) := List.drop_eq_getElem_cons (by omega)
  have r : rd_T132 (l.map cTw) (i : Int) = cTw (l[i]'(by omega)) := by rw [rd132 (by omega)]; simp
  rw [e]
  unfold twIdx
  by_cases h : (l[i]'(by omega)).f0.toList = s.toList
  ·rw [if_pos h]
   refine Ev.step (fun _ => rfl) (Ev.pos (by omega) (Ev.pos (by omega) (Ev.pos (by omega) (Ev.eqb (a := true) ?_ (Ev.pos rfl (Ev.now _))))))
   rw [r]; show some (((l[i]'(by omega)).f0.toList == s.toList)) = some true
   rw [h]; simp
  ·rw [if_neg h]
   refine Ev.step (fun _ => rfl) (Ev.pos (by omega) (Ev.pos (by omega) (Ev.pos (by omega) (Ev.eqb (a := false) ?_ (Ev.neg (by decide) ?_)))))
   ·rw [r]; show some (((l[i]'(by omega)).f0.toList == s.toList)) = some false
    rw [beq_false_of_ne h]
   ·rw [wrap_id (x := (i : Int) + 1) (by omega) (by omega)]
    exact ih (i + 1) (by omega)
theorem index_ev (l : List S121) (s : ByteArray) (hl : l.length ≤ 9223372036854775807) : Ev (fun k => hang_Twine_110.f (fun x0 _ _ => some (x0.toList == s.toList)) k (l.map cTw)) (twIdx s l 0) := by
 have := index_loop l s hl l.length 0 (by omega)
 simpa [hang_Twine_110.f] using this
theorem again_ev (l : List S121) (i : Nat) (s : ByteArray) (y1 y2 : Int) (hl : l.length ≤ 33) (hi : i ≤ l.length) : Ev (fun k => hang_again.f k (l.map cTw) (i : Int) s y1 y2) (decide (0 ≤ twIdx s (l.take i) 0)) := by
 unfold hang_again.f
 have e : (l.map cTw).take ((i : Int).toNat) = (l.take i).map cTw := by simp [List.map_take]
 rw [e]
 exact (index_ev (l.take i) s (by simp; omega)).bind (Ev.some rfl)
theorem nameByte (s : ByteArray) (i : Nat) (h : i < s.size) : bt s (i : Int) = ((s.data.toList.getD i 0).toNat : Int) := by
 rw [byte_at s i h, ← bt_at s (i : Int) (by omega)]
 rfl
theorem ref_IsName_loop (s : ByteArray) (hs : s.size ≤ 24) : ∀ (d i : Nat), i + d = s.size → Ev (fun k => cr1_IsName.l0 k s (i : Int)) ((List.range' i d).all fun j => okByte j (s.data.toList.getD j 0).toNat) := by
 intro d
 induction d with
 | zero => intro i hi; exact Ev.step (fun _ => rfl) (Ev.neg (by omega) (Ev.now _))
 | succ d ih =>
  intro i hi
  have hb := nameByte s i (by omega)
  have hw : wrap64 ((i : Int) + 1) = ((i + 1 : Nat) : Int) := by rw [wrap_id (by omega) (by omega)]; omega
  rw [List.range'_succ, List.all_cons]
  refine Ev.step (fun _ => rfl) (Ev.pos (by omega) (Ev.pos (by omega) ?_))
  rw [hb, hw]
  have hn := ih (i + 1) (by omega)
  generalize (s.data.toList.getD i 0).toNat = c at *
  have yes : okByte i c = true → Ev (fun k => cr1_IsName.l0 k s ((i + 1 : Nat) : Int)) (okByte i c && ((List.range' (i + 1) d).all fun j => okByte j (s.data.toList.getD j 0).toNat)) := by
   intro h; rw [h, Bool.true_and]; exact hn
  have no : okByte i c = false → Ev (fun _ : Nat => some false) (okByte i c && ((List.range' (i + 1) d).all fun j => okByte j (s.data.toList.getD j 0).toNat)) := by
   intro h; rw [h, Bool.false_and]; exact Ev.now _
  by_cases h1 : (c : Int) ≥ 97
  ·refine Ev.pos h1 ?_
   by_cases h2 : (c : Int) ≤ 122
   ·exact Ev.pos h2 (yes (by unfold okByte; simp; omega))
   refine Ev.neg h2 (Ev.pos (by omega) (Ev.neg (by omega) ?_))
   by_cases h3 : (i : Int) = 0
   ·exact Ev.pos h3 (no (by unfold okByte; simp; omega))
   refine Ev.neg h3 (Ev.neg (by omega) (Ev.neg (by omega) (Ev.pos (by omega) (no (by unfold okByte; simp; omega)))))
  ·refine Ev.neg h1 ?_
   by_cases h2 : (c : Int) ≥ 65
   ·refine Ev.pos h2 ?_
    by_cases h3 : (c : Int) ≤ 90
    ·exact Ev.pos h3 (yes (by unfold okByte; simp; omega))
    refine Ev.neg h3 ?_
    by_cases h4 : (i : Int) = 0
    ·exact Ev.pos h4 (no (by unfold okByte; simp; omega))
    refine Ev.neg h4 ?_
    by_cases h5 : (c : Int) = 95
    ·exact Ev.pos h5 (yes (by unfold okByte; simp; omega))
    exact Ev.neg h5 (Ev.neg (by omega) (Ev.pos (by omega) (no (by unfold okByte; simp; omega))))
   ·refine Ev.neg h2 ?_
    by_cases h4 : (i : Int) = 0
    ·exact Ev.pos h4 (no (by unfold okByte; simp; omega))
    refine Ev.neg h4 (Ev.neg (by omega) ?_)
    by_cases h5 : (c : Int) < 48
    ·exact Ev.pos h5 (no (by unfold okByte; simp; omega))
    refine Ev.neg h5 ?_
    by_cases h6 : (c : Int) > 57
    ·exact Ev.pos h6 (no (by unfold okByte; simp; omega))
    exact Ev.neg h6 (yes (by unfold okByte; simp; omega))
theorem ref_IsName_ev (s : ByteArray) (hs0 : s.size ≤ 9223372036854775807) : Ev (fun k => cr1_IsName.f k s) (isName s) := by
 unfold isName
 by_cases h : (s.size : Int) = 0
 ·have e : decide (s.size ≠ 0 ∧ s.size ≤ 24) = false := decide_eq_false (by omega)
  rw [e, Bool.false_and]
  exact Ev.pos h (Ev.step (fun _ => rfl) (Ev.pos (c := true = true) (f := fun k => cr1_IsName.l0 k s 0) rfl (Ev.now _)))
 ·by_cases g : (s.size : Int) > 24
  ·have e : decide (s.size ≠ 0 ∧ s.size ≤ 24) = false := decide_eq_false (by omega)
   rw [e, Bool.false_and]
   exact Ev.neg h (Ev.step (fun _ => rfl) (Ev.pos (by simpa using g) (Ev.now _)))
  ·have e : decide (s.size ≠ 0 ∧ s.size ≤ 24) = true := decide_eq_true (by omega)
   rw [e, Bool.true_and]
   refine Ev.neg h (Ev.step (fun _ => rfl) (Ev.neg (by simpa using g) ?_))
   have := ref_IsName_loop s (by omega) s.size 0 (by omega)
   unfold okAll
   rw [List.range_eq_range']
   exact this
def twE (l : List S121) (x : S121) : Int := firstE [whenE (!(isName x.f0)) 8, whenE (decide (0 ≤ twIdx x.f0 l 0)) 9, rangeE x.f1 1 100000, rangeE x.f2 1 100]
theorem twE_ok {l : List S121} {x : S121} (h : twE l x = 0) : isName x.f0 = true ∧ ¬ (0 ≤ twIdx x.f0 l 0) ∧ 1 ≤ x.f1 ∧ x.f1 ≤ 100000 ∧ 1 ≤ x.f2 ∧ x.f2 ≤ 100 := by
 unfold twE at h
 rw [firstE_four] at h
 obtain ⟨h1, h2⟩ := firstE_ok2 h
 obtain ⟨h3, h4⟩ := firstE_ok2 h1
 obtain ⟨h5, h6⟩ := firstE_ok2 h4
 have a := rangeE_ok h6
 have b := rangeE_ok h2
 unfold whenE at h3 h5
 refine ⟨?_, ?_, a.1, a.2, b.1, b.2⟩
 ·cases hn : isName x.f0
  ·rw [hn] at h3; simp at h3
  ·rfl
 ·intro hc
  rw [if_pos (by simpa using hc)] at h5
  omega
theorem checkTwines_loop (l : List S121) (hl : l.length ≤ 33) (hs : ∀ x ∈ l, x.f0.size ≤ 9223372036854775807) : ∀ (d i : Nat), i + d = l.length →
  ∃ r, Ev (fun k => hang_CheckTwines.l0 k (l.map cTw) (l.map cTw) ((l.map cTw).length : Int) (i : Int)) r ∧ Ev (fun k => cr6_CheckTwines.l0 k l (i : Int)) r ∧ (r = 0 → ∀ j, i ≤ j → (hj : j < l.length) → twE (l.take j) l[j] = 0) := by
 intro d
 have hm : (l.map cTw).length = l.length := by simp
 induction d with
 | zero =>
  intro i hi
  exact ⟨0, Ev.step (fun _ => rfl) (Ev.neg (by omega) (Ev.now _)), Ev.step (fun _ => rfl) (Ev.neg (by omega) (Ev.now _)), fun _ j h1 h2 => by omega⟩
 | succ d ih =>
  intro i hi
  have hil : i < l.length := by omega
  have r : rd_T132 (l.map cTw) (i : Int) = cTw l[i] := by rw [rd132 (by omega)]; simp
  have hw : wrap64 ((i : Int) + 1) = ((i + 1 : Nat) : Int) := by rw [wrap_id (by omega) (by omega)]; omega
  have hn := ref_IsName_ev l[i].f0 (hs _ (List.getElem_mem hil))
  have ha := again_ev l i l[i].f0 l[i].f1 l[i].f2 hl (by omega)
  have ht := twineAt_ev (l.take i) l[i].f0 (by simp; omega)
  obtain ⟨q, q1, q2, q3⟩ := ih (i + 1) (by omega)
  have hang : ∀ v : Int, (twE (l.take i) l[i] = 0 → v = q) → (twE (l.take i) l[i] ≠ 0 → v = twE (l.take i) l[i]) → Ev (fun k => hang_CheckTwines.l0 k (l.map cTw) (l.map cTw) ((l.map cTw).length : Int) (i : Int)) v := by
   intro v v0 v1
   refine Ev.step (fun _ => rfl) (Ev.pos (by omega) (Ev.pos (by omega) (Ev.pos (by omega) ?_)))
   rw [r]
   refine ha.bind (Ev.eqb (a := isName l[i].f0) rfl (Ev.eqb (hang_when_eq ..) (Ev.eqb (hang_when_eq ..) (Ev.eqb (hang_within_eq ..) (Ev.eqb (hang_within_eq ..) ((hang_first_ev _ (by simp)).bind ?_))))))
   by_cases h : twE (l.take i) l[i] = 0
   ·refine Ev.pos h ?_
    rw [hw, v0 h]; exact q1
   ·refine Ev.neg h ?_
    rw [v1 h]; exact Ev.now _
  have ref : ∀ v : Int, (twE (l.take i) l[i] = 0 → v = q) → (twE (l.take i) l[i] ≠ 0 → v = twE (l.take i) l[i]) → Ev (fun k => cr6_CheckTwines.l0 k l (i : Int)) v := by
   intro v v0 v1
   refine Ev.step (fun _ => rfl) (Ev.pos (by omega) (Ev.pos (by omega) ?_))
   rw [rd121 hil]
   refine hn.bind ?_
   unfold twE at v0 v1
   rw [firstE_four] at v0 v1
   have hT : ((i : Int)).toNat = i := by omega
   cases hN : isName l[i].f0 with
   | false =>
    rw [hN] at v1
    have e : whenE (!false) 8 = 8 := rfl
    rw [e] at v1
    refine Ev.neg (by decide) ?_
    have : v = 8 := by
     refine v1 ?_ |>.trans ?_
     ·simp [firstE]
     ·simp [firstE]
    rw [this]; exact Ev.now _
   | true =>
    rw [hN] at v0 v1
    have e : whenE (!true) 8 = 0 := rfl
    rw [e] at v0 v1
    refine Ev.pos rfl (Ev.pos (by omega) ?_)
    rw [hT]
    refine ht.bind ?_
    by_cases hA : twIdx l[i].f0 (l.take i) 0 ≥ 0
    ·rw [decide_eq_true hA] at v1
     have e2 : whenE true 9 = 9 := rfl
     rw [e2] at v1
     refine Ev.pos hA ?_
     have : v = 9 := by
      refine v1 ?_ |>.trans ?_
      ·simp [firstE]
      ·simp [firstE]
     rw [this]; exact Ev.now _
    ·rw [decide_eq_false (show ¬ (0 ≤ twIdx l[i].f0 (l.take i) 0) from hA)] at v0 v1
     have e2 : whenE false 9 = 0 := rfl
     rw [e2] at v0 v1
     have e3 : firstE [firstE [0, firstE [0, rangeE l[i].f1 1 100000]], rangeE l[i].f2 1 100] = firstE [rangeE l[i].f1 1 100000, rangeE l[i].f2 1 100] := by
      rw [firstE_two 0 (rangeE _ _ _), if_pos rfl, firstE_two 0 (rangeE _ _ _), if_pos rfl]
     rw [e3] at v0 v1
     refine Ev.neg hA (Ev.eqb (ref_CheckRange_eq ..) (Ev.eqb (ref_CheckRange_eq ..) ((ref_First_ev _ (by simp)).bind ?_)))
     by_cases h : firstE [rangeE l[i].f1 1 100000, rangeE l[i].f2 1 100] = 0
     ·refine Ev.pos h ?_
      rw [hw, v0 h]; exact q2
     ·refine Ev.neg h ?_
      rw [v1 h]; exact Ev.now _
  by_cases h : twE (l.take i) l[i] = 0
  ·refine ⟨q, hang q (fun _ => rfl) (fun c => absurd h c), ref q (fun _ => rfl) (fun c => absurd h c), fun h0 j h1 h2 => ?_⟩
   rcases (by omega : j = i ∨ i + 1 ≤ j) with rfl | h3
   ·exact h
   ·exact q3 h0 j h3 h2
  ·exact ⟨_, hang _ (fun c => absurd c h) (fun _ => rfl), ref _ (fun c => absurd c h) (fun _ => rfl), fun h0 => absurd h0 h⟩
theorem checkTwines_ev (l : List S121) (hl : l.length ≤ 33) (hs : ∀ x ∈ l, x.f0.size ≤ 9223372036854775807) :
  ∃ r, Ev (fun k => hang_CheckTwines.f k (l.map cTw)) r ∧ Ev (fun k => cr6_CheckTwines.f k l) r ∧ (r = 0 → l.length ≤ 32 ∧ ∀ j, (hj : j < l.length) → twE (l.take j) l[j] = 0) := by
 have hm : (l.map cTw).length = l.length := by simp
 by_cases h : (l.length : Int) > 32
 ·exact ⟨5, Ev.pos (by omega) (Ev.now _), Ev.pos h (Ev.now _), fun c => by omega⟩
 ·obtain ⟨r, h1, h2, h3⟩ := checkTwines_loop l hl hs l.length 0 (by omega)
  exact ⟨r, Ev.neg (by omega) h1, Ev.neg h h2, fun h0 => ⟨by omega, fun j hj => h3 h0 j (by omega) hj⟩⟩
end Go.Proofs.YtppighiaffppkaaDoor.H
end
section
namespace Go.Proofs.YtppighiaffppkaaDoor.Pure
open Go.RowKit H R Go.Proofs.YtppighiaffppkaaDoorW.PrintWords Go.Proofs.YtppighiaffppkaaDoorW.PrintLast Go.Proofs.YtppighiaffppkaaDoorW.PrintMore
set_option linter.unusedSimpArgs false
set_option linter.unusedVariables false
def farI (a t : Int) : Int := if a ≤ t then t - a else a - t
theorem far_ref {a t : Int} (h1 : 1 ≤ a) (h2 : a ≤ 100000) (h3 : 1 ≤ t) (h4 : t ≤ 100000) : cr6_far.f a t = some (farI a t) := by
 unfold cr6_far.f farI mx mn
 congr 1
 rw [wrap_id] <;> (repeat' split) <;> omega
theorem far_hang {a t : Int} (h1 : 1 ≤ a) (h2 : a ≤ 100000) (h3 : 1 ≤ t) (h4 : t ≤ 100000) : mx (wrap64 (a - t)) (wrap64 (t - a)) = farI a t := by
 rw [wrap_id (by omega) (by omega), wrap_id (by omega) (by omega)]
 unfold farI mx
 (repeat' split) <;> omega
theorem cmpT_eq (a b : Int) : cmp_Compare_int.f a b = some (if a < b then -1 else if a > b then 1 else 0) := by
 unfold cmp_Compare_int.f cmp_isNaN_int.f
 simp only [Option.bind_some]
 have e : ∀ x : Int, ¬ ((x != x) = true) := fun x h => by simp at h
 rw [if_neg (e a), if_neg (e b)]
 split
 ·rfl
 ·split <;> rfl
theorem or_loop (l : List Int) (hl : l.length < 1000) : ∀ (d i : Nat), i + d = l.length → Ev (fun k => cmp_Or_int.l0 k 0 l (l.length : Int) (i : Int)) (firstE (l.drop i)) := by
 intro d
 induction d with
 | zero =>
  intro i hi
  rw [List.drop_eq_nil_of_le (by omega)]
  exact Ev.step (fun _ => rfl) (Ev.neg (by omega) (Ev.now _))
 | succ d ih =>
  intro i hi
  have e : l.drop i = l[i]'(by omega) :: l.drop (i + 1) := List.drop_eq_getElem_cons (by omega)
  rw [e]
  unfold firstE
  have hr : rd l (i : Int) = l[i]'(by omega) := rd_drop (by omega)
  refine Ev.step (fun _ => rfl) (Ev.pos (by omega) (Ev.pos (by omega) (Ev.pos (by omega) ?_)))
  rw [hr]
  by_cases h : l[i]'(by omega) = 0
  ·refine Ev.pos h ?_
   rw [if_pos h, wrap_id (x := (i : Int) + 1) (by omega) (by omega)]
   exact ih (i + 1) (by omega)
  ·refine Ev.neg h ?_
   rw [if_neg h]; exact Ev.now _
theorem or_ev (l : List Int) (hl : l.length < 1000) : Ev (fun k => cmp_Or_int.f k l) (firstE l) := by
 have := or_loop l hl l.length 0 (by omega)
 simpa [cmp_Or_int.f] using this
theorem choice_ev (f1 t1 i1 f2 t2 i2 : Int) (hi : i2 < i1) : ∃ c, Ev (fun k => hang_choice_compare.f k f1 t1 i1 f2 t2 i2) c ∧ (c < 0 ↔ f1 < f2 ∨ f1 = f2 ∧ t1 < t2) := by
 have h : Ev (fun k => hang_choice_compare.f k f1 t1 i1 f2 t2 i2) (firstE [if f1 < f2 then -1 else if f1 > f2 then 1 else 0, if t1 < t2 then -1 else if t1 > t2 then 1 else 0, if i1 < i2 then -1 else if i1 > i2 then 1 else 0]) := by
  unfold hang_choice_compare.f
  refine Ev.eqb (cmpT_eq ..) (Ev.eqb (cmpT_eq ..) (Ev.eqb (cmpT_eq ..) ?_))
  first
  | exact or_ev _ (by simp)
  | exact (or_ev _ (by simp)).bind (Ev.some rfl)
 refine ⟨_, h, ?_⟩
 simp only [firstE]
 (repeat' split) <;> omega
def chOf (t : Int) (x : S121) (i : Nat) : S144 := ⟨farI x.f1 t, x.f1, (i : Int)⟩
def chL (t : Int) (l : List S121) : List S144 := l.mapIdx fun i x => chOf t x i
theorem chL_len (t : Int) (l : List S121) : (chL t l).length = l.length := by simp [chL]
theorem chL_get (t : Int) (l : List S121) {i : Nat} (h : i < l.length) : rd_T144 (chL t l) (i : Int) = chOf t l[i] i := by
 have : rd_T144 (chL t l) (i : Int) = (chL t l)[i]'(by rw [chL_len]; exact h) := getD_nat _ z144 _
 rw [this]; simp [chL]
section
variable (l : List S121) (t : Int) (hl : l.length ≤ 33) (ht1 : 1 ≤ t) (ht2 : t ≤ 100000) (hx : ∀ x ∈ l, 1 ≤ x.f1 ∧ x.f1 ≤ 100000)
include hl ht1 ht2 hx
theorem min_loop : ∀ (d i b : Nat), i + d = l.length → b < i → (hb : b < l.length) →
  ∃ (r : Nat) (q1 q2 : Int) (K : Nat), (∀ c k, K ≤ c → K ≤ k → hang_choice.l0 (fun x0 x1 x2 x3 x4 x5 => hang_choice_compare.f c x0 x1 x2 x3 x4 x5) k (chL t l) (i : Int) (farI l[b].f1 t) l[b].f1 (b : Int) = some (q1, q2, (r : Int))) ∧ Ev (fun k => cr6_Nearest.l0 k l t (b : Int) (i : Int)) ((r : Int), 0) := by
 intro d
 induction d with
 | zero =>
  intro i b hi hbi hb
  refine ⟨b, farI l[b].f1 t, l[b].f1, 1, fun c k hc hk => ?_, Ev.step (fun _ => rfl) (Ev.neg (by omega) (Ev.now _))⟩
  obtain ⟨k, rfl⟩ : ∃ m, k = m + 1 := ⟨k - 1, by omega⟩
  simp only [hang_choice.l0]
  rw [if_neg (by rw [chL_len]; omega)]
 | succ d ih =>
  intro i b hi hbi hb
  have hil : i < l.length := by omega
  have xi := hx _ (List.getElem_mem hil)
  have xb := hx _ (List.getElem_mem hb)
  obtain ⟨c0, hc0, hc1⟩ := choice_ev (farI l[i].f1 t) l[i].f1 (i : Int) (farI l[b].f1 t) l[b].f1 (b : Int) (by omega)
  obtain ⟨Kc, hKc⟩ := hc0
  have hw : wrap64 ((i : Int) + 1) = ((i + 1 : Nat) : Int) := by rw [wrap_id (by omega) (by omega)]; omega
  have refs : ∀ v : Int × Int, ((farI l[i].f1 t < farI l[b].f1 t ∨ farI l[i].f1 t = farI l[b].f1 t ∧ l[i].f1 < l[b].f1) → Ev (fun k => cr6_Nearest.l0 k l t (i : Int) ((i + 1 : Nat) : Int)) v) → (¬ (farI l[i].f1 t < farI l[b].f1 t ∨ farI l[i].f1 t = farI l[b].f1 t ∧ l[i].f1 < l[b].f1) → Ev (fun k => cr6_Nearest.l0 k l t (b : Int) ((i + 1 : Nat) : Int)) v) → Ev (fun k => cr6_Nearest.l0 k l t (b : Int) (i : Int)) v := by
   intro v y n
   refine Ev.step (fun _ => rfl) (Ev.pos (by omega) (Ev.pos (by omega) ?_))
   rw [rd121 hil, rd121 hb, hw]
   refine Ev.eqb (far_ref xi.1 xi.2 ht1 ht2) (Ev.pos (by omega) (Ev.pos (by omega) (Ev.eqb (far_ref xb.1 xb.2 ht1 ht2) ?_)))
   by_cases h1 : farI l[i].f1 t < farI l[b].f1 t
   ·exact Ev.pos h1 (y (Or.inl h1))
   ·refine Ev.neg h1 ?_
    by_cases h2 : farI l[i].f1 t = farI l[b].f1 t
    ·refine Ev.pos h2 ?_
     by_cases h3 : l[i].f1 < l[b].f1
     ·exact Ev.pos h3 (y (Or.inr ⟨h2, h3⟩))
     ·exact Ev.neg h3 (n (by rintro (h | h) <;> omega))
    ·exact Ev.neg h2 (n (by rintro (h | h) <;> omega))
  have step : ∀ (c k : Nat), Kc ≤ c → hang_choice.l0 (fun x0 x1 x2 x3 x4 x5 => hang_choice_compare.f c x0 x1 x2 x3 x4 x5) (k + 1) (chL t l) (i : Int) (farI l[b].f1 t) l[b].f1 (b : Int) =
    if c0 < 0 then hang_choice.l0 (fun x0 x1 x2 x3 x4 x5 => hang_choice_compare.f c x0 x1 x2 x3 x4 x5) k (chL t l) ((i + 1 : Nat) : Int) (farI l[i].f1 t) l[i].f1 (i : Int) else hang_choice.l0 (fun x0 x1 x2 x3 x4 x5 => hang_choice_compare.f c x0 x1 x2 x3 x4 x5) k (chL t l) ((i + 1 : Nat) : Int) (farI l[b].f1 t) l[b].f1 (b : Int) := by
   intro c k hc
   have e := hKc c hc
   have g := chL_get t l hil
   simp only [hang_choice.l0]
   rw [if_pos (by rw [chL_len]; omega), if_pos (by omega), g, hw]
   have e' : hang_choice_compare.f c (chOf t l[i] i).f0 (chOf t l[i] i).f1 (chOf t l[i] i).f2 (farI l[b].f1 t) l[b].f1 (b : Int) = some c0 := e
   rw [e']
   rfl
  by_cases hc : farI l[i].f1 t < farI l[b].f1 t ∨ farI l[i].f1 t = farI l[b].f1 t ∧ l[i].f1 < l[b].f1
  ·obtain ⟨r, q1, q2, K, h1, h2⟩ := ih (i + 1) i (by omega) (by omega) hil
   refine ⟨r, q1, q2, K + Kc + 1, fun c k hcc hk => ?_, refs _ (fun _ => h2) (fun n => absurd hc n)⟩
   obtain ⟨k, rfl⟩ : ∃ m, k = m + 1 := ⟨k - 1, by omega⟩
   rw [step c k (by omega), if_pos (hc1.2 hc)]
   exact h1 c k (by omega) (by omega)
  ·obtain ⟨r, q1, q2, K, h1, h2⟩ := ih (i + 1) b (by omega) (by omega) hb
   refine ⟨r, q1, q2, K + Kc + 1, fun c k hcc hk => ?_, refs _ (fun n => absurd n hc) (fun _ => h2)⟩
   obtain ⟨k, rfl⟩ : ∃ m, k = m + 1 := ⟨k - 1, by omega⟩
   rw [step c k (by omega), if_neg (fun n => hc (hc1.1 n))]
   exact h1 c k (by omega) (by omega)
theorem min_ev (h0 : 0 < l.length) : ∃ (r : Nat) (q1 q2 : Int), Ev (fun k => hang_minChoice.f k (chL t l)) (q1, q2, (r : Int)) ∧ Ev (fun k => cr6_Nearest.f k l t) ((r : Int), 0) := by
 obtain ⟨r, q1, q2, K, h1, h2⟩ := min_loop l t hl ht1 ht2 hx (l.length - 1) 1 0 (by omega) (by omega) h0
 refine ⟨r, q1, q2, ⟨K, fun k hk => ?_⟩, Ev.neg (by omega) h2⟩
 unfold hang_minChoice.f hang_choice.f
 dsimp only
 have hn := chL_len t l
 rw [if_neg (by omega), if_pos (by omega), show rd_T144 (chL t l) 0 = chOf t l[0] 0 from chL_get t l h0]
 exact h1 k k hk hk
theorem near_loop : ∀ (d i : Nat), i + d = l.length → ∀ v : Int × Int, Ev (fun k => (hang_minChoice.f k (chL t l)).bind fun bt => some (bt.2.2, (0 : Int))) v → Ev (fun k => hang_Nearest.l0 k t (chL t (l.take i)) (l.map cTw) ((l.map cTw).length : Int) (i : Int)) v := by
 have hm : (l.map cTw).length = l.length := by simp
 intro d
 induction d with
 | zero =>
  intro i hi v hv
  have e : l.take i = l := List.take_of_length_le (by omega)
  rw [e]
  exact Ev.step (fun _ => rfl) (Ev.neg (by omega) hv)
 | succ d ih =>
  intro i hi v hv
  have hil : i < l.length := by omega
  have xi := hx _ (List.getElem_mem hil)
  have r : rd_T132 (l.map cTw) (i : Int) = cTw l[i] := by rw [rd132 (by omega)]; simp
  have hw : wrap64 ((i : Int) + 1) = ((i + 1 : Nat) : Int) := by rw [wrap_id (by omega) (by omega)]; omega
  refine Ev.step (fun _ => rfl) (Ev.pos (by omega) (Ev.pos (by omega) (Ev.pos (by omega) (Ev.pos (by rw [chL_len]; simp; omega) ?_))))
  rw [r, hw]
  have ef : mx (wrap64 ((cTw l[i]).f1 - t)) (wrap64 (t - (cTw l[i]).f1)) = farI l[i].f1 t := far_hang xi.1 xi.2 ht1 ht2
  rw [ef]
  have e : chL t (l.take i) ++ [(⟨farI l[i].f1 t, (cTw l[i]).f1, (i : Int)⟩ : S144)] = chL t (l.take (i + 1)) := by
   have e2 : l.take (i + 1) = l.take i ++ [l[i]] := List.take_succ_eq_append_getElem hil
   rw [e2]
   unfold chL
   rw [List.mapIdx_append]
   have e3 : (l.take i).length = i := by simp; omega
   simp [chOf, cTw, e3]
  rw [e]
  exact ih (i + 1) (by omega) v hv
end
theorem pure_HangTwines (l : List S121) (t : Int) (hc : l.length ≤ maxLen) (hs : ∀ x ∈ l, okS x.f0 ∧ okI x.f1 ∧ okI x.f2) (_ : okI t) : ∃ k, cl6_HangTwines.f k l t = some true := by
 refine Ev.rounds (g := fun k => cl6_HangTwines.f k l t) ?_
 unfold cl6_HangTwines.f
 obtain ⟨b, hb, hb'⟩ := ShortTwines_ev l (by unfold maxLen at hc; omega)
 refine hb.bind ?_
 cases b with
 | false => exact Ev.neg (by decide) (Ev.now true)
 | true =>
  have hl := hb' rfl
  refine Ev.pos rfl ((twines_ev l hl).bind ?_)
  obtain ⟨r, c1, c2, c3⟩ := checkTwines_ev l hl (fun x hx => (hs x hx).1)
  have hm : (l.map cTw).length = l.length := by simp
  have tail : ∀ x5 x6 x7 x8 : Int, x5 = x8 → x6 = x7 → Ev (fun k => cl6_HangTwines.j0 k l x5 x6 x7 x8) true := by
   intro x5 x6 x7 x8 e1 e2
   exact Ev.step (fun _ => rfl) ((twines_ev l hl).bind (c1.bind (c2.bind (Ev.pos rfl (Ev.pos e1 (Ev.pos e2 (Ev.now true)))))))
  have near : Ev (fun k => hang_Nearest.f k (l.map cTw) t) (0, 12) ∧ firstE [r, rangeE t 1 100000] = 0 ∧ l.length = 0 ∨ (∃ q : Nat, Ev (fun k => hang_Nearest.f k (l.map cTw) t) ((q : Int), 0) ∧ firstE [r, rangeE t 1 100000] = 0 ∧ Ev (fun k => cr6_Nearest.f k l t) ((q : Int), 0)) ∨ Ev (fun k => hang_Nearest.f k (l.map cTw) t) (0, firstE [r, rangeE t 1 100000]) ∧ firstE [r, rangeE t 1 100000] ≠ 0 := by
   have e : firstE [r, rangeE t 1 100000, whenE ((((l.map cTw).length : Int)) == 0) 12] = firstE [firstE [r, rangeE t 1 100000], whenE ((((l.map cTw).length : Int)) == 0) 12] := by
    simp only [firstE]
    (repeat' split) <;> first | rfl | omega
   have start : ∀ v : Int × Int, Ev (fun k => if firstE [r, rangeE t 1 100000, whenE ((((l.map cTw).length : Int)) == 0) 12] = 0 then hang_Nearest.l0 k t [] (l.map cTw) ((l.map cTw).length : Int) 0 else some (0, firstE [r, rangeE t 1 100000, whenE ((((l.map cTw).length : Int)) == 0) 12])) v → Ev (fun k => hang_Nearest.f k (l.map cTw) t) v := by
    intro v hv
    exact c1.bind (Ev.eqb (hang_within_eq ..) (Ev.eqb (hang_when_eq ..) ((hang_first_ev _ (by simp)).bind hv)))
   rw [e] at start
   by_cases h : firstE [r, rangeE t 1 100000] = 0
   ·obtain ⟨h1, h2⟩ := firstE_ok2 h
    have ht := rangeE_ok h2
    obtain ⟨_, c4⟩ := c3 h1
    have hx : ∀ x ∈ l, 1 ≤ x.f1 ∧ x.f1 ≤ 100000 := by
     intro x hx
     obtain ⟨j, hj, rfl⟩ := List.getElem_of_mem hx
     have := twE_ok (c4 j hj)
     omega
    by_cases h0 : l.length = 0
    ·refine Or.inl ⟨start _ ?_, h, h0⟩
     have ew : whenE ((((l.map cTw).length : Int)) == 0) 12 = 12 := by rw [hm, h0]; rfl
     rw [h, ew]
     exact Ev.neg (by decide) (Ev.now _)
    ·obtain ⟨q, q1, q2, m1, m2⟩ := min_ev l t hl ht.1 ht.2 hx (by omega)
     refine Or.inr (Or.inl ⟨q, start _ ?_, h, m2⟩)
     have ew : whenE ((((l.map cTw).length : Int)) == 0) 12 = 0 := by
      unfold whenE
      rw [if_neg (fun hz => by rw [hm] at hz; have := eq_of_beq hz; omega)]
     rw [h, ew]
     refine Ev.pos (by decide) ?_
     have := near_loop l t hl ht.1 ht.2 hx l.length 0 (by omega) ((q : Int), 0) (m1.bind (Ev.now _))
     simpa [chL] using this
   ·refine Or.inr (Or.inr ⟨start _ ?_, h⟩)
    rw [firstE_two, if_neg h]
    exact Ev.neg h (Ev.now _)
  rcases near with ⟨n1, n2, n3⟩ | ⟨q, n1, n2, n3⟩ | ⟨n1, n2⟩
  ·refine n1.bind (c2.bind (Ev.eqb (ref_CheckRange_eq ..) ((ref_First_ev _ (by simp)).bind (Ev.pos n2 ?_))))
   have z : Ev (fun k => cr6_Nearest.f k l t) (0, 12) := Ev.pos (by omega) (Ev.now _)
   exact z.bind (tail _ _ _ _ rfl rfl)
  ·refine n1.bind (c2.bind (Ev.eqb (ref_CheckRange_eq ..) ((ref_First_ev _ (by simp)).bind (Ev.pos n2 ?_))))
   exact n3.bind (tail _ _ _ _ rfl rfl)
  ·refine n1.bind (c2.bind (Ev.eqb (ref_CheckRange_eq ..) ((ref_First_ev _ (by simp)).bind (Ev.neg n2 (tail _ _ _ _ rfl rfl)))))
end Go.Proofs.YtppighiaffppkaaDoor.Pure
end
section
namespace Go.Proofs.YtppighiaffppkaaDoor.hangTwines
open Go.ChangeShapes Go.WideShapes Go.ChangeAt Go.RowKit Go.Proofs.YtppighiaffppkaaDoor.R
set_option linter.unusedVariables false
set_option maxRecDepth 100000 in
theorem lifted (os : Os) (started : os.Started) (Hd : Type) (enc : TypeId × Value → Hd) :
  ReturnsInHanded {} Tryd.checked os 7 .any (fun w args => (Rows.hangTwinesSpec.pre enc Tryd.prog Tryd.f7 [] false w args ∧ laidMetH Tryd.prog laid w) ∧ sizedMet enc Tryd.prog Tryd.f7 (OpenSpec.ofChange Rows.hangTwinesSpec) false w args)
   (Rows.hangTwinesSpec.post enc Tryd.prog Tryd.f7 false true false false) := by
 refine returnsInHanded_of_change_and (C := Tryd.checked) (X := fun w _ => laidMetH Tryd.prog laid w) (fun _ _ _ hh h => h.of_heap hh) own started (by kernel_rfl) Tryd.func7
  (ChangeSpec.witness_shaped (enc := enc) (C := Tryd.checked) (os := os) (X := fun w _ => laidMetH Tryd.prog laid w) false (World.doorLaid Tryd.prog 400 os) #[.slice none 0 0, .int .i64 0] 8 rfl (World.shaped_of_RefB (by kernel_rfl) (by kernel_rfl)) (by kernel_rfl) (by kernel_rfl) (by kernel_rfl) (door_met os _)) ?_
 intro W base args ds gs before hval0 hW hcnd hsz0 hL _
 have hval : ∀ (j : Nat) t v, Tryd.f7.params[j]? = some t → args[j]? = some v → Value.okWide Tryd.prog W .any base t v := hval0
 have hW' := hW
 obtain ⟨p, q, hA0, hV, rfl, hfz, hnd⟩ := hW
 have hA : DataW.TrodAll enc Tryd.prog W 0 (fun _ => true) true Tryd.f7.params.toList args.toList ds p := hA0
 rw [Tryd.params7] at hA hval
 obtain ⟨v0, vs0, d0, ds0, p0, q0, hargs, rfl, rfl, h0, r0⟩ := trodAll_cons hA
 obtain ⟨v1, vs1, d1, ds1, p1, q1, rfl, rfl, rfl, h1, r1⟩ := trodAll_cons r0
 obtain ⟨rfl, rfl, rfl⟩ := trodAll_nil r1
 obtain rfl : args = #[v0, v1] := by cases args; simp_all
 obtain ⟨rfl, rfl⟩ := trodVars_none hV
 have k0 := h0
 have lt0 : ∀ x ∈ p0, x.block < W.heap.size := by obtain ⟨m, hm⟩ := k0; exact DataW.trod_lt m _ _ _ hm
 obtain ⟨A0, c0, l0, rfl, cl0, cm0, K0, w0⟩ := arg78 (hval 0 78 v0 rfl rfl) h0
 have k1 := h1
 have lt1 : ∀ x ∈ p1, x.block < W.heap.size := by obtain ⟨m, hm⟩ := k1; exact DataW.trod_lt m _ _ _ hm
 obtain ⟨a1, rfl, w1⟩ : ∃ a : Int, v1 = .int .i64 a ∧ okI a := by
  obtain ⟨a, rfl, _, _, _⟩ := open_int Tryd.underlying3 (hval 1 3 v1 rfl rfl) h1
  obtain ⟨fuel, hf⟩ := h1
  obtain ⟨b, e, w⟩ := cs3 (cs := [.int .i64 a]) hf
  cases e; exact ⟨a, rfl, w⟩
 have hG : H.GH W := gh_of_laid hL
 clear hA0 hval0 hsz0 hL hcnd
 obtain ⟨k, hk⟩ := Pure.pure_HangTwines l0 a1 (Nat.le_trans cl0 cm0) w0 w1
 refine (H.cl6_HangTwines.calls k A0 c0 l0 a1 true W hG K0 cl0 hk).mono fun e W' ⟨he, bel⟩ => ?_
 subst he
 exact ⟨_, rfl, _, _, _, [], _, [], hW', trodAll_mk1 (shut_bool Tryd.underlying4 _), (trodAll_cons_mk (Below.trod laidOut (by kernel_rfl) (of_decide_eq_true (by kernel_rfl)) k0 bel lt0) (trodAll_cons_mk (Below.trod laidOut (by kernel_rfl) (of_decide_eq_true (by kernel_rfl)) k1 bel lt1) trodAll_mk0)), rfl, bel.frame _, fun h => by cases h⟩
theorem over : Rows.hangTwinesRow.holds Tryd.pinned (OpenSpec.ofChange Rows.hangTwinesSpec) :=
 OpenClaim.holds_of_wide 7 Tryd.f7 rfl rfl rfl rfl rfl rfl rfl ⟨rfl, rfl, rfl, rfl, rfl⟩ rfl rfl rfl rfl rfl (by kernel_rfl) Tryd.func7 (by kernel_rfl)
  (of_decide_eq_true (by kernel_rfl)) (by unfold Func.isWrapper; first | (rw [if_pos (by decide +kernel)]; kernel_rfl) | (rw [if_neg (by decide +kernel)]; exact ⟨rfl, rfl⟩))
  (fun os started Hd enc _ => lifted os started Hd enc)
theorem fits : ∀ t : TypeId, t ∈ Tryd.f7.params → Tryd.prog.wantsStandIn t = false := by
 rw [Tryd.params7]
 intro t ht
 simp only [List.mem_toArray, List.mem_cons, List.not_mem_nil, or_false] at ht
 rcases ht with rfl | rfl
 ·exact (show Tryd.prog.wantsStandIn 78 = false by kernel_rfl)
 ·exact (show Tryd.prog.wantsStandIn 3 = false by kernel_rfl)
theorem card : Rows.HangTwinesCardSaid :=
 Claim7.holds_tied_plain_at .later [] [.data] true (true, "bb9c8a1f3b87a99a73053614bf73ec5a74d01f458fba8a9eee33de806b476934") false
  over (fun _ h => by cases h) (by kernel_rfl) (fun _ h => by cases h) hangTwines_row_tie rfl ⟨rfl, rfl⟩ (by kernel_rfl) rfl
  (fun f fn hf hfn => by
   obtain rfl : f = 7 := Option.some.inj ((show Tryd.prog.funcNamed "codend/codendlaw06.HangTwines" = some 7 by kernel_rfl).symm.trans hf) |>.symm
   obtain rfl : fn = Tryd.f7 := (Option.some.inj (Tryd.func7.symm.trans hfn)).symm
   exact ⟨by kernel_rfl, fun j t ht => fits t (Array.mem_of_getElem? ht)⟩)
  (by kernel_rfl)
#print axioms card
end Go.Proofs.YtppighiaffppkaaDoor.hangTwines
namespace Go.Proofs.YtppighiaffppkaaDoor
theorem hangTwines_holds : Rows.HangTwinesCardSaid := hangTwines.card
end Go.Proofs.YtppighiaffppkaaDoor
end
