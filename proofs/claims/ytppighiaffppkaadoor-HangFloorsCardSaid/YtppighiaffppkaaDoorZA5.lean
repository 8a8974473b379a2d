/- The common part of the claims of this seat: words, the walks of package hang's functions, and that the examples of the document hold (awake), part 5. Condition: the laid table hang.tens, as the card ties it. -/
import Derived.Laws.CopyOwn
import Derived.Shelf.Abstract
import Derived.Test.YtppighiaffppkaaDoorZA4
section
namespace Go.Proofs.YtppighiaffppkaaDoor.H
open Go.RowKit Go.Shelf Go.Proofs.YtppighiaffppkaaDoorW.PrintWords Go.Proofs.YtppighiaffppkaaDoorW.PrintLast Go.Proofs.YtppighiaffppkaaDoorW.PrintMore
attribute [local go_sem] Oper.semAt_some
attribute [local go_sem] max2_int min2_int max_two min_two max_three min_three max_four min_four
set_option linter.unusedSimpArgs false
set_option linter.unusedVariables false
def hang_Marks.f (k : Nat) (l0 : List S131) (a1 : Int) : Option (List S23 × Int) := (hang_checkSections.f k l0).bind fun t218 => ((hang_checkBar.f a1).bind fun t219 => ((hang_first.f k (([t218, t219] : List Int))).bind fun t223 => (if t223 = 0 then hang_places.f k l0 a1 else (some ([], t223)))))
theorem hang_Marks.mono : ∀ a0 a1 k, LeO (hang_Marks.f k a0 a1) (hang_Marks.f (k + 1) a0 a1) := by
 intro a0 a1 k
 unfold hang_Marks.f
 refine LeO.bind (hang_checkSections.mono _ _) (fun _ => LeO.bind (LeO.refl _) (fun _ => LeO.bind (hang_first.mono _ _) (fun _ => LeO.ite (hang_places.mono _ _ _) (LeO.refl _))))
theorem size23 : (Tryd.prog.info? 23).map (·.size) = some 2 := by kernel_rfl
theorem make65 (n : Nat) (hn : n < 1000000000000) (W : World) : (Instr.makeSlice 65 (.int .i64 (n : Int)) (.int .i64 (n : Int))).run Tryd.prog W = .ok (.slice (some ⟨W.heap.size, 0, none⟩) n n) (W.alloc (.cells (madeCells (Value.agg #[.int .i64 0, .int .i64 0]).cells (n * 2)) 23)) := by
 have hi := info23
 cases hq : Tryd.prog.info? 23 with
 | none => simp [hq] at hi
 | some i =>
  rw [hq] at hi;simp only [Option.map_some, Option.some.injEq, Prod.mk.injEq] at hi;obtain ⟨hz, hs, hb⟩ := hi;have := run_make (P := Tryd.prog) W 65 23 i _ Tryd.underlying65 hq hz .i64 .i64 (n : Int) (n : Int) (by omega) (Int.le_refl _) (by rw [hb]; omega) (by omega);rw [hs] at this;simpa using this
theorem wpList_copyN {P : Program} {w : World} {ops : Array Oper} {rest : List Oper} {o : Oper} {a : Act} {Q : Exit → Act → World → Prop} (hgd : o.guard = none) (d s : Operand) (dT sT : TypeId)
  (ho : o.op = .call { callee := .builtin .copy, args := #[d, s], argTypes := #[dT, sT] }) (elem : TypeId) (hu : P.underlying dT = some (.slice elem)) (sz : Nat) (hsz : (P.info? elem).map (·.size) = some sz)
  (g n dCap : Nat) (ad : Addr) (sCap : Nat) (hd : a.eval d = .slice (some ⟨g, 0, none⟩) n dCap) (hs : a.eval s = .slice (some ad) n sCap)
  (cur : Array Value) (t : TypeId) (hg : w.heap[g]? = some (.cells cur t (0, 0))) (cs : List Value) (hn : cs.length = n * sz)
  (hsrc : ∀ j v, cs[j]? = some v → w.cell? (ad.add j) = some v) (hfit : cs.length ≤ cur.size) (h1 : ∀ v ∈ cs, v.oneCell' = true)
  (h : wpList P ops Q rest (a.put o.dst (goInt n)) (w.setRow g (cs ++ cur.toList.drop cs.length).toArray)) : wpList P ops Q (o :: rest) a w := by
 refine wpList_plain hgd fun K hK => ?_
 have hrun := run_copy_rowN (P := P) w dT sT o.type elem g dCap n sz ad sCap cur t cs hu hsz hg hn hsrc hfit h1
 unfold Oper.wp
 simp [execOp, ho, resolve, invoke, builtin, hd, hs, hrun, Result.andThen]
 exact hK _ _ h
theorem hang_places.parts {k : Nat} {l : List S131} {bar : Int} {r : List S23 × Int} (h : hang_places.f k l bar = some r) : markOk l = true ∧ (markAll bar l).length < 1000000000000 ∧ ∃ ps, placesAll k (markAll bar l) = some ps ∧ r = (if firstErr ps = 0 then (ps.map (·.1), 0) else ([], firstErr ps)) := by
 unfold hang_places.f at h
 split at h
 ·split at h
  ·obtain ⟨ps, hp, h⟩ := Option.bind_eq_some_iff.mp h;exact ⟨by assumption, by assumption, ps, hp, (Option.some.inj h).symm⟩
  ·cases h
 ·cases h
theorem marks_results {tmps : Array Value} {w : World} (g4 g5 : Nat) (u : Value × Int) (k4 : w.heap[g4]? = some (.cells #[u.1] 65 (0, 0))) (k5 : w.heap[g5]? = some (.cells #[.int .i64 u.2] 26 (0, 0))) (h4 : tmps.getD 4 undef = .pointer (some ⟨g4, 0, none⟩)) (h5 : tmps.getD 5 undef = .pointer (some ⟨g5, 0, none⟩)) (hA : ∃ A n c, u.1 = .slice A n c) :
  (results Tryd.f41 tmps).run Tryd.prog w = .ok (.tuple #[u.1, .int .i64 u.2]) w := by
 have c4 := (bkC k4 0).trans (rfl : (#[u.1] : Array Value)[0]? = some u.1)
 have c5 := (bkC k5 0).trans (rfl : (#[Value.int .i64 u.2] : Array Value)[0]? = some (.int .i64 u.2))
 obtain ⟨A, n, c, e⟩ := hA
 rw [e] at c4 ⊢
 have h4' : tmps[4]?.getD undef = .pointer (some ⟨g4, 0, none⟩) := by simpa using h4
 have h5' : tmps[5]?.getD undef = .pointer (some ⟨g5, 0, none⟩) := by simpa using h5
 simp [results, Tryd.f41, go_sem, h4', h5', c4, c5]
set_option maxHeartbeats 8000000 in
set_option maxRecDepth 100000 in
theorem hang_Marks.calls (k : Nat) (A0 : Option Addr) (c0 : Nat) (l0 : List S131) (a1 : Int) (r1 : List S23) (r2 : Int) (w : World) (hr0 : Kd.C k131 w A0 l0.length l0) (hc0 : l0.length ≤ c0) (h : hang_Marks.f k l0 a1 = some (r1, r2)) :
  Calls Tryd.prog 41 #[.slice A0 l0.length c0, .int .i64 a1] w fun e w' => ∃ v0_ : Value, e = .returned (.tuple #[v0_, .int .i64 r2]) ∧ Kd.R k23 23 w' w.heap.size (fun _ => True) v0_ r1 ∧ Below w.heap.size w w' := by
 have hu23 := Tryd.underlying23
 have HR0 := Z0.mk hr0
 have HC0 := Z0.mk hc0
 clear hr0 hc0
 unfold hang_Marks.f at h
 obtain ⟨t218, A30, h⟩ := Option.bind_eq_some_iff.mp h
 obtain ⟨t219, A40, h⟩ := Option.bind_eq_some_iff.mp h
 obtain ⟨y220, hy220⟩ : ∃ y_ : List Int, y_ = (([t218, t219] : List Int)) := ⟨_, rfl⟩
 rw [← hy220] at h
 obtain ⟨t223, A50, h⟩ := Option.bind_eq_some_iff.mp h
 have A3 := Z0.mk A30
 have A4 := Z0.mk A40
 have A5 := Z0.mk A50
 have Ny220 := Z0.mk hy220
 clear A30 A40 A50 hy220
 by_cases c6 : t223 = 0
 ·rw [if_pos c6] at h;have c6b0 : (t223 == 0) = true := beq_iff_eq.mpr c6;have c6b1 : (t223 != 0) = false := bne_eq_false_iff_eq.mpr c6;clear c6;have A7 := Z0.mk h;clear h;refine (callsIn_wide (n := 6)).1 (callsIn_of_wp_marks Tryd.func41 rfl trivial ?_ rfl);simp only [Tryd.ntmps41, List.size_toArray, List.length_cons, List.length_nil, Nat.reduceAdd, Nat.reduceSub, Array.replicate_succ, Array.replicate_zero, List.push_toArray, List.append_toArray, List.nil_append, List.cons_append];refine wpIn_wide.2 ?_;go_wp2_with (first | ((with_reducible refine gtC (f := 82) rfl ?_); obtain ⟨w2, hw2⟩ : ∃ w2, ((w.alloc (.cells #[.slice none 0 0] 65)).alloc (.cells #[.int .i64 0] 26)) = w2 := ⟨_, rfl⟩; have hbw : Below w.heap.size w w2 := (by rw [← hw2]; exact ((Below.refl _ w).alloc (Nat.le_refl _) _).alloc (by simp) _); have hk4 : w2.heap[w.heap.size]? = some (.cells #[.slice none 0 0] 65 (0, 0)) := (by rw [← hw2]; exact bkA (blk_new w _) _); have hk5 : w2.heap[w.heap.size + 1]? = some (.cells #[.int .i64 0] 26 (0, 0)) := (by rw [← hw2]; have := blk_new (w.alloc (.cells #[.slice none 0 0] 65)) (.cells #[.int .i64 0] 26); rw [World.size_alloc] at this; exact this); rw [hw2]; clear hw2; refine goesL_ (some 13) rfl rfl Tryd.func82 (by kernel_rfl) rfl #[.slice A0 l0.length c0] rfl (by (try simp only [List.map_toArray, List.map_cons, List.map_nil]); first | done | rfl) ?_; (with_reducible refine (hang_checkSections.calls k _ _ l0 t218 _ (Kd.C_below HR0.out hbw) HC0.out A3.out).mono ?_); rintro e w12 ⟨rfl, hb⟩; refine ⟨_, rfl, ?_⟩; have HB := Z0.mk hb; have HBW := Z0.mk hbw; have BK4 := Z0.mk hk4; have BK5 := Z0.mk hk5; clear hb hbw hk4 hk5) | ((with_reducible refine gtC (f := 77) rfl ?_); refine goesL_ (some 15) rfl rfl Tryd.func77 (by kernel_rfl) rfl #[.int .i64 a1] rfl (by (try simp only [List.map_toArray, List.map_cons, List.map_nil]); first | done | rfl) ?_; (with_reducible refine (hang_checkBar.calls a1 t219 _ A4.out).mono ?_); rintro e w' ⟨rfl, ⟨nd, rfl⟩⟩; refine ⟨_, rfl, ?_⟩; generalize hq_ : World.drewN w12 _ = w13; have n1_ : Z0 (Below w2.heap.size w2 w13) := ⟨(by rw [← hq_]; exact bwN HB.out _)⟩; clear HB hq_; have HB := n1_; clear n1_) | ((with_reducible refine gtD (N := 16) rfl ?_); refine Kd.R_lit (Kd.int .i64) _ 26 ?hg (N := 16) ?hd (xs := ([t218, t219] : List Int)) (inner := [.int .i64 t218, .int .i64 t219]) (ok := fun _ => True) (okp := fun _ => True) ?hr ?hp (fun _ hk => hk) trivial (Below.refl _ _) (Nat.le_refl _) (by simp) ?_; (case hd => rfl); (case hg => rfl); (case hr => first | (go_simp; done) | (go_simp; rfl)); (case hp => exact (Reps.one (show Kd.M (Kd.int .i64) _ _ _ t218 [.int .i64 t218] from rfl) (Reps.one (show Kd.M (Kd.int .i64) _ _ _ t219 [.int .i64 t219] from rfl) (Reps.none _ _)))); intro v221 w14 ho14 hb hg_ hnew_; clear hg_ hnew_; (first | rw [← Ny220.out] at ho14 | (simp only [Int.reduceToNat] at ho14; rw [← Ny220.out] at ho14)); have n2_ := Z0.mk (bwT HB.out hb); clear HB; have HB := n2_; clear n2_; have HO := Z0.mk ho14; clear hb ho14; obtain ⟨Ao15, co15, eo15⟩ := Kd.R_slice HO.out; subst eo15) | ((with_reducible refine gtC (f := 72) rfl ?_); refine goesL_ (some 17) rfl rfl Tryd.func72 (by kernel_rfl) rfl #[.slice Ao15 y220.length co15] rfl (by (try simp only [List.map_toArray, List.map_cons, List.map_nil]); first | done | rfl) ?_; (with_reducible refine (hang_first.calls k _ _ y220 t223 _ (Kd.R_reads' HO.out).2.2 (Kd.R_reads' HO.out).2.1 A5.out).mono ?_); rintro e w' ⟨rfl, ⟨nd, rfl⟩⟩; refine ⟨_, rfl, ?_⟩; generalize hq_ : World.drewN w14 _ = w15; have n1_ : Z0 (Below w2.heap.size w2 w15) := ⟨(by rw [← hq_]; exact bwN HB.out _)⟩; clear HB hq_ HO; have HB := n1_; clear n1_; have K4 := Z0.mk (bkB BK4.out HB.out); have K5 := Z0.mk (bkB BK5.out HB.out); have hc4 : w15.cell? ⟨w.heap.size, 0, none⟩ = some (.slice none 0 0) := (bkC K4.out 0).trans rfl; have hf4 := bkZ K4.out 0; have hc5 : w15.cell? ⟨w.heap.size + 1, 0, none⟩ = some (.int .i64 0) := (bkC K5.out 0).trans rfl; have hf5 := bkZ K5.out 0) | ((with_reducible refine gtC (f := 83) rfl ?_); refine goesL_ (some 23) rfl rfl Tryd.func83 (by kernel_rfl) rfl #[.slice A0 l0.length c0, .int .i64 a1] rfl (by (try simp only [List.map_toArray, List.map_cons, List.map_nil]); first | done | rfl) ?_; (with_reducible refine (hang_marks.calls A0 l0.length c0 a1 _).mono ?_); rintro e w' ⟨rfl, rfl⟩; refine ⟨_, rfl, ?_⟩))
  rename_i K_ aK_
  have hww : w.heap.size + 2 ≤ w2.heap.size := blk_lt BK5.out;have hw2q : w2.heap.size ≤ w15.heap.size := HB.out.size;have HQW : Z0 (w.heap.size + 2 ≤ w15.heap.size) := ⟨by omega⟩;have hBw : Below w.heap.size w w15 := below_then HBW.out HBW.out.size HB.out;have HB15 := Z0.mk hBw;have hBq : Below w15.heap.size w15 (((w15.alloc (.cells #[.slice none 0 0] 65)).alloc (.cells #[.slice A0 l0.length c0] 63)).alloc (.cells #[.int .i64 a1] 3)) := (((Below.refl _ w15).alloc (Nat.le_refl _) _).alloc (by simp) _).alloc (by simp; omega) _;have hk7 : (((w15.alloc (.cells #[.slice none 0 0] 65)).alloc (.cells #[.slice A0 l0.length c0] 63)).alloc (.cells #[.int .i64 a1] 3)).heap[w15.heap.size]? = some (.cells #[.slice none 0 0] 65 (0, 0)) := bkA (bkA (blk_new w15 _) _) _;have hk8 : (((w15.alloc (.cells #[.slice none 0 0] 65)).alloc (.cells #[.slice A0 l0.length c0] 63)).alloc (.cells #[.int .i64 a1] 3)).heap[w15.heap.size + 1]? = some (.cells #[.slice A0 l0.length c0] 63 (0, 0)) := by have := blk_new (w15.alloc (.cells #[.slice none 0 0] 65)) (.cells #[.slice A0 l0.length c0] 63); rw [World.size_alloc] at this; exact bkA this _
  have hk9 : (((w15.alloc (.cells #[.slice none 0 0] 65)).alloc (.cells #[.slice A0 l0.length c0] 63)).alloc (.cells #[.int .i64 a1] 3)).heap[w15.heap.size + 1 + 1]? = some (.cells #[.int .i64 a1] 3 (0, 0)) := by have := blk_new ((w15.alloc (.cells #[.slice none 0 0] 65)).alloc (.cells #[.slice A0 l0.length c0] 63)) (.cells #[.int .i64 a1] 3); rw [World.size_alloc, World.size_alloc] at this; exact this
  have hsq : (((w15.alloc (.cells #[.slice none 0 0] 65)).alloc (.cells #[.slice A0 l0.length c0] 63)).alloc (.cells #[.int .i64 a1] 3)).heap.size = w15.heap.size + 3 := by simp
  rw [World.size_alloc];obtain ⟨W0, hW0⟩ : ∃ W0, (((w15.alloc (.cells #[.slice none 0 0] 65)).alloc (.cells #[.slice A0 l0.length c0] 63)).alloc (.cells #[.int .i64 a1] 3)) = W0 := ⟨_, rfl⟩;rw [hW0] at hBq hk7 hk8 hk9 hsq ⊢;clear hW0 hc4 hf4 hc5 hf5;have hB0 : Below w.heap.size w W0 := below_then hBw hBw.size hBq;obtain ⟨hok, hmlen, ps, hps, hres⟩ := hang_places.parts A7.out;obtain ⟨hden, hmes, hmany⟩ := markOk_parts hok;obtain ⟨hpe, hpl⟩ := placesAll_map hps;refine (wpIn_wide (n := 6)).1 ?_;refine wpIn_rangeFunc_ownG (F := Fence.wide) rfl (by decide) (gf := 108) (lb := #[.pointer (some ⟨w15.heap.size + 1, 0, none⟩), .pointer (some ⟨w15.heap.size + 1 + 1, 0, none⟩)]) rfl trivial (enters_of Tryd.func108 (by kernel_rfl) rfl)
   (hang_marks1.stopsS 5 (by decide) (w15.heap.size + 1) (w15.heap.size + 1 + 1) w.heap.size A0 c0 l0 a1 hden hmes hmany W0 ((bkC hk8 0).trans rfl) ((bkC hk9 0).trans rfl) (Kd.C_below HR0.out hB0) hB0.size (marks_low HR0.out)) markK_t
   (fun W l o o' hl h hc _ => markK_b hB0.size W l o o' hl h hc) (Below.refl _ _) (fun _ => rfl)
   (fun pre W => (∃ v, W.heap[w15.heap.size]? = some (.cells #[v] 65 (0, 0)) ∧ Kd.R k23 23 W w15.heap.size (fun k_ => k_ ≠ w15.heap.size ∧ k_ ≠ w15.heap.size + 1 ∧ k_ ≠ w15.heap.size + 1 + 1) v (pre.map fun x => (gP k x.1).1)) ∧ (∀ x ∈ pre, (gP k x.1).2 = 0) ∧ Below w15.heap.size w15 W ∧ w15.heap.size + 3 ≤ W.heap.size)
   (fun c pre W => (c = .ret ∧ ∃ ini last, pre = ini ++ [last] ∧ (∀ x ∈ ini, (gP k x.1).2 = 0) ∧ (gP k last.1).2 ≠ 0 ∧ W.heap[w.heap.size]? = some (.cells #[.slice none 0 0] 65 (0, 0)) ∧ W.heap[w.heap.size + 1]? = some (.cells #[.int .i64 (gP k last.1).2] 26 (0, 0))) ∧ Below w.heap.size w W)
   (fun s A B row hs hg hr => by obtain ⟨⟨v, h7, hR⟩, hz, hBW, hsz⟩ := hs; exact ⟨⟨v, own_blk _ _ (fun _ => #[v]) _ s A B row h7 hg hr, own_R _ _ _ _ _ (fun _ => v) (fun s => s.map fun x => (gP k x.1).1) s A B row hR hg hr⟩, hz, ownFrom_below (Nat.le_refl _) (by omega) s A B row hBW hg hr, Nat.le_trans hsz hg.size⟩)
   (fun c s A B row hs hg hr => by obtain ⟨⟨hc, ini, last, e1, e2, e3, k4, k5⟩, hB⟩ := hs; exact ⟨⟨hc, ini, last, e1, e2, e3, own_blk _ _ (fun _ => _) _ s A B row k4 hg hr, own_blk _ _ (fun _ => _) _ s A B row k5 hg hr⟩, ownFrom_below (Nat.le_refl _) (by omega) s A B row hB hg hr⟩)
   ⟨⟨_, hk7, Kd.R_nil _ _ _ _ _⟩, (fun x hx => by cases hx), hBq, by omega⟩
   (fun x => { tmps := #[.slice A0 l0.length c0, .int .i64 a1, undef, undef, .pointer (some ⟨w.heap.size, 0, none⟩), .pointer (some ⟨w.heap.size + 1, 0, none⟩), .int .i64 t223, .pointer (some ⟨w15.heap.size, 0, none⟩), .int .i64 x.1, undef, undef, undef, .slice A0 l0.length c0, .int .i64 t218, .int .i64 a1, .int .i64 t219, .slice Ao15 y220.length co15, .int .i64 t223, .int .i64 t223, .bool false, undef, .slice A0 l0.length c0, .int .i64 a1, .func (.func 108) #[] #[.pointer (some ⟨w15.heap.size + 1, 0, none⟩), .pointer (some ⟨w15.heap.size + 1 + 1, 0, none⟩)], .int .i64 x.1, undef, undef, undef, undef, undef, undef, undef, undef, undef, undef, undef, undef, undef, undef, undef, undef, undef, undef], defers := [] }) ?assign ?body ?done ?stop
  case assign =>
   intro l x W K hK;gi_wp2
   exact hK
  case body =>
   rintro l pre x W ⟨⟨v, h7, hR⟩, hz, hBW, hsz⟩ hlen;have hp := hpl x.1 x.2;unfold hang_place.f at hp
   obtain ⟨⟨p_, q_⟩, hra, hp⟩ := Option.bind_eq_some_iff.mp hp;obtain ⟨e_, hla, hp⟩ := Option.bind_eq_some_iff.mp hp;have hgp : gP k x.1 = (⟨p_, q_⟩, e_) := (Option.some.inj hp).symm;clear hp;obtain ⟨ys, hys⟩ : ∃ z, z = pre.map (fun x => (gP k x.1).1) := ⟨_, rfl⟩;rw [← hys] at hR;obtain ⟨Av, cv, rfl⟩ := Kd.R_slice hR;have HRA := Z0.mk hra;have HLA := Z0.mk hla;have H7 := Z0.mk h7;have HRR := Z0.mk hR;have HBP := Z0.mk hBW;have HSZ := Z0.mk hsz;have HN0 : Z0 (w.heap.size ≤ W.heap.size) := ⟨by have := HQW.out; omega⟩;have HNQ : Z0 (w15.heap.size ≤ W.heap.size) := ⟨by omega⟩;have HLN : Z0 (ys.length < 1000000000000) := ⟨by rw [hys, List.length_map]; omega⟩;have HYS := Z0.mk hys;have HGP := Z0.mk hgp;have HZ := Z0.mk hz;clear hra hla h7 hR hBW hsz hys hgp hz hlen hps hpl hpe hres hok hmlen hden hmes hmany hk7 hk8 hk9 hBq hB0 hBw;by_cases ce : e_ = 0
   ·have ce0 : (e_ == 0) = true := beq_iff_eq.mpr ce;have ce1 : (e_ != 0) = false := bne_eq_false_iff_eq.mpr ce;have CE := Z0.mk ce;clear ce;gi_wp2_with (refine wpListIn_round ?nl _ _ _ ?nd ?_; (case nl => exact (fun ⟨_, _, h_⟩ => h_)); (case nd => rfl); go_wp2_with (first | ((with_reducible refine gtC (f := 75) rfl ?_); refine goesL_ (some 26) rfl rfl Tryd.func75 (by kernel_rfl) rfl #[.int .i64 x.1, .int .i64 2329089562800] rfl (by (try simp only [List.map_toArray, List.map_cons, List.map_nil]); first | done | rfl) ?_; (with_reducible refine (hang_ratio.calls k x.1 2329089562800 p_ q_ _ HRA.out).mono ?_); rintro e_ wA ⟨rfl, hb⟩; refine ⟨_, rfl, ?_⟩; have HS := Z0.mk (bk_below (n₀ := w.heap.size) (Bs := w15.heap.size + 1) (Bb := w15.heap.size + 1 + 1) (q := w15.heap.size) hb HN0.out HNQ.out); have BK7 := Z0.mk (bkB H7.out hb); have HO := Z0.mk (Kd.R_below HRR.out hb); clear hb) | ((with_reducible refine gtD (N := 9) rfl ?_); refine bxE ?hg (N := 9) ?hd (cs := #[.int .i64 0, .int .i64 0]) (t := 23) ?hr ?_; (case hd => rfl); (case hg => rfl); (case hr => first | (go_simp; done) | (go_simp; rfl)); intro gb9 hg wB hbox hb; have hgA : w15.heap.size + 3 ≤ gb9 := (by rw [hg]; exact Nat.le_trans HSZ.out HS.out.keeps.size); have n0_ := Z0.mk (bk_trans HS.out (bk_below hb (Nat.le_trans HN0.out HS.out.keeps.size) (Nat.le_trans HNQ.out HS.out.keeps.size))); have n1_ := Z0.mk (bkB BK7.out hb); have n2_ := Z0.mk (Kd.R_below (Kd.R_mono (ok' := fun k_ => (k_ ≠ w15.heap.size ∧ k_ ≠ w15.heap.size + 1 ∧ k_ ≠ w15.heap.size + 1 + 1) ∧ k_ ≠ gb9) (Kd.R_bound HO.out) (fun k_ hk => ⟨hk.1, (by have := hk.2.2.1; omega)⟩)) hb); have n3_ := Z0.mk hbox; have n4_ := Z0.mk hgA; clear HS BK7 HO; have HS := n0_; have BK7 := n1_; have HO := n2_; have BK9 := n3_; have HGA := n4_; clear n0_ n1_ n2_ n3_ n4_ hb hbox hg hgA; have hcz_0 : wB.cell? ⟨gb9, 0, none⟩ = some (.int .i64 0) := (bkC BK9.out 0).trans rfl; have hcz_1 : wB.cell? ⟨gb9, 1, none⟩ = some (.int .i64 0) := (bkC BK9.out 1).trans rfl; have hfz_0 := bkZ BK9.out 0; have hfz_1 := bkZ BK9.out 1) | ((with_reducible refine gtC (f := 84) rfl ?_); refine goesL_ (some 28) rfl rfl Tryd.func84 (by kernel_rfl) rfl #[.agg #[.int .i64 p_, .int .i64 q_]] rfl (by (try simp only [List.map_toArray, List.map_cons, List.map_nil]); first | done | rfl) ?_; (with_reducible refine (hang_large.calls p_ q_ e_ _ HLA.out).mono ?_); rintro e1_ wC ⟨rfl, hb⟩; refine ⟨_, rfl, ?_⟩; have hga := HGA.out; have hqw := HQW.out; have hszB : w15.heap.size ≤ wB.heap.size := Nat.le_trans HNQ.out HS.out.keeps.size; have n0_ := Z0.mk (bk_trans HS.out (bk_trans (bk_set BK9.out (by decide) (by omega) (by omega) (by omega) (by omega) 0 (.int .i64 p_)) (bk_trans (bk_set (bkP (cs := #[.int .i64 0, .int .i64 0]) BK9.out 0 (.int .i64 p_) rfl) (by decide) (by omega) (by omega) (by omega) (by omega) 1 (.int .i64 q_)) (bk_below hb (by simp [World.setCell]; omega) (by simp [World.setCell]; omega))))); have n1_ := Z0.mk (bkB (bkF (bkF BK7.out (p := ⟨gb9, 0, none⟩) (show w15.heap.size ≠ gb9 by omega) (.int .i64 p_)) (p := ⟨gb9, 1, none⟩) (show w15.heap.size ≠ gb9 by omega) (.int .i64 q_)) hb); have n2_ := Z0.mk (Kd.R_below (Kd.R_far (p := ⟨gb9, 1, none⟩) (Kd.R_far (p := ⟨gb9, 0, none⟩) HO.out (fun _ hk => hk.2) (.int .i64 p_)) (fun _ hk => hk.2) (.int .i64 q_)) hb); have n3_ := Z0.mk (bkB (bkP (cs := #[.int .i64 p_, .int .i64 0]) (bkP (cs := #[.int .i64 0, .int .i64 0]) BK9.out 0 (.int .i64 p_) rfl) 1 (.int .i64 q_) rfl) hb); clear HS BK7 HO BK9; have HS := n0_; have BK7 := n1_; have HO := n2_; have BK9 := n3_; clear n0_ n1_ n2_ n3_ hb hga hqw hszB; have hcy_0 : wC.cell? ⟨gb9, 0, none⟩ = some (.int .i64 p_) := (bkC BK9.out 0).trans rfl; have hcy_1 : wC.cell? ⟨gb9, 1, none⟩ = some (.int .i64 q_) := (bkC BK9.out 1).trans rfl; have hfy_0 := bkZ BK9.out 0; have hfy_1 := bkZ BK9.out 1; have hc7 : wC.cell? ⟨w15.heap.size, 0, none⟩ = some (.slice Av ys.length cv) := (bkC BK7.out 0).trans rfl; have hf7 := bkZ BK7.out 0; have K4C := Z0.mk (((HBP.out.trans HS.out.low).block w.heap.size (by have := HQW.out; omega)).trans K4.out); have K5C := Z0.mk (((HBP.out.trans HS.out.low).block (w.heap.size + 1) (by have := HQW.out; omega)).trans K5.out); have hd4 : wC.cell? ⟨w.heap.size, 0, none⟩ = some (.slice none 0 0) := (bkC K4C.out 0).trans rfl; have hg4 := bkZ K4C.out 0; have hd5 : wC.cell? ⟨w.heap.size + 1, 0, none⟩ = some (.int .i64 0) := (bkC K5C.out 0).trans rfl; have hg5 := bkZ K5C.out 0) | ((with_reducible refine gate_builtin (b := .append) (xs := #[.tmp 32, .tmp 34]) rfl ?_); at_builtin; refine Kd.R_append k23 (w0 := w15) w15.heap.size rfl (.tmp 32) (.tmp 34) 65 23 (.agg #[(.int .i64 0), (.int .i64 0)]) 16 rfl Tryd.underlying65 info23 rfl (by decide) (by omega) (.slice Av ys.length cv) ys (⟨p_, q_⟩ : S23) [.int .i64 p_, .int .i64 q_] (fun k_ => k_ ≠ w15.heap.size ∧ k_ ≠ w15.heap.size + 1 ∧ k_ ≠ w15.heap.size + 1 + 1) (fun _ => False) rfl (by first | (go_simp; done) | (go_simp; rfl)) ?aP (fun _ hk => hk.elim) ?aF ?aO ?aB ?aS ?aL ?_; (case aP => exact k23_mkM _ _ _ (⟨p_, q_⟩ : S23)); (case aF => exact (fun k_ hk => by have := Nat.le_trans HSZ.out HS.out.keeps.size; exact ⟨by omega, by omega, by omega⟩)); (case aO => exact Kd.R_mono HO.out (fun _ hk => hk.1)); (case aB => exact HBP.out.trans HS.out.low); (case aS => exact Nat.le_trans HNQ.out HS.out.keeps.size); (case aL => have := HLN.out; omega); intro v5 wD ho hb hg hat; obtain ⟨ys2, hys2⟩ : ∃ z, z = ys ++ [(⟨p_, q_⟩ : S23)] := ⟨_, rfl⟩; rw [← hys2] at ho; obtain ⟨A5, c5, rfl⟩ := Kd.R_slice ho; have n0_ := Z0.mk (bk_trans HS.out (bk_grown (n₀ := w.heap.size) (Bs := w15.heap.size + 1) (Bb := w15.heap.size + 1 + 1) (q := w15.heap.size) (Kd.R_mono HO.out (fun _ hk => hk.1)) (by have := HQW.out; omega) (Nat.le_refl _) (Nat.le_trans HNQ.out HS.out.keeps.size) (fun _ hk => ⟨hk.2.1, hk.2.2⟩) hg)); have n1_ := Z0.mk (blk_grown BK7.out hg (Kd.R_ne HO.out BK7.out (by decide))); have n2_ := Z0.mk ho; have n3_ := Z0.mk hys2; clear HS BK7 HO BK9; have HS := n0_; have BK7 := n1_; have HO := n2_; have NYS := n3_; clear n0_ n1_ n2_ n3_ ho hb hg hat hys2; have hc8 : wD.cell? ⟨w15.heap.size, 0, none⟩ = some (.slice Av ys.length cv) := (bkC BK7.out 0).trans rfl; have hf8 := bkZ BK7.out 0)))
    have hfin := bk_set (n₀ := w.heap.size) (Bs := w15.heap.size + 1) (Bb := w15.heap.size + 1 + 1) (q := w15.heap.size) BK7.out (by decide) (by have := HQW.out; omega) (Nat.le_refl _) (by omega) (by omega) 0 (.slice A5 ys2.length c5);have hall := bk_trans HS.out hfin;exact ⟨hall.keeps.from _, hall.mkp, ⟨⟨.slice A5 ys2.length c5, bkP BK7.out 0 _ rfl, by have hl_ := Kd.R_far (p := ⟨w15.heap.size, 0, none⟩) HO.out (fun _ hk => hk.1) (.slice A5 ys2.length c5); rw [List.map_append, List.map_cons, List.map_nil, HGP.out, ← HYS.out, ← NYS.out]; exact hl_⟩, fun y hy => (List.mem_append.1 hy).elim (HZ.out y) (fun e => by simp only [List.mem_singleton] at e; subst e; rw [HGP.out]; exact CE.out), HBP.out.trans hall.low, Nat.le_trans HSZ.out hall.keeps.size⟩⟩
   ·have ce0 : (e_ == 0) = false := beq_eq_false_iff_ne.mpr ce;have ce1 : (e_ != 0) = true := bne_iff_ne.mpr ce;gi_wp2_with (refine wpListIn_round ?nl _ _ _ ?nd ?_; (case nl => exact (fun ⟨_, _, h_⟩ => h_)); (case nd => rfl); go_wp2_with (first | ((with_reducible refine gtC (f := 75) rfl ?_); refine goesL_ (some 26) rfl rfl Tryd.func75 (by kernel_rfl) rfl #[.int .i64 x.1, .int .i64 2329089562800] rfl (by (try simp only [List.map_toArray, List.map_cons, List.map_nil]); first | done | rfl) ?_; (with_reducible refine (hang_ratio.calls k x.1 2329089562800 p_ q_ _ HRA.out).mono ?_); rintro e_ wA ⟨rfl, hb⟩; refine ⟨_, rfl, ?_⟩; have HS := Z0.mk (bk_below (n₀ := w.heap.size) (Bs := w15.heap.size + 1) (Bb := w15.heap.size + 1 + 1) (q := w15.heap.size) hb HN0.out HNQ.out); have BK7 := Z0.mk (bkB H7.out hb); have HO := Z0.mk (Kd.R_below HRR.out hb); clear hb) | ((with_reducible refine gtD (N := 9) rfl ?_); refine bxE ?hg (N := 9) ?hd (cs := #[.int .i64 0, .int .i64 0]) (t := 23) ?hr ?_; (case hd => rfl); (case hg => rfl); (case hr => first | (go_simp; done) | (go_simp; rfl)); intro gb9 hg wB hbox hb; have hgA : w15.heap.size + 3 ≤ gb9 := (by rw [hg]; exact Nat.le_trans HSZ.out HS.out.keeps.size); have n0_ := Z0.mk (bk_trans HS.out (bk_below hb (Nat.le_trans HN0.out HS.out.keeps.size) (Nat.le_trans HNQ.out HS.out.keeps.size))); have n1_ := Z0.mk (bkB BK7.out hb); have n2_ := Z0.mk (Kd.R_below (Kd.R_mono (ok' := fun k_ => (k_ ≠ w15.heap.size ∧ k_ ≠ w15.heap.size + 1 ∧ k_ ≠ w15.heap.size + 1 + 1) ∧ k_ ≠ gb9) (Kd.R_bound HO.out) (fun k_ hk => ⟨hk.1, (by have := hk.2.2.1; omega)⟩)) hb); have n3_ := Z0.mk hbox; have n4_ := Z0.mk hgA; clear HS BK7 HO; have HS := n0_; have BK7 := n1_; have HO := n2_; have BK9 := n3_; have HGA := n4_; clear n0_ n1_ n2_ n3_ n4_ hb hbox hg hgA; have hcz_0 : wB.cell? ⟨gb9, 0, none⟩ = some (.int .i64 0) := (bkC BK9.out 0).trans rfl; have hcz_1 : wB.cell? ⟨gb9, 1, none⟩ = some (.int .i64 0) := (bkC BK9.out 1).trans rfl; have hfz_0 := bkZ BK9.out 0; have hfz_1 := bkZ BK9.out 1) | ((with_reducible refine gtC (f := 84) rfl ?_); refine goesL_ (some 28) rfl rfl Tryd.func84 (by kernel_rfl) rfl #[.agg #[.int .i64 p_, .int .i64 q_]] rfl (by (try simp only [List.map_toArray, List.map_cons, List.map_nil]); first | done | rfl) ?_; (with_reducible refine (hang_large.calls p_ q_ e_ _ HLA.out).mono ?_); rintro e1_ wC ⟨rfl, hb⟩; refine ⟨_, rfl, ?_⟩; have hga := HGA.out; have hqw := HQW.out; have hszB : w15.heap.size ≤ wB.heap.size := Nat.le_trans HNQ.out HS.out.keeps.size; have n0_ := Z0.mk (bk_trans HS.out (bk_trans (bk_set BK9.out (by decide) (by omega) (by omega) (by omega) (by omega) 0 (.int .i64 p_)) (bk_trans (bk_set (bkP (cs := #[.int .i64 0, .int .i64 0]) BK9.out 0 (.int .i64 p_) rfl) (by decide) (by omega) (by omega) (by omega) (by omega) 1 (.int .i64 q_)) (bk_below hb (by simp [World.setCell]; omega) (by simp [World.setCell]; omega))))); have n1_ := Z0.mk (bkB (bkF (bkF BK7.out (p := ⟨gb9, 0, none⟩) (show w15.heap.size ≠ gb9 by omega) (.int .i64 p_)) (p := ⟨gb9, 1, none⟩) (show w15.heap.size ≠ gb9 by omega) (.int .i64 q_)) hb); have n2_ := Z0.mk (Kd.R_below (Kd.R_far (p := ⟨gb9, 1, none⟩) (Kd.R_far (p := ⟨gb9, 0, none⟩) HO.out (fun _ hk => hk.2) (.int .i64 p_)) (fun _ hk => hk.2) (.int .i64 q_)) hb); have n3_ := Z0.mk (bkB (bkP (cs := #[.int .i64 p_, .int .i64 0]) (bkP (cs := #[.int .i64 0, .int .i64 0]) BK9.out 0 (.int .i64 p_) rfl) 1 (.int .i64 q_) rfl) hb); clear HS BK7 HO BK9; have HS := n0_; have BK7 := n1_; have HO := n2_; have BK9 := n3_; clear n0_ n1_ n2_ n3_ hb hga hqw hszB; have hcy_0 : wC.cell? ⟨gb9, 0, none⟩ = some (.int .i64 p_) := (bkC BK9.out 0).trans rfl; have hcy_1 : wC.cell? ⟨gb9, 1, none⟩ = some (.int .i64 q_) := (bkC BK9.out 1).trans rfl; have hfy_0 := bkZ BK9.out 0; have hfy_1 := bkZ BK9.out 1; have hc7 : wC.cell? ⟨w15.heap.size, 0, none⟩ = some (.slice Av ys.length cv) := (bkC BK7.out 0).trans rfl; have hf7 := bkZ BK7.out 0; have K4C := Z0.mk (((HBP.out.trans HS.out.low).block w.heap.size (by have := HQW.out; omega)).trans K4.out); have K5C := Z0.mk (((HBP.out.trans HS.out.low).block (w.heap.size + 1) (by have := HQW.out; omega)).trans K5.out); have hd4 : wC.cell? ⟨w.heap.size, 0, none⟩ = some (.slice none 0 0) := (bkC K4C.out 0).trans rfl; have hg4 := bkZ K4C.out 0; have hd5 : wC.cell? ⟨w.heap.size + 1, 0, none⟩ = some (.int .i64 0) := (bkC K5C.out 0).trans rfl; have hg5 := bkZ K5C.out 0)))
    have hk1 := (HS.out.keeps.trans (KeepsOthers.setCell wC ⟨w.heap.size, 0, none⟩ (.slice none 0 0))).trans (KeepsOthers.setCell _ ⟨w.heap.size + 1, 0, none⟩ (.int .i64 e_));have hbb := (((HB15.out.trans ((HBP.out.trans HS.out.low).mono (by have := HQW.out; omega))).setCell (p := ⟨w.heap.size, 0, none⟩) (Nat.le_refl _) (.slice none 0 0))).setCell (p := ⟨w.heap.size + 1, 0, none⟩) (Nat.le_add_right _ 1) (.int .i64 e_);exact ⟨hk1.from _, ⟨rfl, pre, x, rfl, HZ.out, by rw [HGP.out]; exact ce, bkF (bkP K4C.out 0 _ rfl) (by simp) _, by rw [HGP.out]; exact bkP (bkF K5C.out (by simp) _) 0 _ rfl⟩, hbb⟩
  case stop =>
   rintro D c pre W2 hD ⟨rest, hpre⟩ ⟨⟨rfl, ini, last, e1, e2, e3, k4, k5⟩, hB⟩ hK;gi_wp2
   have hD2 : w.heap.size + 2 ≤ D := by have := HQW.out; omega
   have n4 : ((W2.putObj D (.deferred none))).heap[w.heap.size]? = some (.cells #[.slice none 0 0] 65 (0, 0)) := (World.putObj_heap_other (by omega)).trans k4;have n5 : ((W2.putObj D (.deferred none))).heap[w.heap.size + 1]? = some (.cells #[.int .i64 (gP k last.1).2] 26 (0, 0)) := (World.putObj_heap_other (by omega)).trans k5;have hfe : firstErr ps = (gP k last.1).2 := by have hm_ := congrArg (List.map (gP k)) hpre.symm; rw [hpe, hm_, e1]; simp only [List.map_append, List.map_cons, List.map_nil, List.append_assoc, List.cons_append, List.nil_append]; exact firstErr_hit (fun p hp => by simp only [List.mem_map] at hp; obtain ⟨y, ⟨x, hx, rfl⟩, rfl⟩ := hp; exact e2 x hx) e3
   rw [hfe, if_neg e3] at hres;obtain ⟨rfl, rfl⟩ := Prod.mk.inj hres;refine ⟨by simp, .inl ⟨_, _, rfl, run_takeDeferred hK, _, marks_results w.heap.size (w.heap.size + 1) (.slice none 0 0, (gP k last.1).2) n4 n5 rfl rfl ⟨_, _, _, rfl⟩, ?_⟩⟩;exact ⟨_, rfl, Kd.R_nil _ _ _ _ _, hB.trans (belowK_b (w := w) (Nat.le_refl _) W2 D (.deferred (some [])) _ (by omega) hK rfl rfl)⟩
  case done =>
   rintro D_ ys W2 hD hys ⟨⟨v, h7, hR⟩, hz, hBW, hsz⟩ hK;obtain ⟨zs, hzs⟩ : ∃ z, z = ys.map (fun x => (gP k x.1).1) := ⟨_, rfl⟩;rw [← hzs] at hR;have hzl : zs.length = (markAll a1 l0).length := by have hml_ := congrArg List.length hys; rw [hzs, List.length_map]; simpa using hml_
   have hpos : 0 < zs.length := by rw [hzl]; simp [markAll]
   have hm_ := congrArg (List.map (gP k)) hys.symm;have hfe : firstErr ps = 0 := by rw [hpe, hm_]; exact firstErr_none (fun p hp => by simp only [List.mem_map] at hp; obtain ⟨y, ⟨x, hx, rfl⟩, rfl⟩ := hp; exact hz x hx)
   have hps1 : ps.map (·.1) = zs := by rw [hpe, hm_, hzs]; simp only [List.map_map]; rfl
   rw [hfe, if_pos rfl, hps1] at hres;obtain ⟨hr1, hr2⟩ := Prod.mk.inj hres;have hr1' := hr1.symm;have hzn : zs.length < 1000000000000 := by omega
   subst hr1';subst hr2;obtain ⟨ad, c, inner, hv, hil, hic, h1c, hmk⟩ := R_copy hR hpos;subst hv;have hmake := fun W => make65 zs.length hzn W
   have hc7 : W2.cell? ⟨w15.heap.size, 0, none⟩ = some (.slice (some ad) zs.length c) := (bkC h7 0).trans rfl;have hf7 := bkZ h7 0;have hc7a : ∀ o, (W2.alloc o).cell? ⟨w15.heap.size, 0, none⟩ = some (.slice (some ad) zs.length c) := fun o => (((Below.refl _ W2).alloc (Nat.le_refl _) o).cell (World.block_lt_of_cell? _ _ hc7)).trans hc7
   have K4W := Z0.mk ((hBW.block w.heap.size (by have := HQW.out; omega)).trans K4.out);have K5W := Z0.mk ((hBW.block (w.heap.size + 1) (by have := HQW.out; omega)).trans K5.out);have HD0 := Z0.mk hK;have HDW : Z0 (w.heap.size + 2 ≤ D_) := ⟨by have := HQW.out; omega⟩;have HD2 : Z0 (w.heap.size ≤ W2.heap.size) := ⟨by have := HQW.out; omega⟩;have HBF := Z0.mk (HB15.out.trans (hBW.mono (by have := HQW.out; omega)));have HIL := Z0.mk hil;have HIC := Z0.mk hic;have H1C := Z0.mk h1c;have HMK := Z0.mk hmk;have HZN := Z0.mk hzn;clear hK hBW hres hps hpl hpe hm_ hfe hps1 hr1 hz hR h7 hsz hys hzs hzl hpos hil hic h1c hmk hok hmlen hden hmes hmany hk7 hk8 hk9 hBq hB0 hBw hzn;refine aK_ _ _ ?_;go_wp2_with (first | ((with_reducible refine gate_builtin (b := .copy) (xs := #[.tmp 39, .tmp 40]) rfl ?_); refine wpList_copyN rfl (.tmp 39) (.tmp 40) 65 65 rfl 23 Tryd.underlying65 2 size23 W2.heap.size zs.length zs.length ad c rfl rfl _ 23 (blk_new W2 _) inner HIL.out (fun j u hj => (((Below.refl _ W2).alloc (Nat.le_refl _) _).cell (World.block_lt_of_cell? _ _ (HIC.out j u hj))).trans (HIC.out j u hj)) (by rw [size_madeCells, HIL.out]; exact Nat.le_refl _) H1C.out ?_; generalize hW4 : World.setRow _ _ _ = W4; have n0_ : Z0 (Below W2.heap.size W2 W4) := ⟨(by rw [← hW4]; exact below_setRow ((Below.refl _ W2).alloc (Nat.le_refl _) _) (Nat.le_refl _) _)⟩; have n1_ : Z0 (W4.heap[W2.heap.size]? = some (.cells inner.toArray 23 (0, 0))) := ⟨(by rw [← hW4]; refine (setRow_heap _ _ _ _ _ _ (blk_new W2 _)).trans ?_; rw [List.drop_eq_nil_of_le (by rw [Array.length_toList, size_madeCells, HIL.out]; exact Nat.le_refl _), List.append_nil])⟩; clear hW4; have K4D := Z0.mk (bkB K4W.out n0_.out); have K5D := Z0.mk (bkB K5W.out n0_.out); have HD_ := Z0.mk (bkB HD0.out n0_.out); have hd4 : W4.cell? ⟨w.heap.size, 0, none⟩ = some (.slice none 0 0) := (bkC K4D.out 0).trans rfl; have hg4 := bkZ K4D.out 0; have hd5 : W4.cell? ⟨w.heap.size + 1, 0, none⟩ = some (.int .i64 0) := (bkC K5D.out 0).trans rfl; have hg5 := bkZ K5D.out 0))
   have hdw := HDW.out;have hw2 := HD2.out;have hlw2 := blk_lt HD0.out;have n4 : (((W4.setCell ⟨w.heap.size, 0, none⟩ (.slice (some ⟨W2.heap.size, 0, none⟩) zs.length zs.length)).setCell ⟨w.heap.size + 1, 0, none⟩ (.int .i64 0)).putObj D_ (.deferred none)).heap[w.heap.size]? = some (.cells #[.slice (some ⟨W2.heap.size, 0, none⟩) zs.length zs.length] 65 (0, 0)) := (World.putObj_heap_other (by omega)).trans (bkF (bkP K4D.out 0 _ rfl) (by simp) _);have n5 : (((W4.setCell ⟨w.heap.size, 0, none⟩ (.slice (some ⟨W2.heap.size, 0, none⟩) zs.length zs.length)).setCell ⟨w.heap.size + 1, 0, none⟩ (.int .i64 0)).putObj D_ (.deferred none)).heap[w.heap.size + 1]? = some (.cells #[.int .i64 0] 26 (0, 0)) := (World.putObj_heap_other (by omega)).trans (bkP (bkF K5D.out (by simp) _) 0 _ rfl);have n10 : (((W4.setCell ⟨w.heap.size, 0, none⟩ (.slice (some ⟨W2.heap.size, 0, none⟩) zs.length zs.length)).setCell ⟨w.heap.size + 1, 0, none⟩ (.int .i64 0)).putObj D_ (.deferred none)).heap[W2.heap.size]? = some (.cells inner.toArray 23 (0, 0)) := (World.putObj_heap_other (by omega)).trans (bkF (bkF n1_.out (by simp; omega) _) (by simp; omega) _);refine ⟨by simp, .inl ⟨_, _, rfl, run_takeDeferred (by (with_reducible repeat (first | refine bkN ?_ _ | refine bkD ?_ | refine bkA ?_ _ | refine kept_set ?_ _ _)); exact HD_.out), _, marks_results w.heap.size (w.heap.size + 1) (.slice (some ⟨W2.heap.size, 0, none⟩) zs.length zs.length, 0) n4 n5 rfl rfl ⟨_, _, _, rfl⟩, ?_⟩⟩;refine ⟨_, rfl, HMK.out _ _ _ n10 hw2 (by have := HZN.out; simp [maxLen]; omega), ?_⟩;refine Below.trans ?_ (belowK_b (w := w) (Nat.le_refl _) _ D_ (.deferred (some [])) _ (by omega) (by (with_reducible repeat (first | refine bkN ?_ _ | refine bkD ?_ | refine bkA ?_ _ | refine kept_set ?_ _ _)); exact HD_.out) rfl rfl);exact ((HBF.out.trans (n0_.out.mono hw2)).setCell (p := ⟨w.heap.size, 0, none⟩) (Nat.le_refl _) _).setCell (p := ⟨w.heap.size + 1, 0, none⟩) (Nat.le_add_right _ 1) _
 ·rw [if_neg c6] at h;have c6b0 : (t223 == 0) = false := beq_eq_false_iff_ne.mpr c6;have c6b1 : (t223 != 0) = true := bne_iff_ne.mpr c6;simp only [Option.some.injEq, Prod.mk.injEq] at h;obtain ⟨rfl, rfl⟩ := h;go_enter Tryd.func41, Tryd.ntmps41;go_wp2_with (first | ((with_reducible refine gtC (f := 82) rfl ?_); obtain ⟨w2, hw2⟩ : ∃ w2, ((w.alloc (.cells #[.slice none 0 0] 65)).alloc (.cells #[.int .i64 0] 26)) = w2 := ⟨_, rfl⟩; have hbw : Below w.heap.size w w2 := (by rw [← hw2]; exact ((Below.refl _ w).alloc (Nat.le_refl _) _).alloc (by simp) _); have hk4 : w2.heap[w.heap.size]? = some (.cells #[.slice none 0 0] 65 (0, 0)) := (by rw [← hw2]; exact bkA (blk_new w _) _); have hk5 : w2.heap[w.heap.size + 1]? = some (.cells #[.int .i64 0] 26 (0, 0)) := (by rw [← hw2]; have := blk_new (w.alloc (.cells #[.slice none 0 0] 65)) (.cells #[.int .i64 0] 26); rw [World.size_alloc] at this; exact this); rw [hw2]; clear hw2; refine goesL_ (some 13) rfl rfl Tryd.func82 (by kernel_rfl) rfl #[.slice A0 l0.length c0] rfl (by (try simp only [List.map_toArray, List.map_cons, List.map_nil]); first | done | rfl) ?_; (with_reducible refine (hang_checkSections.calls k _ _ l0 t218 _ (Kd.C_below HR0.out hbw) HC0.out A3.out).mono ?_); rintro e w12 ⟨rfl, hb⟩; refine ⟨_, rfl, ?_⟩; have HB := Z0.mk hb; have HBW := Z0.mk hbw; have BK4 := Z0.mk hk4; have BK5 := Z0.mk hk5; clear hb hbw hk4 hk5) | ((with_reducible refine gtC (f := 77) rfl ?_); refine goesL_ (some 15) rfl rfl Tryd.func77 (by kernel_rfl) rfl #[.int .i64 a1] rfl (by (try simp only [List.map_toArray, List.map_cons, List.map_nil]); first | done | rfl) ?_; (with_reducible refine (hang_checkBar.calls a1 t219 _ A4.out).mono ?_); rintro e w' ⟨rfl, ⟨nd, rfl⟩⟩; refine ⟨_, rfl, ?_⟩; generalize hq_ : World.drewN w12 _ = w13; have n1_ : Z0 (Below w2.heap.size w2 w13) := ⟨(by rw [← hq_]; exact bwN HB.out _)⟩; clear HB hq_; have HB := n1_; clear n1_) | ((with_reducible refine gtD (N := 16) rfl ?_); refine Kd.R_lit (Kd.int .i64) _ 26 ?hg (N := 16) ?hd (xs := ([t218, t219] : List Int)) (inner := [.int .i64 t218, .int .i64 t219]) (ok := fun _ => True) (okp := fun _ => True) ?hr ?hp (fun _ hk => hk) trivial (Below.refl _ _) (Nat.le_refl _) (by simp) ?_; (case hd => rfl); (case hg => rfl); (case hr => first | (go_simp; done) | (go_simp; rfl)); (case hp => exact (Reps.one (show Kd.M (Kd.int .i64) _ _ _ t218 [.int .i64 t218] from rfl) (Reps.one (show Kd.M (Kd.int .i64) _ _ _ t219 [.int .i64 t219] from rfl) (Reps.none _ _)))); intro v221 w14 ho14 hb hg_ hnew_; clear hg_ hnew_; (first | rw [← Ny220.out] at ho14 | (simp only [Int.reduceToNat] at ho14; rw [← Ny220.out] at ho14)); have n2_ := Z0.mk (bwT HB.out hb); clear HB; have HB := n2_; clear n2_; have HO := Z0.mk ho14; clear hb ho14; obtain ⟨Ao15, co15, eo15⟩ := Kd.R_slice HO.out; subst eo15) | ((with_reducible refine gtC (f := 72) rfl ?_); refine goesL_ (some 17) rfl rfl Tryd.func72 (by kernel_rfl) rfl #[.slice Ao15 y220.length co15] rfl (by (try simp only [List.map_toArray, List.map_cons, List.map_nil]); first | done | rfl) ?_; (with_reducible refine (hang_first.calls k _ _ y220 t223 _ (Kd.R_reads' HO.out).2.2 (Kd.R_reads' HO.out).2.1 A5.out).mono ?_); rintro e w' ⟨rfl, ⟨nd, rfl⟩⟩; refine ⟨_, rfl, ?_⟩; generalize hq_ : World.drewN w14 _ = w15; have n1_ : Z0 (Below w2.heap.size w2 w15) := ⟨(by rw [← hq_]; exact bwN HB.out _)⟩; clear HB hq_ HO; have HB := n1_; clear n1_; have K4 := Z0.mk (bkB BK4.out HB.out); have K5 := Z0.mk (bkB BK5.out HB.out); have hc4 : w15.cell? ⟨w.heap.size, 0, none⟩ = some (.slice none 0 0) := (bkC K4.out 0).trans rfl; have hf4 := bkZ K4.out 0; have hc5 : w15.cell? ⟨w.heap.size + 1, 0, none⟩ = some (.int .i64 0) := (bkC K5.out 0).trans rfl; have hf5 := bkZ K5.out 0))
  have hB9 : Below w.heap.size w ((w15.setCell ⟨w.heap.size, 0, none⟩ (.slice none 0 0)).setCell ⟨w.heap.size + 1, 0, none⟩ (.int .i64 t223)) := ((below_then HBW.out HBW.out.size HB.out).setCell (p := ⟨w.heap.size, 0, none⟩) (Nat.le_refl _) _).setCell (p := ⟨w.heap.size + 1, 0, none⟩) (by simp) _;have k4 : ((w15.setCell ⟨w.heap.size, 0, none⟩ (.slice none 0 0)).setCell ⟨w.heap.size + 1, 0, none⟩ (.int .i64 t223)).heap[w.heap.size]? = some (.cells #[.slice none 0 0] 65 (0, 0)) := bkF (bkP K4.out 0 _ rfl) (by simp) _;have k5 : ((w15.setCell ⟨w.heap.size, 0, none⟩ (.slice none 0 0)).setCell ⟨w.heap.size + 1, 0, none⟩ (.int .i64 t223)).heap[w.heap.size + 1]? = some (.cells #[.int .i64 t223] 26 (0, 0)) := bkP (bkF K5.out (by simp) _) 0 _ rfl;refine bodyPost_ret (v := .tuple #[.slice none 0 0, .int .i64 t223]) (marks_results w.heap.size (w.heap.size + 1) (.slice none 0 0, t223) k4 k5 rfl rfl ⟨_, _, _, rfl⟩) rfl ?_;exact ⟨_, rfl, Kd.R_nil _ _ _ _ _, hB9⟩
end Go.Proofs.YtppighiaffppkaaDoor.H
end
section
namespace Go.Proofs.YtppighiaffppkaaDoor.H
open Go.RowKit Go.Proofs.YtppighiaffppkaaDoorW.PrintWords Go.Proofs.YtppighiaffppkaaDoorW.PrintLast Go.Proofs.YtppighiaffppkaaDoorW.PrintMore
attribute [local go_sem] max2_int min2_int max_two min_two max_three min_three max_four min_four
set_option linter.unusedSimpArgs false
set_option linter.unusedVariables false
def hang_Ties.l0 : Nat → Int → Int → List Int → Int → Int → Option (List Int × Int)
 | 0, _, _, _, _, _ => none
 | k + 1, x0, x1, x7, x19, x20 => if x20 < x19 then (if x1 = 0 then (none) else (if x7.length < 17592186044416 then (hang_Ties.l0 k x0 x1 (x7 ++ [wrap64 ((wrap64 (Int.tdiv (wrap64 ((wrap64 (x20 + 1)) * x0)) x1)) - (wrap64 (Int.tdiv (wrap64 (x20 * x0)) x1)))]) x19 (wrap64 (x20 + 1))) else (none))) else (some (x7, 0))
def hang_Ties.f (k : Nat) (a0 : Int) (a1 : Int) : Option (List Int × Int) := (hang_checkMeshes.f a0).bind fun t217 => ((hang_within.f a1 1 a0).bind fun t218 => ((hang_first.f k (([t217, t218] : List Int))).bind fun t222 => (if t222 = 0 then (hang_Ties.l0 k a0 a1 ([] : List Int) a1 0) else (some (([] : List Int), t222)))))
theorem hang_Ties.mono_l : ∀ k, (∀ y0 y1 y2 y3 y4, LeO (hang_Ties.l0 k y0 y1 y2 y3 y4) (hang_Ties.l0 (k + 1) y0 y1 y2 y3 y4))
 | 0 => fun _ _ _ _ _ r h => by simp [hang_Ties.l0] at h
 | k + 1 => by
  have ih0 := hang_Ties.mono_l k
  ·intro y0 y1 y2 y3 y4;unfold hang_Ties.l0
   repeat' first
   | (with_reducible exact ih0 _ _ _ _ _)
   | (with_reducible exact hang_first.mono _ _)
   | (with_reducible exact LeO.refl _)
   | (with_reducible exact LeO.none _)
   | (with_reducible refine LeO.ite ?_ ?_)
   | (with_reducible refine LeO.bind ?_ (fun _ => ?_))
   | exact ih0 _ _ _ _ _
   | exact hang_first.mono _ _
   | exact LeO.none _
   | refine LeO.ite ?_ ?_
   | refine LeO.bind ?_ (fun _ => ?_)
theorem hang_Ties.mono : ∀ a0 a1 k, LeO (hang_Ties.f k a0 a1) (hang_Ties.f (k + 1) a0 a1) := by
 intro a0 a1 k
 have ih0 := hang_Ties.mono_l k
 unfold hang_Ties.f
 repeat' first
   | (with_reducible exact ih0 _ _ _ _ _)
   | (with_reducible exact hang_first.mono _ _)
   | (with_reducible exact LeO.refl _)
   | (with_reducible exact LeO.none _)
   | (with_reducible refine LeO.ite ?_ ?_)
   | (with_reducible refine LeO.bind ?_ (fun _ => ?_))
   | exact ih0 _ _ _ _ _
   | exact hang_first.mono _ _
   | exact LeO.none _
   | refine LeO.ite ?_ ?_
   | refine LeO.bind ?_ (fun _ => ?_)
def hang_Ties.T8 : Bool × List (List Nat × List Nat) := (true, [([], []), ([], []), ([1], [1]), ([], []), ([2, 3], [2, 3]), ([], []), ([4, 5], [4, 5]), ([], []), ([], []), ([7, 8], [7, 8]), ([], []), ([9, 10], [9, 10]), ([6, 11], [6, 11]), ([12], [12]), ([0, 13], [0, 13]), ([14, 14, 0, 1, 2, 3, 4, 5, 6, 7, 8, 9, 10, 11, 12, 13, 14], [0, 14])])
def hang_Ties.B8 : List Nat := [0, 0, 2, 0, 14, 0, 62, 0, 0, 384, 0, 1920, 4094, 8190, 16383, 32767]
theorem hang_Ties.tab8 : rtab .any (opsOf Tryd.f42 8) = hang_Ties.T8 := by kernel_rfl
theorem hang_Ties.bits8 : waitsOk hang_Ties.T8.2 hang_Ties.B8 = true := by kernel_rfl
set_option maxHeartbeats 8000000 in
set_option maxRecDepth 100000 in
theorem hang_Ties.calls (k : Nat) (a0 : Int) (a1 : Int) (r1 : List Int) (r2 : Int) (w : World) (h : hang_Ties.f k a0 a1 = some (r1, r2)) :
  Calls Tryd.prog 42 #[.int .i64 a0, .int .i64 a1] w fun e w' => ∃ v0_ : Value, e = .returned (.tuple #[v0_, .int .i64 r2]) ∧ Kd.R (Kd.int .i64) 3 w' w.heap.size (fun _ => True) v0_ r1 ∧ Below w.heap.size w w' := by
 have HB := Z0.mk (Below.refl w.heap.size w)
 have H : ((hang_checkMeshes.f a0).bind fun t217 => ((hang_within.f a1 1 a0).bind fun t218 => ((hang_first.f k (([t217, t218] : List Int))).bind fun t222 => (if t222 = 0 then (hang_Ties.l0 k a0 a1 ([] : List Int) a1 0) else (some (([] : List Int), t222)))))) = some (r1, r2) := h
 clear h
 replace H := Option.bind_eq_some_iff.mp H
 obtain ⟨t217, A30, H⟩ := H
 try dsimp only at H
 have A3 := Z0.mk A30
 clear A30
 replace H := Option.bind_eq_some_iff.mp H
 obtain ⟨t218, A40, H⟩ := H
 try dsimp only at H
 have A4 := Z0.mk A40
 clear A40
 obtain ⟨y219, hy219⟩ : ∃ y_ : List Int, y_ = (([t217, t218] : List Int)) := ⟨_, rfl⟩
 replace H : ((hang_first.f k y219).bind fun t222 => (if t222 = 0 then (hang_Ties.l0 k a0 a1 ([] : List Int) a1 0) else (some (([] : List Int), t222)))) = some (r1, r2) := by first | (rw [hy219]; with_reducible exact H) | (have H2_ := (Option.bind_some _ _).symm.trans H; rw [hy219]; with_reducible exact H2_) | (have H2_ := (Option.bind_some _ _).symm.trans H; with_reducible exact H2_) | with_reducible exact H | (rw [hy219]; exact H) | exact H
 have Ny219 := Z0.mk hy219
 clear hy219
 replace H := Option.bind_eq_some_iff.mp H
 obtain ⟨t222, A50, H⟩ := H
 try dsimp only at H
 have A5 := Z0.mk A50
 clear A50
 by_cases c6 : t222 = 0
 ·rw [if_pos c6] at H;have c6b0 : (t222 == 0) = true := beq_iff_eq.mpr c6;have c6b1 : (t222 != 0) = false := bne_eq_false_iff_eq.mpr c6;clear c6;have H' := Z0.mk H;clear H;go_enter Tryd.func42, Tryd.ntmps42;go_wp2_with (first | ((with_reducible refine gtC (f := 78) rfl ?_); refine goesL_ (some 10) rfl rfl Tryd.func78 (by kernel_rfl) rfl #[.int .i64 a0] rfl (by (try simp only [List.map_toArray, List.map_cons, List.map_nil]) <;> rfl) ?_; (with_reducible refine (hang_checkMeshes.calls a0 t217 _ A3.out).mono ?_); rintro e w' ⟨rfl, ⟨nd, rfl⟩⟩; refine ⟨_, rfl, ?_⟩) | ((with_reducible refine gtC (f := 73) rfl ?_); refine goesL_ (some 13) rfl rfl Tryd.func73 (by kernel_rfl) rfl #[.int .i64 a1, .int .i64 1, .int .i64 a0] rfl (by (try simp only [List.map_toArray, List.map_cons, List.map_nil]) <;> rfl) ?_; (with_reducible refine (hang_within.calls a1 1 a0 t218 _ A4.out).mono ?_); rintro e w' ⟨rfl, ⟨nd, rfl⟩⟩; refine ⟨_, rfl, ?_⟩) | ((with_reducible refine gtD (N := 14) rfl ?_); refine Kd.R_lit (Kd.int .i64) _ 26 ?hg (N := 14) ?hd (xs := ([t217, t218] : List Int)) (inner := [.int .i64 t217, .int .i64 t218]) (ok := fun _ => True) (okp := fun _ => True) ?hr ?hp (fun _ hk => hk) trivial (Below.refl _ _) (Nat.le_refl _) (by simp) ?_; (case hd => rfl); (case hg => rfl); (case hr => first | (go_simp; done) | (go_simp; rfl)); (case hp => exact (Reps.one (show Kd.M (Kd.int .i64) _ _ _ t217 [.int .i64 t217] from rfl) (Reps.one (show Kd.M (Kd.int .i64) _ _ _ t218 [.int .i64 t218] from rfl) (Reps.none _ _)))); intro v220 w7 ho8 hb hg_ hnew_; clear hg_ hnew_; (first | rw [← Ny219.out] at ho8 | (simp only [Int.reduceToNat] at ho8; rw [← Ny219.out] at ho8)); have n0_ := Z0.mk (Kd.R_lower ho8 (bwZ (by repeat (first | (with_reducible first | exact HB.out | apply bwA | apply bwN | apply bw1) | exact HB.out)))); have n1_ := Z0.mk (bwT (by repeat (first | (with_reducible first | exact HB.out | apply bwA | apply bwN | apply bw1) | exact HB.out)) hb); clear HB; have HO221 := n0_; have HB := n1_; clear n0_ n1_; clear hb ho8; obtain ⟨Ao9, co9, eo9⟩ := Kd.R_slice HO221.out; subst eo9) | ((with_reducible refine gtC (f := 72) rfl ?_); refine goesL_ (some 15) rfl rfl Tryd.func72 (by kernel_rfl) rfl #[.slice Ao9 y219.length co9] rfl (by (try simp only [List.map_toArray, List.map_cons, List.map_nil]) <;> rfl) ?_; (with_reducible refine (hang_first.calls k _ _ y219 t222 _ ?side1 ?side2 A5.out).mono ?_); (case side1 => repeat (first | exact (Kd.R_reads' HO221.out).2.2 | (with_reducible refine Kd.C_alloc ?_ _) | (with_reducible refine Kd.C_drewN ?_ _) | (with_reducible refine Kd.C_drew ?_))); (case side2 => exact (Kd.R_reads' HO221.out).2.1); rintro e w' ⟨rfl, ⟨nd, rfl⟩⟩; refine ⟨_, rfl, ?_⟩))
  go_loopg [7, 20] k (fun kq v7 v20 w' => ∃ (x7_1 : List Int) (x20_1 : Int), v20 = .int .i64 x20_1 ∧ Z0 (hang_Ties.l0 kq a0 a1 x7_1 a1 x20_1 = some (r1, r2)) ∧ Z0 (kq ≤ k) ∧ Z0 (Kd.R (Kd.int .i64) 3 w' w.heap.size (fun _ => True) v7 x7_1) ∧ Z0 (Below w.heap.size w w'))
  case atStart => exact ⟨(([] : List Int)), (0), (by first | rfl | (simp; done) | (simp [*]; done)), H', ⟨Nat.le_refl _⟩, ⟨by first | exact Kd.R_nil _ _ _ _ _ | exact Kd.N_nil _ _ _ _ _ | exact Kd.V_nil _ _ _ _ _ | exact Kd.Q_nil _ _ _ _ _ | exact Kd.S_nil _ _ _ _ _⟩, ⟨by repeat (first | (with_reducible first | exact HB.out | apply bwA | apply bwN | apply bw1) | exact HB.out)⟩⟩
  case round =>
   clear H';try clear p2
   try clear c4
   try clear c6
   try clear c6b0
   try clear c6b1
   try clear c7
   obtain ⟨x7_1, x20_1, rfl, HA, HK1, HO_7, HB⟩ := hrel;cases gk with
   | zero => exact absurd HA.out (by simp [hang_Ties.l0])
   | succ k1 =>
    have H := HA.out;clear HA;simp only [hang_Ties.l0] at H;by_cases c10 : x20_1 < a1
    ·rw [if_pos c10] at H;have c10b0 : decide (x20_1 < a1) = true := decide_eq_true c10;clear c10;by_cases c11 : a1 = 0
     ·rw [if_pos c11] at H;exact absurd H (by simp)
     ·rw [if_neg c11] at H;have c11b0 : (a1 == 0) = false := beq_eq_false_iff_ne.mpr c11;have c11b1 : (a1 != 0) = true := bne_iff_ne.mpr c11;by_cases c12 : x7_1.length < 17592186044416
      ·rw [if_pos c12] at H;have LMc12 := Z0.mk c12;clear c12;obtain ⟨y223, hy223⟩ : ∃ y_ : List Int, y_ = (x7_1 ++ [wrap64 ((wrap64 (Int.tdiv (wrap64 ((wrap64 (x20_1 + 1)) * a0)) a1)) - (wrap64 (Int.tdiv (wrap64 (x20_1 * a0)) a1)))]) := ⟨_, rfl⟩;replace H : (hang_Ties.l0 k1 a0 a1 y223 a1 (wrap64 (x20_1 + 1))) = some (r1, r2) := by first | (rw [hy223]; with_reducible exact H) | (have H2_ := (Option.bind_some _ _).symm.trans H; rw [hy223]; with_reducible exact H2_) | (have H2_ := (Option.bind_some _ _).symm.trans H; with_reducible exact H2_) | with_reducible exact H | (rw [hy223]; exact H) | exact H
       have Ny223 := Z0.mk hy223;clear hy223;have H' := Z0.mk H;clear H;try go_wp2
       have n0_ := Z0.mk (Kd.R_drew HO_7.out);have n1_ := Z0.mk (bw1 HB.out);clear HO_7 HB;have HO_7 := n0_;have HB := n1_;clear n0_ n1_;refine start_ (n := 16) (S := fun w' => True) (ds := []) #[false, false, false, false, false, false, false, false, false, false, false, false, false, false, false, false] (by kernel_rfl) rfl rfl trivial (fun hHd => ?_); refine with_tabW hang_Ties.tab8 hang_Ties.bits8 (fun HT_ HW_ => ?_);generalize wr.drew = w13 at HO_7 HB hHd ⊢;refine pure_ (i := 0) (N := some 23) (v := ?_) (a' := ?_) #[true, false, false, false, false, false, false, false, false, false, false, false, false, false, false, false] rfl rfl (any_of HT_.out (by kernel_rfl)) (fun _ _ _ h => h) (Or.inl ⟨by rfl, ?_⟩) ?_ ?_;rotate_left; (intro w'; go_simp; with_reducible rfl); rotate_left; (simp only [Act.put, List.setIfInBounds_toArray, List.set_cons_zero, List.set_cons_succ, i64_w, i32_w]; rfl);refine pure_ (i := 1) (N := some 24) (v := ?_) (a' := ?_) #[true, true, false, false, false, false, false, false, false, false, false, false, false, false, false, false] rfl rfl (any_of HT_.out (by kernel_rfl)) (fun _ _ _ h => h) (Or.inl ⟨by rfl, ?_⟩) ?_ ?_;rotate_left; (intro w'; go_simp; with_reducible rfl); rotate_left; (simp only [Act.put, List.setIfInBounds_toArray, List.set_cons_zero, List.set_cons_succ, i64_w, i32_w]; rfl);refine pure_ (i := 2) (N := some 25) (v := ?_) (a' := ?_) #[true, true, true, false, false, false, false, false, false, false, false, false, false, false, false, false] rfl rfl (any_of HT_.out (by kernel_rfl)) (fun _ _ _ h => h) (Or.inl ⟨by rfl, ?_⟩) ?_ ?_;rotate_left; (intro w'; go_simp; with_reducible rfl); rotate_left; (simp only [Act.put, List.setIfInBounds_toArray, List.set_cons_zero, List.set_cons_succ, i64_w, i32_w]; rfl);refine pure_ (i := 3) (N := some 26) (v := ?_) (a' := ?_) #[true, true, true, true, false, false, false, false, false, false, false, false, false, false, false, false] rfl rfl (any_of HT_.out (by kernel_rfl)) (fun _ _ _ h => h) (Or.inl ⟨by rfl, ?_⟩) ?_ ?_;rotate_left; (intro w'; go_simp; with_reducible rfl); rotate_left; (simp only [Act.put, List.setIfInBounds_toArray, List.set_cons_zero, List.set_cons_succ, i64_w, i32_w]; rfl);refine pure_ (i := 4) (N := some 27) (v := ?_) (a' := ?_) #[true, true, true, true, true, false, false, false, false, false, false, false, false, false, false, false] rfl rfl (any_of HT_.out (by kernel_rfl)) (fun _ _ _ h => h) (Or.inl ⟨by rfl, ?_⟩) ?_ ?_;rotate_left; (intro w'; go_simp; with_reducible rfl); rotate_left; (simp only [Act.put, List.setIfInBounds_toArray, List.set_cons_zero, List.set_cons_succ, i64_w, i32_w]; rfl);refine pure_ (i := 5) (N := some 28) (v := ?_) (a' := ?_) #[true, true, true, true, true, true, false, false, false, false, false, false, false, false, false, false] rfl rfl (any_of HT_.out (by kernel_rfl)) (fun _ _ _ h => h) (Or.inl ⟨by rfl, ?_⟩) ?_ ?_;rotate_left; (intro w'; go_simp; with_reducible rfl); rotate_left; (simp only [Act.put, List.setIfInBounds_toArray, List.set_cons_zero, List.set_cons_succ, i64_w, i32_w]; rfl);refine pure_ (i := 6) (N := some 29) (v := ?_) (a' := ?_) #[true, true, true, true, true, true, true, false, false, false, false, false, false, false, false, false] rfl rfl (any_of HT_.out (by kernel_rfl)) (fun _ _ _ h => h) (Or.inl ⟨by rfl, ?_⟩) ?_ ?_;rotate_left; (intro w'; go_simp; with_reducible rfl); rotate_left; (simp only [Act.put, List.setIfInBounds_toArray, List.set_cons_zero, List.set_cons_succ, i64_w, i32_w]; rfl);refine pure_ (i := 7) (N := some 30) (v := ?_) (a' := ?_) #[true, true, true, true, true, true, true, true, false, false, false, false, false, false, false, false] rfl rfl (any_of HT_.out (by kernel_rfl)) (fun _ _ _ h => h) (Or.inl ⟨by rfl, ?_⟩) ?_ ?_;rotate_left; (intro w'; go_simp; with_reducible rfl); rotate_left; (simp only [Act.put, List.setIfInBounds_toArray, List.set_cons_zero, List.set_cons_succ, i64_w, i32_w]; rfl);refine pure_ (i := 8) (N := some 31) (v := ?_) (a' := ?_) #[true, true, true, true, true, true, true, true, true, false, false, false, false, false, false, false] rfl rfl (any_of HT_.out (by kernel_rfl)) (fun _ _ _ h => h) (Or.inl ⟨by rfl, ?_⟩) ?_ ?_;rotate_left; (intro w'; go_simp; with_reducible rfl); rotate_left; (simp only [Act.put, List.setIfInBounds_toArray, List.set_cons_zero, List.set_cons_succ, i64_w, i32_w]; rfl);refine pure_ (i := 9) (N := some 32) (v := ?_) (a' := ?_) #[true, true, true, true, true, true, true, true, true, true, false, false, false, false, false, false] rfl rfl (any_of HT_.out (by kernel_rfl)) (fun _ _ _ h => h) (Or.inl ⟨by rfl, ?_⟩) ?_ ?_;rotate_left; (intro w'; go_simp; with_reducible rfl); rotate_left; (simp only [Act.put, List.setIfInBounds_toArray, List.set_cons_zero, List.set_cons_succ, i64_w, i32_w]; rfl);refine pure_ (i := 10) (N := some 33) (v := ?_) (a' := ?_) #[true, true, true, true, true, true, true, true, true, true, true, false, false, false, false, false] rfl rfl (any_of HT_.out (by kernel_rfl)) (fun _ _ _ h => h) (Or.inl ⟨by rfl, ?_⟩) ?_ ?_;rotate_left; (intro w'; go_simp; with_reducible rfl); rotate_left; (simp only [Act.put, List.setIfInBounds_toArray, List.set_cons_zero, List.set_cons_succ, i64_w, i32_w]; rfl);refine pure_ (i := 11) (N := some 34) (v := ?_) (a' := ?_) #[true, true, true, true, true, true, true, true, true, true, true, true, false, false, false, false] rfl rfl (any_of HT_.out (by kernel_rfl)) (fun _ _ _ h => h) (Or.inl ⟨by rfl, ?_⟩) ?_ ?_;rotate_left; (intro w'; go_simp; with_reducible rfl); rotate_left; (simp only [Act.put, List.setIfInBounds_toArray, List.set_cons_zero, List.set_cons_succ, i64_w, i32_w]; rfl);refine pure_ (i := 12) (N := some 35) (v := ?_) (a' := ?_) #[true, true, true, true, true, true, true, true, true, true, true, true, true, false, false, false] rfl rfl (any_of HT_.out (by kernel_rfl)) (fun _ _ _ h => h) (Or.inl ⟨by rfl, ?_⟩) ?_ ?_;rotate_left; (intro w'; go_simp; with_reducible rfl); rotate_left; (simp only [Act.put, List.setIfInBounds_toArray, List.set_cons_zero, List.set_cons_succ, i64_w, i32_w]; rfl)
       refine one_ (i := 13) (N := some 36) #[true, true, true, true, true, true, true, true, true, true, true, true, true, true, false, false] rfl rfl (one_of HT_.out (by kernel_rfl)) (by decide) (fun K hK => ?_);refine value_ (w1 := ?_) (v := ?_) (by rfl) rfl ?_ ?_;rotate_left 2
       ·go_simp
        constructor
        ·rfl
        ·rfl
       refine hK.out _ _ trivial (fun hHd => ?_);clear hK K;refine norm_ (a' := ?_) ?_ ?_;rotate_left
       ·show Act.put _ (some 36) _ = _
        simp only [Act.put, List.setIfInBounds_toArray, List.set_cons_zero, List.set_cons_succ, i64_w, i32_w];rfl
       refine one_ (i := 14) (N := some 37) #[true, true, true, true, true, true, true, true, true, true, true, true, true, true, true, false] rfl rfl (one_of HT_.out (by kernel_rfl)) (by decide) (fun K hK => ?_);refine Kd.R_append_step (Kd.int .i64) (w0 := w) w.heap.size (by rfl) (.tmp 23) (.tmp 36) 45 3 (.int .i64 0) 8 rfl Tryd.underlying45 info3 rfl (by decide) (by omega) u7 x7_1 (wrap64 ((wrap64 (Int.tdiv (wrap64 ((wrap64 (x20_1 + 1)) * a0)) a1)) - (wrap64 (Int.tdiv (wrap64 (x20_1 * a0)) a1)))) [.int .i64 (wrap64 ((wrap64 (Int.tdiv (wrap64 ((wrap64 (x20_1 + 1)) * a0)) a1)) - (wrap64 (Int.tdiv (wrap64 (x20_1 * a0)) a1))))] (fun _ => True) (fun _ => False) rfl rfl ?aP (fun _ hk => hk.elim) ?aF ?aO ?aB ?aS ?aL ?_;(case aP => exact rfl)
       (case aB => exact (by repeat (first | (with_reducible first | exact HB.out | apply bwA | apply bwN | apply bw1) | exact HB.out)))
       (case aF => exact (fun _ _ => trivial))
       (case aO => exact (by (with_reducible repeat (first | apply Kd.R_alloc | apply Kd.R_drewN | apply Kd.R_drew)); exact HO_7.out))
       (case aS => exact (bwZ (by repeat (first | (with_reducible first | exact HB.out | apply bwA | apply bwN | apply bw1) | exact HB.out))))
       (case aL => have := LMc12.out; omega)
       intro v224 w14 ho hb hg hat;rw [← Ny223.out] at ho;have n0_ := Z0.mk (hb);have n1_ := Z0.mk (ho);clear HB HO_7;have HB := n0_;have HO225 := n1_;clear n0_ n1_;clear ho hb hg hat;refine hK.out _ _ trivial (fun hHd => ?_);clear hK K;refine norm_ (a' := ?_) ?_ ?_;rotate_left
       ·show Act.put _ (some 37) _ = _
        simp only [Act.put, List.setIfInBounds_toArray, List.set_cons_zero, List.set_cons_succ, i64_w, i32_w];rfl
       refine pure_ (i := 15) (N := some 7) (v := ?_) (a' := ?_) #[true, true, true, true, true, true, true, true, true, true, true, true, true, true, true, true] rfl rfl (any_of HT_.out (by kernel_rfl)) (fun _ _ _ h => h) (Or.inl ⟨by rfl, ?_⟩) ?_ ?_;rotate_left; (intro w'; go_simp; with_reducible rfl); rotate_left; (simp only [Act.put, List.setIfInBounds_toArray, List.set_cons_zero, List.set_cons_succ, i64_w, i32_w]; rfl);refine done_ (done_of HT_.out (by kernel_rfl)) ?_;try go_wp2
       go_roundg k1
       case measure => have := HK1.out; omega
       case rel => exact ⟨(y223), (wrap64 (x20_1 + 1)), (by first | rfl | (simp; done) | (simp [*]; done)), H', ⟨by have := HK1.out; omega⟩, ⟨by (with_reducible repeat (first | apply Kd.R_alloc | apply Kd.R_drewN | apply Kd.R_drew)); exact HO225.out⟩, ⟨by repeat (first | (with_reducible first | exact HB.out | apply bwA | apply bwN | apply bw1) | exact HB.out)⟩⟩
      ·rw [if_neg c12] at H;exact absurd H (by simp)
    ·rw [if_neg c10] at H;have c10b0 : decide (x20_1 < a1) = false := decide_eq_false c10;clear c10;simp only [Option.some.injEq, Prod.mk.injEq] at H;obtain ⟨rfl, rfl⟩ := H;go_wp2
     go_ret2
     exact ⟨_, by first | rfl | (simp [errW_none, errW_some] <;> rfl) | (simp [*, errW_none, errW_some] <;> rfl), by (with_reducible repeat (first | apply Kd.R_alloc | apply Kd.R_drewN | apply Kd.R_drew)); exact HO_7.out, by repeat (first | (with_reducible first | exact HB.out | apply bwA | apply bwN | apply bw1) | exact HB.out)⟩
 ·rw [if_neg c6] at H;have c6b0 : (t222 == 0) = false := beq_eq_false_iff_ne.mpr c6;have c6b1 : (t222 != 0) = true := bne_iff_ne.mpr c6;simp only [Option.some.injEq, Prod.mk.injEq] at H;obtain ⟨rfl, rfl⟩ := H;go_enter Tryd.func42, Tryd.ntmps42;go_wp2_with (first | ((with_reducible refine gtC (f := 78) rfl ?_); refine goesL_ (some 10) rfl rfl Tryd.func78 (by kernel_rfl) rfl #[.int .i64 a0] rfl (by (try simp only [List.map_toArray, List.map_cons, List.map_nil]) <;> rfl) ?_; (with_reducible refine (hang_checkMeshes.calls a0 t217 _ A3.out).mono ?_); rintro e w' ⟨rfl, ⟨nd, rfl⟩⟩; refine ⟨_, rfl, ?_⟩) | ((with_reducible refine gtC (f := 73) rfl ?_); refine goesL_ (some 13) rfl rfl Tryd.func73 (by kernel_rfl) rfl #[.int .i64 a1, .int .i64 1, .int .i64 a0] rfl (by (try simp only [List.map_toArray, List.map_cons, List.map_nil]) <;> rfl) ?_; (with_reducible refine (hang_within.calls a1 1 a0 t218 _ A4.out).mono ?_); rintro e w' ⟨rfl, ⟨nd, rfl⟩⟩; refine ⟨_, rfl, ?_⟩) | ((with_reducible refine gtD (N := 14) rfl ?_); refine Kd.R_lit (Kd.int .i64) _ 26 ?hg (N := 14) ?hd (xs := ([t217, t218] : List Int)) (inner := [.int .i64 t217, .int .i64 t218]) (ok := fun _ => True) (okp := fun _ => True) ?hr ?hp (fun _ hk => hk) trivial (Below.refl _ _) (Nat.le_refl _) (by simp) ?_; (case hd => rfl); (case hg => rfl); (case hr => first | (go_simp; done) | (go_simp; rfl)); (case hp => exact (Reps.one (show Kd.M (Kd.int .i64) _ _ _ t217 [.int .i64 t217] from rfl) (Reps.one (show Kd.M (Kd.int .i64) _ _ _ t218 [.int .i64 t218] from rfl) (Reps.none _ _)))); intro v220 w15 ho16 hb hg_ hnew_; clear hg_ hnew_; (first | rw [← Ny219.out] at ho16 | (simp only [Int.reduceToNat] at ho16; rw [← Ny219.out] at ho16)); have n0_ := Z0.mk (Kd.R_lower ho16 (bwZ (by repeat (first | (with_reducible first | exact HB.out | apply bwA | apply bwN | apply bw1) | exact HB.out)))); have n1_ := Z0.mk (bwT (by repeat (first | (with_reducible first | exact HB.out | apply bwA | apply bwN | apply bw1) | exact HB.out)) hb); clear HB; have HO221 := n0_; have HB := n1_; clear n0_ n1_; clear hb ho16; obtain ⟨Ao17, co17, eo17⟩ := Kd.R_slice HO221.out; subst eo17) | ((with_reducible refine gtC (f := 72) rfl ?_); refine goesL_ (some 15) rfl rfl Tryd.func72 (by kernel_rfl) rfl #[.slice Ao17 y219.length co17] rfl (by (try simp only [List.map_toArray, List.map_cons, List.map_nil]) <;> rfl) ?_; (with_reducible refine (hang_first.calls k _ _ y219 t222 _ ?side1 ?side2 A5.out).mono ?_); (case side1 => repeat (first | exact (Kd.R_reads' HO221.out).2.2 | (with_reducible refine Kd.C_alloc ?_ _) | (with_reducible refine Kd.C_drewN ?_ _) | (with_reducible refine Kd.C_drew ?_))); (case side2 => exact (Kd.R_reads' HO221.out).2.1); rintro e w' ⟨rfl, ⟨nd, rfl⟩⟩; refine ⟨_, rfl, ?_⟩))
  go_ret2
  exact ⟨_, by first | rfl | (simp [errW_none, errW_some] <;> rfl) | (simp [*, errW_none, errW_some] <;> rfl), by first | exact Kd.R_nil _ _ _ _ _ | exact Kd.N_nil _ _ _ _ _ | exact Kd.V_nil _ _ _ _ _ | exact Kd.Q_nil _ _ _ _ _ | exact Kd.S_nil _ _ _ _ _, by repeat (first | (with_reducible first | exact HB.out | apply bwA | apply bwN | apply bw1) | exact HB.out)⟩
end Go.Proofs.YtppighiaffppkaaDoor.H
end
section
namespace Go.Proofs.YtppighiaffppkaaDoor.H
open Go.RowKit Go.Proofs.YtppighiaffppkaaDoorW.PrintWords Go.Proofs.YtppighiaffppkaaDoorW.PrintLast Go.Proofs.YtppighiaffppkaaDoorW.PrintMore
attribute [local go_sem high] eqA23
attribute [local go_sem] max2_int min2_int max_two min_two max_three min_three max_four min_four
set_option linter.unusedSimpArgs false
set_option linter.unusedVariables false
def cr6_SameRatios.l0 : Nat → List (S23) → List (S23) → Int → Option (Bool)
 | 0, _, _, _ => none
 | k + 1, x0, x1, x5 => if x5 < (x0.length : Int) then (if 0 ≤ x5 then (if x5 < (x1.length : Int) then (if (!(((rd_T23 x0 x5).f0) == ((rd_T23 x1 x5).f0)) || (!(((rd_T23 x0 x5).f1) == ((rd_T23 x1 x5).f1)))) = true then (some false) else (cr6_SameRatios.l0 k x0 x1 (wrap64 (x5 + 1)))) else (none)) else (none)) else (some true)
def cr6_SameRatios.f (k : Nat) (l0 : List (S23)) (l1 : List (S23)) : Option (Bool) := if (l0.length : Int) = (l1.length : Int) then (cr6_SameRatios.l0 k l0 l1 0) else (some false)
theorem cr6_SameRatios.mono_l : ∀ k, (∀ y0 y1 y2, LeO (cr6_SameRatios.l0 k y0 y1 y2) (cr6_SameRatios.l0 (k + 1) y0 y1 y2))
 | 0 => fun _ _ _ r h => by simp [cr6_SameRatios.l0] at h
 | k + 1 => by
  have ih0 := cr6_SameRatios.mono_l k
  ·intro y0 y1 y2;unfold cr6_SameRatios.l0
   repeat' first
   | (with_reducible exact ih0 _ _ _)
   | (with_reducible exact LeO.refl _)
   | (with_reducible exact LeO.none _)
   | (with_reducible refine LeO.ite ?_ ?_)
   | (with_reducible refine LeO.bind ?_ (fun _ => ?_))
   | exact ih0 _ _ _
   | exact LeO.none _
   | refine LeO.ite ?_ ?_
   | refine LeO.bind ?_ (fun _ => ?_)
theorem cr6_SameRatios.mono : ∀ a0 a1 k, LeO (cr6_SameRatios.f k a0 a1) (cr6_SameRatios.f (k + 1) a0 a1) := by
 intro a0 a1 k
 have ih0 := cr6_SameRatios.mono_l k
 unfold cr6_SameRatios.f
 repeat' first
   | (with_reducible exact ih0 _ _ _)
   | (with_reducible exact LeO.refl _)
   | (with_reducible exact LeO.none _)
   | (with_reducible refine LeO.ite ?_ ?_)
   | (with_reducible refine LeO.bind ?_ (fun _ => ?_))
   | exact ih0 _ _ _
   | exact LeO.none _
   | refine LeO.ite ?_ ?_
   | refine LeO.bind ?_ (fun _ => ?_)
set_option maxHeartbeats 8000000 in
set_option maxRecDepth 100000 in
theorem cr6_SameRatios.calls (k : Nat) (A0 : Option Addr) (c0 : Nat) (l0 : List (S23)) (A1 : Option Addr) (c1 : Nat) (l1 : List (S23)) (r : Bool) (w : World) (hr0 : Kd.C k23 w A0 l0.length l0) (hc0 : l0.length ≤ c0) (hr1 : Kd.C k23 w A1 l1.length l1) (hc1 : l1.length ≤ c1) (h : cr6_SameRatios.f k l0 l1 = some r) :
  Calls Tryd.prog 47 #[.slice A0 l0.length c0, .slice A1 l1.length c1] w fun e w' => e = .returned (.bool r) ∧ Drawn0 w w' := by
 have hu23 := Tryd.underlying23
 have HR0 := Z0.mk hr0
 have HC0 := Z0.mk hc0
 clear hr0 hc0
 have HR1 := Z0.mk hr1
 have HC1 := Z0.mk hc1
 clear hr1 hc1
 have H : (if (l0.length : Int) = (l1.length : Int) then (cr6_SameRatios.l0 k l0 l1 0) else (some false)) = some r := h
 clear h
 by_cases c3 : (l0.length : Int) = (l1.length : Int)
 ·rw [if_pos c3] at H;have c3b0 : ((l0.length : Int) == (l1.length : Int)) = true := beq_iff_eq.mpr c3;have c3b1 : ((l0.length : Int) != (l1.length : Int)) = false := bne_eq_false_iff_eq.mpr c3;have c3b2 : (l0.length == l1.length) = true := by first | simpa using c3 | (simp at c3 ⊢; omega)
  clear c3;have H' := Z0.mk H;clear H;go_enter Tryd.func47, Tryd.ntmps47;go_wp2
  repeat (go_quiet (fail); try go_wp2)
  go_loopg [5] k (fun kq v5 w' => ∃ (x5_1 : Int), v5 = .int .i64 x5_1 ∧ Z0 (cr6_SameRatios.l0 kq l0 l1 x5_1 = some r) ∧ Z0 (kq ≤ k) ∧ Drawn0 w w')
  case atStart => exact ⟨(0), (by first | rfl | (simp; done) | (simp [*]; done)), H', ⟨Nat.le_refl _⟩, by repeat (first | exact Drawn0.refl _ | apply Drawn0.step)⟩
  case round =>
   clear H';try clear c1
   try clear p2
   try clear c3
   try clear c3b0
   try clear c3b1
   try clear c3b2
   obtain ⟨x5_1, rfl, HA, HK1, ⟨m1, rfl⟩⟩ := hrel;cases gk with
   | zero => exact absurd HA.out (by simp [cr6_SameRatios.l0])
   | succ k1 =>
    have H := HA.out;clear HA;simp only [cr6_SameRatios.l0] at H;by_cases c4 : x5_1 < (l0.length : Int)
    ·rw [if_pos c4] at H;have c4b0 : decide (x5_1 < (l0.length : Int)) = true := decide_eq_true c4;clear c4;by_cases c5 : 0 ≤ x5_1
     ·rw [if_pos c5] at H;have c5b0 : decide (0 ≤ x5_1) = true := decide_eq_true c5;clear c5;by_cases c6 : x5_1 < (l1.length : Int)
      ·rw [if_pos c6] at H;have c6b0 : decide (x5_1 < (l1.length : Int)) = true := decide_eq_true c6;clear c6;by_cases c7 : (!(((rd_T23 l0 x5_1).f0) == ((rd_T23 l1 x5_1).f0)) || (!(((rd_T23 l0 x5_1).f1) == ((rd_T23 l1 x5_1).f1)))) = true
       ·rw [if_pos c7] at H;have c7b0 : (!(((rd_T23 l0 x5_1).f0) == ((rd_T23 l1 x5_1).f0)) || (!(((rd_T23 l0 x5_1).f1) == ((rd_T23 l1 x5_1).f1)))) = true := c7;clear c7;obtain rfl := Option.some.inj H;have p226 : 0 ≤ (x5_1 : Int) := of_decide_eq_true (by first | (with_reducible assumption) | assumption);have q226 : x5_1 < (l0.length : Int) := of_decide_eq_true (by first | (with_reducible assumption) | assumption);obtain ⟨ad226, e226, hx226_0, hx226_1⟩ := at_T23 HR0.out x5_1 p226 q226;cases e226;replace p226 := eq_true p226
        replace q226 := eq_true q226
        have p227 : 0 ≤ (x5_1 : Int) := of_decide_eq_true (by first | (with_reducible assumption) | assumption);have q227 : x5_1 < (l1.length : Int) := of_decide_eq_true (by first | (with_reducible assumption) | assumption);obtain ⟨ad227, e227, hx227_0, hx227_1⟩ := at_T23 HR1.out x5_1 p227 q227;cases e227;replace p227 := eq_true p227
        replace q227 := eq_true q227
        go_wp2
        repeat (go_quiet (fail); try go_wp2)
        go_ret
        exact ⟨by first | rfl | (simp; done) | (simp [*]; done), by repeat (first | exact Drawn0.refl _ | apply Drawn0.step)⟩
       ·rw [if_neg c7] at H;have c7b0 : (!(((rd_T23 l0 x5_1).f0) == ((rd_T23 l1 x5_1).f0)) || (!(((rd_T23 l0 x5_1).f1) == ((rd_T23 l1 x5_1).f1)))) = false := by simpa using c7
        clear c7;have H' := Z0.mk H;clear H;have p226 : 0 ≤ (x5_1 : Int) := of_decide_eq_true (by first | (with_reducible assumption) | assumption);have q226 : x5_1 < (l0.length : Int) := of_decide_eq_true (by first | (with_reducible assumption) | assumption);obtain ⟨ad226, e226, hx226_0, hx226_1⟩ := at_T23 HR0.out x5_1 p226 q226;cases e226;replace p226 := eq_true p226
        replace q226 := eq_true q226
        have p227 : 0 ≤ (x5_1 : Int) := of_decide_eq_true (by first | (with_reducible assumption) | assumption);have q227 : x5_1 < (l1.length : Int) := of_decide_eq_true (by first | (with_reducible assumption) | assumption);obtain ⟨ad227, e227, hx227_0, hx227_1⟩ := at_T23 HR1.out x5_1 p227 q227;cases e227;replace p227 := eq_true p227
        replace q227 := eq_true q227
        go_wp2
        repeat (go_quiet (fail); try go_wp2)
        go_roundg k1
        case measure => have := HK1.out; omega
        case rel => exact ⟨(wrap64 (x5_1 + 1)), (by first | rfl | (simp; done) | (simp [*]; done)), H', ⟨by have := HK1.out; omega⟩, by repeat (first | exact Drawn0.refl _ | apply Drawn0.step)⟩
      ·rw [if_neg c6] at H;exact absurd H (by simp)
     ·rw [if_neg c5] at H;exact absurd H (by simp)
    ·rw [if_neg c4] at H;have c4b0 : decide (x5_1 < (l0.length : Int)) = false := decide_eq_false c4;clear c4;obtain rfl := Option.some.inj H;go_wp2
     repeat (go_quiet (fail); try go_wp2)
     go_ret
     exact ⟨by first | rfl | (simp; done) | (simp [*]; done), by repeat (first | exact Drawn0.refl _ | apply Drawn0.step)⟩
 ·rw [if_neg c3] at H;have c3b0 : ((l0.length : Int) == (l1.length : Int)) = false := beq_eq_false_iff_ne.mpr c3;have c3b1 : ((l0.length : Int) != (l1.length : Int)) = true := bne_iff_ne.mpr c3;have c3b2 : (l0.length == l1.length) = false := by first | simpa using c3 | (simp at c3 ⊢; omega)
  obtain rfl := Option.some.inj H;go_enter Tryd.func47, Tryd.ntmps47;go_wp2
  repeat (go_quiet (fail); try go_wp2)
  go_ret
  exact ⟨by first | rfl | (simp; done) | (simp [*]; done), by repeat (first | exact Drawn0.refl _ | apply Drawn0.step)⟩
end Go.Proofs.YtppighiaffppkaaDoor.H
end
section
namespace Go.Proofs.YtppighiaffppkaaDoor.H
open Go.RowKit Go.Proofs.YtppighiaffppkaaDoorW.PrintWords Go.Proofs.YtppighiaffppkaaDoorW.PrintLast Go.Proofs.YtppighiaffppkaaDoorW.PrintMore
attribute [local go_sem] max2_int min2_int max_two min_two max_three min_three max_four min_four
set_option linter.unusedSimpArgs false
set_option linter.unusedVariables false
def cr1_SameInts.l0 : Nat → List Int → List Int → Int → Option (Bool)
 | 0, _, _, _ => none
 | k + 1, x0, x1, x5 => if x5 < (x0.length : Int) then (if 0 ≤ x5 then (if x5 < (x1.length : Int) then (if (rd x0 x5) = (rd x1 x5) then (cr1_SameInts.l0 k x0 x1 (wrap64 (x5 + 1))) else (some false)) else (none)) else (none)) else (some true)
def cr1_SameInts.f (k : Nat) (l0 : List Int) (l1 : List Int) : Option (Bool) := if (l0.length : Int) = (l1.length : Int) then (cr1_SameInts.l0 k l0 l1 0) else (some false)
theorem cr1_SameInts.mono_l : ∀ k, (∀ y0 y1 y2, LeO (cr1_SameInts.l0 k y0 y1 y2) (cr1_SameInts.l0 (k + 1) y0 y1 y2))
 | 0 => fun _ _ _ r h => by simp [cr1_SameInts.l0] at h
 | k + 1 => by
  have ih0 := cr1_SameInts.mono_l k
  ·intro y0 y1 y2;unfold cr1_SameInts.l0
   repeat' first
   | (with_reducible exact ih0 _ _ _)
   | (with_reducible exact LeO.refl _)
   | (with_reducible exact LeO.none _)
   | (with_reducible refine LeO.ite ?_ ?_)
   | (with_reducible refine LeO.bind ?_ (fun _ => ?_))
   | exact ih0 _ _ _
   | exact LeO.none _
   | refine LeO.ite ?_ ?_
   | refine LeO.bind ?_ (fun _ => ?_)
theorem cr1_SameInts.mono : ∀ a0 a1 k, LeO (cr1_SameInts.f k a0 a1) (cr1_SameInts.f (k + 1) a0 a1) := by
 intro a0 a1 k
 have ih0 := cr1_SameInts.mono_l k
 unfold cr1_SameInts.f
 repeat' first
   | (with_reducible exact ih0 _ _ _)
   | (with_reducible exact LeO.refl _)
   | (with_reducible exact LeO.none _)
   | (with_reducible refine LeO.ite ?_ ?_)
   | (with_reducible refine LeO.bind ?_ (fun _ => ?_))
   | exact ih0 _ _ _
   | exact LeO.none _
   | refine LeO.ite ?_ ?_
   | refine LeO.bind ?_ (fun _ => ?_)
set_option maxHeartbeats 8000000 in
set_option maxRecDepth 100000 in
theorem cr1_SameInts.calls (k : Nat) (A0 : Option Addr) (c0 : Nat) (l0 : List Int) (A1 : Option Addr) (c1 : Nat) (l1 : List Int) (r : Bool) (w : World) (hr0 : Kd.C (Kd.int .i64) w A0 l0.length l0) (hc0 : l0.length ≤ c0) (hr1 : Kd.C (Kd.int .i64) w A1 l1.length l1) (hc1 : l1.length ≤ c1) (h : cr1_SameInts.f k l0 l1 = some r) :
  Calls Tryd.prog 48 #[.slice A0 l0.length c0, .slice A1 l1.length c1] w fun e w' => e = .returned (.bool r) ∧ Drawn0 w w' := by
 have HR0 := Z0.mk hr0
 have HC0 := Z0.mk hc0
 clear hr0 hc0
 have HR1 := Z0.mk hr1
 have HC1 := Z0.mk hc1
 clear hr1 hc1
 have H : (if (l0.length : Int) = (l1.length : Int) then (cr1_SameInts.l0 k l0 l1 0) else (some false)) = some r := h
 clear h
 by_cases c3 : (l0.length : Int) = (l1.length : Int)
 ·rw [if_pos c3] at H;have c3b0 : ((l0.length : Int) == (l1.length : Int)) = true := beq_iff_eq.mpr c3;have c3b1 : ((l0.length : Int) != (l1.length : Int)) = false := bne_eq_false_iff_eq.mpr c3;have c3b2 : (l0.length == l1.length) = true := by first | simpa using c3 | (simp at c3 ⊢; omega)
  clear c3;have H' := Z0.mk H;clear H;go_enter Tryd.func48, Tryd.ntmps48;go_wp2
  repeat (go_quiet (fail); try go_wp2)
  go_loopg [5] k (fun kq v5 w' => ∃ (x5_1 : Int), v5 = .int .i64 x5_1 ∧ Z0 (cr1_SameInts.l0 kq l0 l1 x5_1 = some r) ∧ Z0 (kq ≤ k) ∧ Drawn0 w w')
  case atStart => exact ⟨(0), (by first | rfl | (simp; done) | (simp [*]; done)), H', ⟨Nat.le_refl _⟩, by repeat (first | exact Drawn0.refl _ | apply Drawn0.step)⟩
  case round =>
   clear H';try clear c1
   try clear p2
   try clear c3
   try clear c3b0
   try clear c3b1
   try clear c3b2
   obtain ⟨x5_1, rfl, HA, HK1, ⟨m1, rfl⟩⟩ := hrel;cases gk with
   | zero => exact absurd HA.out (by simp [cr1_SameInts.l0])
   | succ k1 =>
    have H := HA.out;clear HA;simp only [cr1_SameInts.l0] at H;by_cases c4 : x5_1 < (l0.length : Int)
    ·rw [if_pos c4] at H;have c4b0 : decide (x5_1 < (l0.length : Int)) = true := decide_eq_true c4;clear c4;by_cases c5 : 0 ≤ x5_1
     ·rw [if_pos c5] at H;have c5b0 : decide (0 ≤ x5_1) = true := decide_eq_true c5;clear c5;by_cases c6 : x5_1 < (l1.length : Int)
      ·rw [if_pos c6] at H;have c6b0 : decide (x5_1 < (l1.length : Int)) = true := decide_eq_true c6;clear c6;by_cases c7 : (rd l0 x5_1) = (rd l1 x5_1)
       ·rw [if_pos c7] at H;have c7b0 : ((rd l0 x5_1) == (rd l1 x5_1)) = true := beq_iff_eq.mpr c7;have c7b1 : ((rd l0 x5_1) != (rd l1 x5_1)) = false := bne_eq_false_iff_eq.mpr c7;clear c7;have H' := Z0.mk H;clear H;have p228 : 0 ≤ (x5_1 : Int) := of_decide_eq_true (by first | (with_reducible assumption) | assumption);have q228 : x5_1 < (l0.length : Int) := of_decide_eq_true (by first | (with_reducible assumption) | assumption);obtain ⟨ad228, e228, hx228_0⟩ := Kd.at_int HR0.out x5_1 p228 q228;cases e228;replace p228 := eq_true p228
        replace q228 := eq_true q228
        have p229 : 0 ≤ (x5_1 : Int) := of_decide_eq_true (by first | (with_reducible assumption) | assumption);have q229 : x5_1 < (l1.length : Int) := of_decide_eq_true (by first | (with_reducible assumption) | assumption);obtain ⟨ad229, e229, hx229_0⟩ := Kd.at_int HR1.out x5_1 p229 q229;cases e229;replace p229 := eq_true p229
        replace q229 := eq_true q229
        go_wp2
        repeat (go_quiet (fail); try go_wp2)
        go_roundg k1
        case measure => have := HK1.out; omega
        case rel => exact ⟨(wrap64 (x5_1 + 1)), (by first | rfl | (simp; done) | (simp [*]; done)), H', ⟨by have := HK1.out; omega⟩, by repeat (first | exact Drawn0.refl _ | apply Drawn0.step)⟩
       ·rw [if_neg c7] at H;have c7b0 : ((rd l0 x5_1) == (rd l1 x5_1)) = false := beq_eq_false_iff_ne.mpr c7;have c7b1 : ((rd l0 x5_1) != (rd l1 x5_1)) = true := bne_iff_ne.mpr c7;obtain rfl := Option.some.inj H;have p228 : 0 ≤ (x5_1 : Int) := of_decide_eq_true (by first | (with_reducible assumption) | assumption);have q228 : x5_1 < (l0.length : Int) := of_decide_eq_true (by first | (with_reducible assumption) | assumption);obtain ⟨ad228, e228, hx228_0⟩ := Kd.at_int HR0.out x5_1 p228 q228;cases e228;replace p228 := eq_true p228
        replace q228 := eq_true q228
        have p229 : 0 ≤ (x5_1 : Int) := of_decide_eq_true (by first | (with_reducible assumption) | assumption);have q229 : x5_1 < (l1.length : Int) := of_decide_eq_true (by first | (with_reducible assumption) | assumption);obtain ⟨ad229, e229, hx229_0⟩ := Kd.at_int HR1.out x5_1 p229 q229;cases e229;replace p229 := eq_true p229
        replace q229 := eq_true q229
        go_wp2
        repeat (go_quiet (fail); try go_wp2)
        go_ret
        exact ⟨by first | rfl | (simp; done) | (simp [*]; done), by repeat (first | exact Drawn0.refl _ | apply Drawn0.step)⟩
      ·rw [if_neg c6] at H;exact absurd H (by simp)
     ·rw [if_neg c5] at H;exact absurd H (by simp)
    ·rw [if_neg c4] at H;have c4b0 : decide (x5_1 < (l0.length : Int)) = false := decide_eq_false c4;clear c4;obtain rfl := Option.some.inj H;go_wp2
     repeat (go_quiet (fail); try go_wp2)
     go_ret
     exact ⟨by first | rfl | (simp; done) | (simp [*]; done), by repeat (first | exact Drawn0.refl _ | apply Drawn0.step)⟩
 ·rw [if_neg c3] at H;have c3b0 : ((l0.length : Int) == (l1.length : Int)) = false := beq_eq_false_iff_ne.mpr c3;have c3b1 : ((l0.length : Int) != (l1.length : Int)) = true := bne_iff_ne.mpr c3;have c3b2 : (l0.length == l1.length) = false := by first | simpa using c3 | (simp at c3 ⊢; omega)
  obtain rfl := Option.some.inj H;go_enter Tryd.func48, Tryd.ntmps48;go_wp2
  repeat (go_quiet (fail); try go_wp2)
  go_ret
  exact ⟨by first | rfl | (simp; done) | (simp [*]; done), by repeat (first | exact Drawn0.refl _ | apply Drawn0.step)⟩
end Go.Proofs.YtppighiaffppkaaDoor.H
end
section
namespace Go.Proofs.YtppighiaffppkaaDoor.H
open Go.Proofs.YtppighiaffppkaaDoorW.PrintLast
theorem goesV_ {P : Program} {ops : Array Oper} {Q : Exit → Act → World → Prop} {oi : Oper} {N : Option Tmp} {a : Act} {w : World} {K : Act → World → Prop} {f : FuncId} {t : Tmp} {caps : Array Value} {av : Array Operand} {ts : Array TypeId}
  (eg : ∀ args w, (callFunc f args).run P w = .ok (.enter f args) w) (args : Array Value)
  (hw : Region.wanted oi (yielded ops a.tmps) = true) (hN : oi.dst = N) (hop : oi.op = .call { callee := .value (.tmp t), args := av, argTypes := ts }) (ht : a.eval (.tmp t) = .func (.func f) #[] caps) (hargs : av.map a.eval = args)
  (h : Calls P f (args ++ caps) w fun e w' => ∃ v, e = .returned v ∧ K (a.put N v) w') : if Region.wanted oi (yielded ops a.tmps) = true then Oper.wp P oi a w K Q else K (a.put N undef) w := by
 refine call_ f (args ++ caps) hw hN ?_ h
 have he := eg (args ++ caps) w
 unfold execOp
 simp [hop, resolve, Deferred.ofValue, invoke, ht, hargs, he]
end Go.Proofs.YtppighiaffppkaaDoor.H
end
section
namespace Go.Proofs.YtppighiaffppkaaDoor.H
open Go.RowKit Go.Proofs.YtppighiaffppkaaDoorW.PrintWords Go.Proofs.YtppighiaffppkaaDoorW.PrintLast Go.Proofs.YtppighiaffppkaaDoorW.PrintMore
attribute [local go_sem] max2_int min2_int max_two min_two max_three min_three max_four min_four
set_option linter.unusedSimpArgs false
set_option linter.unusedVariables false
def hang_choice.l0 (cb : Int → Int → Int → Int → Int → Int → Option Int) : Nat → List (S144) → Int → Int → Int → Int → Option (Int × Int × Int)
 | 0, _, _, _, _, _ => none
 | k + 1, x0, x6, x251000, x251001, x251002 => if x6 < (x0.length : Int) then (if 0 ≤ x6 then ((cb ((rd_T144 x0 x6).f0) ((rd_T144 x0 x6).f1) ((rd_T144 x0 x6).f2) x251000 x251001 x251002).bind fun t252 => (if t252 < 0 then (hang_choice.l0 cb k x0 (wrap64 (x6 + 1)) ((rd_T144 x0 x6).f0) ((rd_T144 x0 x6).f1) ((rd_T144 x0 x6).f2)) else (hang_choice.l0 cb k x0 (wrap64 (x6 + 1)) x251000 x251001 x251002))) else (none)) else (some (x251000, x251001, x251002))
def hang_choice.f (cb : Int → Int → Int → Int → Int → Int → Option Int) (k : Nat) (l0 : List (S144))  : Option (Int × Int × Int) := if (l0.length : Int) < 1 then (none) else (if 0 < (l0.length : Int) then (hang_choice.l0 cb k l0 1 ((rd_T144 l0 0).f0) ((rd_T144 l0 0).f1) ((rd_T144 l0 0).f2)) else (none))
theorem hang_choice.mono_l (cb : Int → Int → Int → Int → Int → Int → Option Int) : ∀ k, (∀ y0 y1 y2 y3 y4, LeO (hang_choice.l0 cb k y0 y1 y2 y3 y4) (hang_choice.l0 cb (k + 1) y0 y1 y2 y3 y4))
 | 0 => fun _ _ _ _ _ r h => by simp [hang_choice.l0] at h
 | k + 1 => by
  have ih0 := hang_choice.mono_l cb k
  ·intro y0 y1 y2 y3 y4;unfold hang_choice.l0
   repeat' first
   | (with_reducible exact ih0 _ _ _ _ _)
   | (with_reducible exact LeO.refl _)
   | (with_reducible exact LeO.none _)
   | (with_reducible refine LeO.ite ?_ ?_)
   | (with_reducible refine LeO.bind ?_ (fun _ => ?_))
   | exact ih0 _ _ _ _ _
   | exact LeO.none _
   | refine LeO.ite ?_ ?_
   | refine LeO.bind ?_ (fun _ => ?_)
theorem hang_choice.mono (cb : Int → Int → Int → Int → Int → Int → Option Int) : ∀ a0 k, LeO (hang_choice.f cb k a0) (hang_choice.f cb (k + 1) a0) := by
 intro a0 k
 have ih0 := hang_choice.mono_l cb k
 unfold hang_choice.f
 repeat' first
   | (with_reducible exact ih0 _ _ _ _ _)
   | (with_reducible exact LeO.refl _)
   | (with_reducible exact LeO.none _)
   | (with_reducible refine LeO.ite ?_ ?_)
   | (with_reducible refine LeO.bind ?_ (fun _ => ?_))
   | exact ih0 _ _ _ _ _
   | exact LeO.none _
   | refine LeO.ite ?_ ?_
   | refine LeO.bind ?_ (fun _ => ?_)
def hang_choice.T7 : Bool × List (List Nat × List Nat) := (true, [([], []), ([], []), ([], []), ([1, 2], [1, 2]), ([3], [3]), ([], []), ([0, 4, 5], [0, 4, 5]), ([6], [6])])
def hang_choice.B7 : List Nat := [0, 0, 0, 6, 14, 0, 63, 127]
theorem hang_choice.tab7 : rtab .any (opsOf Tryd.f85 7) = hang_choice.T7 := by kernel_rfl
theorem hang_choice.bits7 : waitsOk hang_choice.T7.2 hang_choice.B7 = true := by kernel_rfl
set_option maxHeartbeats 8000000 in
set_option maxRecDepth 100000 in
theorem hang_choice.calls (k : Nat) (A0 : Option Addr) (c0 : Nat) (l0 : List (S144)) (cb : Int → Int → Int → Int → Int → Int → Option Int) (r1 : Int) (r2 : Int) (r3 : Int) (w : World) (K_ : Nat) (caps_ : Array Value) (eg : ∀ args w, (callFunc K_ args).run Tryd.prog w = .ok (.enter K_ args) w) (hcb : ∀ (x0 x1 x2 x3 x4 x5 : Int) (r_ : Int) (w1 : World), Below w.heap.size w w1 → cb x0 x1 x2 x3 x4 x5 = some r_ → Calls Tryd.prog K_ (#[.agg #[.int .i64 x0, .int .i64 x1, .int .i64 x2], .agg #[.int .i64 x3, .int .i64 x4, .int .i64 x5]] ++ caps_) w1 fun e w2 => e = .returned (.int .i64 r_) ∧ Below w1.heap.size w1 w2) (hr0 : Kd.C k144 w A0 l0.length l0) (hc0 : l0.length ≤ c0) (h : hang_choice.f cb k l0 = some (r1, r2, r3)) :
  Calls Tryd.prog 85 #[.slice A0 l0.length c0, .func (.func K_) #[] caps_] w fun e w' => e = .returned (.agg #[.int .i64 r1, .int .i64 r2, .int .i64 r3]) ∧ Below w.heap.size w w' := by
 have HCB_ := Z0.mk hcb
 have EG_ := Z0.mk eg
 clear hcb
 have hu144 := Tryd.underlying144
 have HR0 := Z0.mk hr0
 have HC0 := Z0.mk hc0
 clear hr0 hc0
 have HB := Z0.mk (Below.refl w.heap.size w)
 have H : (if (l0.length : Int) < 1 then (none) else (if 0 < (l0.length : Int) then (hang_choice.l0 cb k l0 1 ((rd_T144 l0 0).f0) ((rd_T144 l0 0).f1) ((rd_T144 l0 0).f2)) else (none))) = some (r1, r2, r3) := h
 clear h
 by_cases c3 : (l0.length : Int) < 1
 ·rw [if_pos c3] at H;exact absurd H (by simp)
 ·rw [if_neg c3] at H;have c3b0 : decide ((l0.length : Int) < 1) = false := decide_eq_false c3;have c3b1 : decide (l0.length < 1) = false := decide_eq_false (by omega);clear c3;by_cases c4 : 0 < (l0.length : Int)
  ·rw [if_pos c4] at H;have c4b0 : decide (0 < (l0.length : Int)) = true := decide_eq_true c4;have c4b1 : decide (0 < l0.length) = true := decide_eq_true (by omega);clear c4;have H' := Z0.mk H;clear H;go_enter Tryd.func85, Tryd.ntmps85;go_wp2_with (first | ((with_reducible refine gtD (N := 4) rfl ?_); refine bxE ?hg (N := 4) ?hd (cs := #[.int .i64 0, .int .i64 0, .int .i64 0]) (t := 144) ?hr ?_; (case hd => rfl); (case hg => rfl); (case hr => first | (go_simp; done) | (go_simp; rfl)); intro gb248 hg w5 hbox hb; have n0_ := Z0.mk (bwT (by repeat (first | (with_reducible first | exact HB.out | apply bwA | apply bwN | apply bw1) | exact HB.out)) hb); have n1_ := Z0.mk (hbox); have n2_ := Z0.mk ((by rw [hg]; exact (bwZ (by repeat (first | (with_reducible first | exact HB.out | apply bwA | apply bwN | apply bw1) | exact HB.out))) : w.heap.size ≤ gb248)); have n3_ := Z0.mk ((by rw [hg]; exact (bwZ (by repeat (first | (with_reducible first | exact HB.out | apply bwA | apply bwN | apply bw1) | exact HB.out))) : w.heap.size ≤ gb248)); clear HB; have HB := n0_; have BK248 := n1_; have GW248 := n2_; have GE248 := n3_; clear n0_ n1_ n2_ n3_; clear hb hbox hg; have p249 : 0 ≤ (0 : Int) := (by omega); have q249 : 0 < (l0.length : Int) := of_decide_eq_true (by first | (with_reducible assumption) | assumption); obtain ⟨ad249, e249, hx249_0, hx249_1, hx249_2⟩ := at_T144 HR0.out 0 p249 q249; cases e249; have qi249 : (0 < l0.length) = True := eq_true (by omega); (try rw [show ((0 : Int)).toNat = 0 from rfl] at hx249_0); (try rw [show 0 * 3 = 0 from rfl] at hx249_0); (try rw [Addr.add_zero'] at hx249_0); (try rw [show ((0 : Int)).toNat = 0 from rfl] at hx249_1); (try rw [show 0 * 3 = 0 from rfl] at hx249_1); (try rw [Addr.add_zero'] at hx249_1); (try rw [show ((0 : Int)).toNat = 0 from rfl] at hx249_2); (try rw [show 0 * 3 = 0 from rfl] at hx249_2); (try rw [Addr.add_zero'] at hx249_2); replace hx249_0 := (HB.out.cell (World.block_lt_of_cell? w _ hx249_0)).trans hx249_0; replace hx249_1 := (HB.out.cell (World.block_lt_of_cell? w _ hx249_1)).trans hx249_1; replace hx249_2 := (HB.out.cell (World.block_lt_of_cell? w _ hx249_2)).trans hx249_2; replace p249 := eq_true p249; replace q249 := eq_true q249) | ((with_reducible refine gtD (N := 5) rfl ?_); refine bxE ?hg (N := 5) ?hd (cs := #[.int .i64 0, .int .i64 0, .int .i64 0]) (t := 144) ?hr ?_; (case hd => rfl); (case hg => rfl); (case hr => first | (go_simp; done) | (go_simp; rfl)); intro gb250 hg w6 hbox hb; have n0_ := Z0.mk (bkB (g := gb248) (o := .cells #[.int .i64 0, .int .i64 0, .int .i64 0] 144 (0, 0)) (by (with_reducible repeat (first | refine bkN ?_ _ | refine bkD ?_ | refine bkA ?_ _)); exact BK248.out) hb); have n1_ := Z0.mk (bwT (by repeat (first | (with_reducible first | exact HB.out | apply bwA | apply bwN | apply bw1 | refine bwS ?_ GE248.out) | exact HB.out)) hb); have n2_ := Z0.mk (hbox); have n3_ := Z0.mk ((by rw [hg]; exact (bwZ (by repeat (first | (with_reducible first | exact HB.out | apply bwA | apply bwN | apply bw1 | refine bwS ?_ GE248.out) | exact HB.out))) : w.heap.size ≤ gb250)); have n4_ := Z0.mk ((by rw [hg]; exact (bwZ (by repeat (first | (with_reducible first | exact HB.out | apply bwA | apply bwN | apply bw1 | refine bwS ?_ GE248.out) | exact HB.out))) : w.heap.size ≤ gb250)); have n5_ := Z0.mk ((by rw [hg]; exact Nat.ne_of_lt (blk_lt (g := gb248) (o := .cells #[.int .i64 0, .int .i64 0, .int .i64 0] 144 (0, 0)) (by (with_reducible repeat (first | refine bkN ?_ _ | refine bkD ?_ | refine bkA ?_ _)); exact BK248.out)) : gb248 ≠ gb250)); have n6_ := Z0.mk ((by rw [hg]; exact Nat.ne_of_gt (blk_lt (g := gb248) (o := .cells #[.int .i64 0, .int .i64 0, .int .i64 0] 144 (0, 0)) (by (with_reducible repeat (first | refine bkN ?_ _ | refine bkD ?_ | refine bkA ?_ _)); exact BK248.out)) : gb250 ≠ gb248)); clear BK248 HB; have BK248 := n0_; have HB := n1_; have BK250 := n2_; have GW250 := n3_; have GE250 := n4_; have NB248_250 := n5_; have NB250_248 := n6_; clear n0_ n1_ n2_ n3_ n4_ n5_ n6_; clear hb hbox hg; have hnb7 := NB250_248.out; have hnc7 := NB248_250.out; have hcz8_0 : w6.cell? ⟨gb250, 0, none⟩ = some (.int .i64 0) := (bkC BK250.out 0).trans rfl; have hcz8_1 : w6.cell? ⟨gb250, 1, none⟩ = some (.int .i64 0) := (bkC BK250.out 1).trans rfl; have hcz8_2 : w6.cell? ⟨gb250, 2, none⟩ = some (.int .i64 0) := (bkC BK250.out 2).trans rfl; have hfz8_0 := bkZ BK250.out 0; have hfz8_1 := bkZ BK250.out 1; have hfz8_2 := bkZ BK250.out 2))
   go_loopg [6] k (fun kq v6 w' => ∃ (x6_1 : Int) (x251000_1 : Int) (x251001_1 : Int) (x251002_1 : Int), v6 = .int .i64 x6_1 ∧ Z0 (hang_choice.l0 cb kq l0 x6_1 x251000_1 x251001_1 x251002_1 = some (r1, r2, r3)) ∧ Z0 (kq ≤ k) ∧ Z0 (w'.heap[gb248]? = some (.cells #[.int .i64 0, .int .i64 0, .int .i64 0] 144 (0, 0))) ∧ Z0 (w'.heap[gb250]? = some (.cells #[.int .i64 x251000_1, .int .i64 x251001_1, .int .i64 x251002_1] 144 (0, 0))) ∧ Z0 (Below w.heap.size w w'))
   case atStart => exact ⟨(1), ((rd_T144 l0 0).f0), ((rd_T144 l0 0).f1), ((rd_T144 l0 0).f2), (by first | rfl | (simp; done) | (simp [*]; done)), H', ⟨Nat.le_refl _⟩, ⟨by (with_reducible repeat (first | refine bkN ?_ _ | refine bkD ?_ | refine bkA ?_ _)); refine bkF ?_ NB248_250.out _; (with_reducible repeat (first | refine bkN ?_ _ | refine bkD ?_ | refine bkA ?_ _)); refine bkF ?_ NB248_250.out _; (with_reducible repeat (first | refine bkN ?_ _ | refine bkD ?_ | refine bkA ?_ _)); refine bkF ?_ NB248_250.out _; (with_reducible repeat (first | refine bkN ?_ _ | refine bkD ?_ | refine bkA ?_ _)); exact BK248.out⟩, ⟨by (with_reducible repeat (first | refine bkN ?_ _ | refine bkD ?_ | refine bkA ?_ _)); refine bkP (cs := #[.int .i64 ((rd_T144 l0 0).f0), .int .i64 ((rd_T144 l0 0).f1), .int .i64 0]) ?_ 2 _ rfl; (with_reducible repeat (first | refine bkN ?_ _ | refine bkD ?_ | refine bkA ?_ _)); refine bkP (cs := #[.int .i64 ((rd_T144 l0 0).f0), .int .i64 0, .int .i64 0]) ?_ 1 _ rfl; (with_reducible repeat (first | refine bkN ?_ _ | refine bkD ?_ | refine bkA ?_ _)); refine bkP (cs := #[.int .i64 0, .int .i64 0, .int .i64 0]) ?_ 0 _ rfl; (with_reducible repeat (first | refine bkN ?_ _ | refine bkD ?_ | refine bkA ?_ _)); exact BK250.out⟩, ⟨by repeat (first | (with_reducible first | exact HB.out | apply bwA | apply bwN | apply bw1 | refine bwS ?_ GE248.out | refine bwS ?_ GE250.out) | exact HB.out)⟩⟩
   case round =>
    clear H';try clear p2
    try clear q2
    try clear hx2
    try clear qi2
    try clear c3
    try clear c3b0
    try clear c3b1
    try clear c4
    try clear c4b0
    try clear c4b1
    try clear c7
    try clear c8
    try clear hcz8_0
    try clear hcz8_1
    try clear hcz8_2
    try clear hfz8_0
    try clear hfz8_1
    try clear hfz8_2
    try clear hx249_0
    try clear hx249_1
    try clear hx249_2
    try clear p249
    try clear q249
    obtain ⟨x6_1, x251000_1, x251001_1, x251002_1, rfl, HA, HK1, BK248, BK250, HB⟩ := hrel;cases gk with
    | zero => exact absurd HA.out (by simp [hang_choice.l0])
    | succ k1 =>
     have H := HA.out;clear HA;simp only [hang_choice.l0] at H;by_cases c9 : x6_1 < (l0.length : Int)
     ·rw [if_pos c9] at H;have c9b0 : decide (x6_1 < (l0.length : Int)) = true := decide_eq_true c9;clear c9;by_cases c10 : 0 ≤ x6_1
      ·rw [if_pos c10] at H;have c10b0 : decide (0 ≤ x6_1) = true := decide_eq_true c10;clear c10;replace H := Option.bind_eq_some_iff.mp H
       obtain ⟨t252, A110, H⟩ := H;try dsimp only at H
       have A11 := Z0.mk A110;clear A110;by_cases c12 : t252 < 0
       ·rw [if_pos c12] at H;have c12b0 : decide (t252 < 0) = true := decide_eq_true c12;clear c12;have H' := Z0.mk H;clear H;try go_wp2
        have n0_ := Z0.mk (bkD BK248.out);have n1_ := Z0.mk (bkD BK250.out);have n2_ := Z0.mk (bw1 HB.out);clear BK248 BK250 HB;have BK248 := n0_;have BK250 := n1_;have HB := n2_;clear n0_ n1_ n2_;have p251 : 0 ≤ (x6_1 : Int) := of_decide_eq_true (by first | (with_reducible assumption) | assumption);have q251 : x6_1 < (l0.length : Int) := of_decide_eq_true (by first | (with_reducible assumption) | assumption);obtain ⟨ad251, e251, hx251_0, hx251_1, hx251_2⟩ := at_T144 HR0.out x6_1 p251 q251;have hw251_2 := hx251_2;have hw251_1 := hx251_1;have hw251_0 := hx251_0;obtain rfl : ad249 = ad251 := (by injection e251);replace hx251_0 := (HB.out.cell (World.block_lt_of_cell? w _ hx251_0)).trans hx251_0
        replace hx251_1 := (HB.out.cell (World.block_lt_of_cell? w _ hx251_1)).trans hx251_1
        replace hx251_2 := (HB.out.cell (World.block_lt_of_cell? w _ hx251_2)).trans hx251_2
        replace p251 := eq_true p251
        replace q251 := eq_true q251
        refine start_ (n := 8) (S := fun w' => w'.cell? ⟨gb250, 0, none⟩ = some (.int .i64 x251000_1) ∧ w'.cell? ⟨gb250, 1, none⟩ = some (.int .i64 x251001_1) ∧ w'.cell? ⟨gb250, 2, none⟩ = some (.int .i64 x251002_1) ∧ w'.cell? (ad249.add ((x6_1).toNat * 3)) = some (.int .i64 ((rd_T144 l0 x6_1).f0)) ∧ w'.cell? ⟨(ad249.add ((x6_1).toNat * 3)).block, (ad249.add ((x6_1).toNat * 3)).off + 1, none⟩ = some (.int .i64 ((rd_T144 l0 x6_1).f1)) ∧ w'.cell? ⟨(ad249.add ((x6_1).toNat * 3)).block, (ad249.add ((x6_1).toNat * 3)).off + 2, none⟩ = some (.int .i64 ((rd_T144 l0 x6_1).f2))) (ds := []) #[false, false, false, false, false, false, false, false] (by kernel_rfl) rfl rfl ⟨(bkC BK250.out 0).trans rfl, (bkC BK250.out 1).trans rfl, (bkC BK250.out 2).trans rfl, ((HB.out.cell (World.block_lt_of_cell? w _ hw251_0)).trans hw251_0), ((HB.out.cell (World.block_lt_of_cell? w _ hw251_1)).trans hw251_1), ((HB.out.cell (World.block_lt_of_cell? w _ hw251_2)).trans hw251_2)⟩ (fun hHd => ?_); refine with_tabW hang_choice.tab7 hang_choice.bits7 (fun HT_ HW_ => ?_);generalize wr.drew = w13 at BK248 BK250 HB hx251_0 hx251_1 hx251_2 hHd ⊢;refine pure_ (i := 0) (N := some 20) (v := ?_) (a' := ?_) #[true, false, false, false, false, false, false, false] rfl rfl (any_of HT_.out (by kernel_rfl)) (fun _ _ _ h => h) (Or.inl ⟨by rfl, ?_⟩) ?_ ?_;rotate_left; (intro w'; go_simp; with_reducible rfl); rotate_left; (simp only [Act.put, List.setIfInBounds_toArray, List.set_cons_zero, List.set_cons_succ, i64_w, i32_w]; rfl);refine pure_ (i := 1) (N := some 21) (v := ?_) (a' := ?_) #[true, true, false, false, false, false, false, false] rfl rfl (any_of HT_.out (by kernel_rfl)) (fun _ _ _ h => h) (Or.inl ⟨by rfl, ?_⟩) ?_ ?_;rotate_left; (intro w'; go_simp; with_reducible rfl); rotate_left; (simp only [Act.put, List.setIfInBounds_toArray, List.set_cons_zero, List.set_cons_succ, i64_w, i32_w]; rfl);refine pure_ (i := 2) (N := some 22) (v := ?_) (a' := ?_) #[true, true, true, false, false, false, false, false] rfl rfl (any_of HT_.out (by kernel_rfl)) (fun _ _ _ h => h) (Or.inl ⟨by rfl, ?_⟩) ?_ ?_;rotate_left; (intro w'; go_simp; with_reducible rfl); rotate_left; (simp only [Act.put, List.setIfInBounds_toArray, List.set_cons_zero, List.set_cons_succ, i64_w, i32_w]; rfl);refine pure_ (i := 3) (N := some 23) (v := ?_) (a' := ?_) #[true, true, true, true, false, false, false, false] rfl rfl (any_of HT_.out (by kernel_rfl)) (fun _ _ _ h => h) (Or.inl ⟨by rfl, ?_⟩) ?_ ?_;rotate_left; (intro w'; go_simp; with_reducible rfl); rotate_left; (simp only [Act.put, List.setIfInBounds_toArray, List.set_cons_zero, List.set_cons_succ, i64_w, i32_w]; rfl);refine take_ (i := 4) (N := some 24) (v := ?_) (a' := ?_) #[true, true, true, true, true, false, false, false] rfl rfl (take_ofW HT_.out HW_.out (by kernel_rfl)) (fun _ _ _ h => h) (Or.inl ⟨by rfl, ?_⟩) hHd ?_ ?_;rotate_left
        ·rintro w' ⟨s0, s1, s2, s3, s4, s5⟩;go_simp
         with_reducible rfl
        rotate_left
        ·simp only [Act.put, List.setIfInBounds_toArray, List.set_cons_zero, List.set_cons_succ, i64_w, i32_w];rfl
        refine take_ (i := 5) (N := some 25) (v := ?_) (a' := ?_) #[true, true, true, true, true, true, false, false] rfl rfl (take_ofW HT_.out HW_.out (by kernel_rfl)) (fun _ _ _ h => h) (Or.inl ⟨by rfl, ?_⟩) hHd ?_ ?_;rotate_left
        ·rintro w' ⟨s0, s1, s2, s3, s4, s5⟩;go_simp
         with_reducible rfl
        rotate_left
        ·simp only [Act.put, List.setIfInBounds_toArray, List.set_cons_zero, List.set_cons_succ, i64_w, i32_w];rfl
        refine one_ (i := 6) (N := some 26) #[true, true, true, true, true, true, true, false] rfl rfl (one_of HT_.out (by kernel_rfl)) (by decide) (fun K hK => ?_);refine goesV_ EG_.out #[.agg #[.int .i64 ((rd_T144 l0 x6_1).f0), .int .i64 ((rd_T144 l0 x6_1).f1), .int .i64 ((rd_T144 l0 x6_1).f2)], .agg #[.int .i64 x251000_1, .int .i64 x251001_1, .int .i64 x251002_1]] (by rfl) rfl rfl (by rfl) (by (try simp only [List.map_toArray, List.map_cons, List.map_nil]) <;> rfl) ?_;with_reducible refine (HCB_.out ((rd_T144 l0 x6_1).f0) ((rd_T144 l0 x6_1).f1) ((rd_T144 l0 x6_1).f2) x251000_1 x251001_1 x251002_1 t252 _ (by repeat (first | (with_reducible first | exact HB.out | apply bwA | apply bwN | apply bw1 | refine bwS ?_ GE248.out | refine bwS ?_ GE250.out) | exact HB.out)) A11.out).mono ?_
        rintro e w14 ⟨rfl, hb⟩;refine ⟨_, rfl, ?_⟩;have n0_ := Z0.mk (bkB (g := gb248) (o := .cells #[.int .i64 0, .int .i64 0, .int .i64 0] 144 (0, 0)) (by (with_reducible repeat (first | refine bkN ?_ _ | refine bkD ?_ | refine bkA ?_ _)); exact BK248.out) hb);have n1_ := Z0.mk (bkB (g := gb250) (o := .cells #[.int .i64 x251000_1, .int .i64 x251001_1, .int .i64 x251002_1] 144 (0, 0)) (by (with_reducible repeat (first | refine bkN ?_ _ | refine bkD ?_ | refine bkA ?_ _)); exact BK250.out) hb);have n2_ := Z0.mk (bwT (by repeat (first | (with_reducible first | exact HB.out | apply bwA | apply bwN | apply bw1 | refine bwS ?_ GE248.out | refine bwS ?_ GE250.out) | exact HB.out)) hb);clear BK248 BK250 HB;have BK248 := n0_;have BK250 := n1_;have HB := n2_;clear n0_ n1_ n2_;(try clear hb)
        (try clear hb2)
        (try clear hk)
        (try clear hi)
        refine hK.out _ _ ⟨(bkC BK250.out 0).trans rfl, (bkC BK250.out 1).trans rfl, (bkC BK250.out 2).trans rfl, ((HB.out.cell (World.block_lt_of_cell? w _ hw251_0)).trans hw251_0), ((HB.out.cell (World.block_lt_of_cell? w _ hw251_1)).trans hw251_1), ((HB.out.cell (World.block_lt_of_cell? w _ hw251_2)).trans hw251_2)⟩ (fun hHd => ?_);clear hK K;refine norm_ (a' := ?_) ?_ ?_;rotate_left
        ·show Act.put _ (some 26) _ = _
         simp only [Act.put, List.setIfInBounds_toArray, List.set_cons_zero, List.set_cons_succ, i64_w, i32_w];rfl
        refine pure_ (i := 7) (N := some 27) (v := ?_) (a' := ?_) #[true, true, true, true, true, true, true, true] rfl rfl (any_of HT_.out (by kernel_rfl)) (fun _ _ _ h => h) (Or.inl ⟨by rfl, ?_⟩) ?_ ?_;rotate_left; (intro w'; go_simp; with_reducible rfl); rotate_left; (simp only [Act.put, List.setIfInBounds_toArray, List.set_cons_zero, List.set_cons_succ, i64_w, i32_w]; rfl);refine done_ (done_of HT_.out (by kernel_rfl)) ?_;have p253 : 0 ≤ (x6_1 : Int) := of_decide_eq_true (by first | (with_reducible assumption) | assumption);have q253 : x6_1 < (l0.length : Int) := of_decide_eq_true (by first | (with_reducible assumption) | assumption);obtain ⟨ad253, e253, hx253_0, hx253_1, hx253_2⟩ := at_T144 HR0.out x6_1 p253 q253;obtain rfl : ad249 = ad253 := (by injection e253);replace hx253_0 := (HB.out.cell (World.block_lt_of_cell? w _ hx253_0)).trans hx253_0
        replace hx253_1 := (HB.out.cell (World.block_lt_of_cell? w _ hx253_1)).trans hx253_1
        replace hx253_2 := (HB.out.cell (World.block_lt_of_cell? w _ hx253_2)).trans hx253_2
        replace p253 := eq_true p253
        replace q253 := eq_true q253
        have hnb15 := NB250_248.out;have hnc15 := NB248_250.out;have hcz16_0 : w14.cell? ⟨gb250, 0, none⟩ = some (.int .i64 x251000_1) := (bkC BK250.out 0).trans rfl;have hcz16_1 : w14.cell? ⟨gb250, 1, none⟩ = some (.int .i64 x251001_1) := (bkC BK250.out 1).trans rfl;have hcz16_2 : w14.cell? ⟨gb250, 2, none⟩ = some (.int .i64 x251002_1) := (bkC BK250.out 2).trans rfl;have hfz16_0 := bkZ BK250.out 0;have hfz16_1 := bkZ BK250.out 1;have hfz16_2 := bkZ BK250.out 2;try go_wp2
        go_roundg k1
        case measure => have := HK1.out; omega
        case rel => exact ⟨(wrap64 (x6_1 + 1)), ((rd_T144 l0 x6_1).f0), ((rd_T144 l0 x6_1).f1), ((rd_T144 l0 x6_1).f2), (by first | rfl | (simp; done) | (simp [*]; done)), H', ⟨by have := HK1.out; omega⟩, ⟨by (with_reducible repeat (first | refine bkN ?_ _ | refine bkD ?_ | refine bkA ?_ _)); refine bkF ?_ NB248_250.out _; (with_reducible repeat (first | refine bkN ?_ _ | refine bkD ?_ | refine bkA ?_ _)); refine bkF ?_ NB248_250.out _; (with_reducible repeat (first | refine bkN ?_ _ | refine bkD ?_ | refine bkA ?_ _)); refine bkF ?_ NB248_250.out _; (with_reducible repeat (first | refine bkN ?_ _ | refine bkD ?_ | refine bkA ?_ _)); exact BK248.out⟩, ⟨by (with_reducible repeat (first | refine bkN ?_ _ | refine bkD ?_ | refine bkA ?_ _)); refine bkP (cs := #[.int .i64 ((rd_T144 l0 x6_1).f0), .int .i64 ((rd_T144 l0 x6_1).f1), .int .i64 x251002_1]) ?_ 2 _ rfl; (with_reducible repeat (first | refine bkN ?_ _ | refine bkD ?_ | refine bkA ?_ _)); refine bkP (cs := #[.int .i64 ((rd_T144 l0 x6_1).f0), .int .i64 x251001_1, .int .i64 x251002_1]) ?_ 1 _ rfl; (with_reducible repeat (first | refine bkN ?_ _ | refine bkD ?_ | refine bkA ?_ _)); refine bkP (cs := #[.int .i64 x251000_1, .int .i64 x251001_1, .int .i64 x251002_1]) ?_ 0 _ rfl; (with_reducible repeat (first | refine bkN ?_ _ | refine bkD ?_ | refine bkA ?_ _)); exact BK250.out⟩, ⟨by repeat (first | (with_reducible first | exact HB.out | apply bwA | apply bwN | apply bw1 | refine bwS ?_ GE248.out | refine bwS ?_ GE250.out) | exact HB.out)⟩⟩
       ·rw [if_neg c12] at H;have c12b0 : decide (t252 < 0) = false := decide_eq_false c12;clear c12;have H' := Z0.mk H;clear H;try go_wp2
        have n0_ := Z0.mk (bkD BK248.out);have n1_ := Z0.mk (bkD BK250.out);have n2_ := Z0.mk (bw1 HB.out);clear BK248 BK250 HB;have BK248 := n0_;have BK250 := n1_;have HB := n2_;clear n0_ n1_ n2_;have p251 : 0 ≤ (x6_1 : Int) := of_decide_eq_true (by first | (with_reducible assumption) | assumption);have q251 : x6_1 < (l0.length : Int) := of_decide_eq_true (by first | (with_reducible assumption) | assumption);obtain ⟨ad251, e251, hx251_0, hx251_1, hx251_2⟩ := at_T144 HR0.out x6_1 p251 q251;have hw251_2 := hx251_2;have hw251_1 := hx251_1;have hw251_0 := hx251_0;obtain rfl : ad249 = ad251 := (by injection e251);replace hx251_0 := (HB.out.cell (World.block_lt_of_cell? w _ hx251_0)).trans hx251_0
        replace hx251_1 := (HB.out.cell (World.block_lt_of_cell? w _ hx251_1)).trans hx251_1
        replace hx251_2 := (HB.out.cell (World.block_lt_of_cell? w _ hx251_2)).trans hx251_2
        replace p251 := eq_true p251
        replace q251 := eq_true q251
        refine start_ (n := 8) (S := fun w' => w'.cell? ⟨gb250, 0, none⟩ = some (.int .i64 x251000_1) ∧ w'.cell? ⟨gb250, 1, none⟩ = some (.int .i64 x251001_1) ∧ w'.cell? ⟨gb250, 2, none⟩ = some (.int .i64 x251002_1) ∧ w'.cell? (ad249.add ((x6_1).toNat * 3)) = some (.int .i64 ((rd_T144 l0 x6_1).f0)) ∧ w'.cell? ⟨(ad249.add ((x6_1).toNat * 3)).block, (ad249.add ((x6_1).toNat * 3)).off + 1, none⟩ = some (.int .i64 ((rd_T144 l0 x6_1).f1)) ∧ w'.cell? ⟨(ad249.add ((x6_1).toNat * 3)).block, (ad249.add ((x6_1).toNat * 3)).off + 2, none⟩ = some (.int .i64 ((rd_T144 l0 x6_1).f2))) (ds := []) #[false, false, false, false, false, false, false, false] (by kernel_rfl) rfl rfl ⟨(bkC BK250.out 0).trans rfl, (bkC BK250.out 1).trans rfl, (bkC BK250.out 2).trans rfl, ((HB.out.cell (World.block_lt_of_cell? w _ hw251_0)).trans hw251_0), ((HB.out.cell (World.block_lt_of_cell? w _ hw251_1)).trans hw251_1), ((HB.out.cell (World.block_lt_of_cell? w _ hw251_2)).trans hw251_2)⟩ (fun hHd => ?_); refine with_tabW hang_choice.tab7 hang_choice.bits7 (fun HT_ HW_ => ?_);generalize wr.drew = w17 at BK248 BK250 HB hx251_0 hx251_1 hx251_2 hHd ⊢;refine pure_ (i := 0) (N := some 20) (v := ?_) (a' := ?_) #[true, false, false, false, false, false, false, false] rfl rfl (any_of HT_.out (by kernel_rfl)) (fun _ _ _ h => h) (Or.inl ⟨by rfl, ?_⟩) ?_ ?_;rotate_left; (intro w'; go_simp; with_reducible rfl); rotate_left; (simp only [Act.put, List.setIfInBounds_toArray, List.set_cons_zero, List.set_cons_succ, i64_w, i32_w]; rfl);refine pure_ (i := 1) (N := some 21) (v := ?_) (a' := ?_) #[true, true, false, false, false, false, false, false] rfl rfl (any_of HT_.out (by kernel_rfl)) (fun _ _ _ h => h) (Or.inl ⟨by rfl, ?_⟩) ?_ ?_;rotate_left; (intro w'; go_simp; with_reducible rfl); rotate_left; (simp only [Act.put, List.setIfInBounds_toArray, List.set_cons_zero, List.set_cons_succ, i64_w, i32_w]; rfl);refine pure_ (i := 2) (N := some 22) (v := ?_) (a' := ?_) #[true, true, true, false, false, false, false, false] rfl rfl (any_of HT_.out (by kernel_rfl)) (fun _ _ _ h => h) (Or.inl ⟨by rfl, ?_⟩) ?_ ?_;rotate_left; (intro w'; go_simp; with_reducible rfl); rotate_left; (simp only [Act.put, List.setIfInBounds_toArray, List.set_cons_zero, List.set_cons_succ, i64_w, i32_w]; rfl);refine pure_ (i := 3) (N := some 23) (v := ?_) (a' := ?_) #[true, true, true, true, false, false, false, false] rfl rfl (any_of HT_.out (by kernel_rfl)) (fun _ _ _ h => h) (Or.inl ⟨by rfl, ?_⟩) ?_ ?_;rotate_left; (intro w'; go_simp; with_reducible rfl); rotate_left; (simp only [Act.put, List.setIfInBounds_toArray, List.set_cons_zero, List.set_cons_succ, i64_w, i32_w]; rfl);refine take_ (i := 4) (N := some 24) (v := ?_) (a' := ?_) #[true, true, true, true, true, false, false, false] rfl rfl (take_ofW HT_.out HW_.out (by kernel_rfl)) (fun _ _ _ h => h) (Or.inl ⟨by rfl, ?_⟩) hHd ?_ ?_;rotate_left
        ·rintro w' ⟨s0, s1, s2, s3, s4, s5⟩;go_simp
         with_reducible rfl
        rotate_left
        ·simp only [Act.put, List.setIfInBounds_toArray, List.set_cons_zero, List.set_cons_succ, i64_w, i32_w];rfl
        refine take_ (i := 5) (N := some 25) (v := ?_) (a' := ?_) #[true, true, true, true, true, true, false, false] rfl rfl (take_ofW HT_.out HW_.out (by kernel_rfl)) (fun _ _ _ h => h) (Or.inl ⟨by rfl, ?_⟩) hHd ?_ ?_;rotate_left
        ·rintro w' ⟨s0, s1, s2, s3, s4, s5⟩;go_simp
         with_reducible rfl
        rotate_left
        ·simp only [Act.put, List.setIfInBounds_toArray, List.set_cons_zero, List.set_cons_succ, i64_w, i32_w];rfl
        refine one_ (i := 6) (N := some 26) #[true, true, true, true, true, true, true, false] rfl rfl (one_of HT_.out (by kernel_rfl)) (by decide) (fun K hK => ?_);refine goesV_ EG_.out #[.agg #[.int .i64 ((rd_T144 l0 x6_1).f0), .int .i64 ((rd_T144 l0 x6_1).f1), .int .i64 ((rd_T144 l0 x6_1).f2)], .agg #[.int .i64 x251000_1, .int .i64 x251001_1, .int .i64 x251002_1]] (by rfl) rfl rfl (by rfl) (by (try simp only [List.map_toArray, List.map_cons, List.map_nil]) <;> rfl) ?_;with_reducible refine (HCB_.out ((rd_T144 l0 x6_1).f0) ((rd_T144 l0 x6_1).f1) ((rd_T144 l0 x6_1).f2) x251000_1 x251001_1 x251002_1 t252 _ (by repeat (first | (with_reducible first | exact HB.out | apply bwA | apply bwN | apply bw1 | refine bwS ?_ GE248.out | refine bwS ?_ GE250.out) | exact HB.out)) A11.out).mono ?_
        rintro e w18 ⟨rfl, hb⟩;refine ⟨_, rfl, ?_⟩;have n0_ := Z0.mk (bkB (g := gb248) (o := .cells #[.int .i64 0, .int .i64 0, .int .i64 0] 144 (0, 0)) (by (with_reducible repeat (first | refine bkN ?_ _ | refine bkD ?_ | refine bkA ?_ _)); exact BK248.out) hb);have n1_ := Z0.mk (bkB (g := gb250) (o := .cells #[.int .i64 x251000_1, .int .i64 x251001_1, .int .i64 x251002_1] 144 (0, 0)) (by (with_reducible repeat (first | refine bkN ?_ _ | refine bkD ?_ | refine bkA ?_ _)); exact BK250.out) hb);have n2_ := Z0.mk (bwT (by repeat (first | (with_reducible first | exact HB.out | apply bwA | apply bwN | apply bw1 | refine bwS ?_ GE248.out | refine bwS ?_ GE250.out) | exact HB.out)) hb);clear BK248 BK250 HB;have BK248 := n0_;have BK250 := n1_;have HB := n2_;clear n0_ n1_ n2_;(try clear hb)
        (try clear hb2)
        (try clear hk)
        (try clear hi)
        refine hK.out _ _ ⟨(bkC BK250.out 0).trans rfl, (bkC BK250.out 1).trans rfl, (bkC BK250.out 2).trans rfl, ((HB.out.cell (World.block_lt_of_cell? w _ hw251_0)).trans hw251_0), ((HB.out.cell (World.block_lt_of_cell? w _ hw251_1)).trans hw251_1), ((HB.out.cell (World.block_lt_of_cell? w _ hw251_2)).trans hw251_2)⟩ (fun hHd => ?_);clear hK K;refine norm_ (a' := ?_) ?_ ?_;rotate_left
        ·show Act.put _ (some 26) _ = _
         simp only [Act.put, List.setIfInBounds_toArray, List.set_cons_zero, List.set_cons_succ, i64_w, i32_w];rfl
        refine pure_ (i := 7) (N := some 27) (v := ?_) (a' := ?_) #[true, true, true, true, true, true, true, true] rfl rfl (any_of HT_.out (by kernel_rfl)) (fun _ _ _ h => h) (Or.inl ⟨by rfl, ?_⟩) ?_ ?_;rotate_left; (intro w'; go_simp; with_reducible rfl); rotate_left; (simp only [Act.put, List.setIfInBounds_toArray, List.set_cons_zero, List.set_cons_succ, i64_w, i32_w]; rfl);refine done_ (done_of HT_.out (by kernel_rfl)) ?_;try go_wp2
        go_roundg k1
        case measure => have := HK1.out; omega
        case rel => exact ⟨(wrap64 (x6_1 + 1)), (x251000_1), (x251001_1), (x251002_1), (by first | rfl | (simp; done) | (simp [*]; done)), H', ⟨by have := HK1.out; omega⟩, ⟨by (with_reducible repeat (first | refine bkN ?_ _ | refine bkD ?_ | refine bkA ?_ _)); exact BK248.out⟩, ⟨by (with_reducible repeat (first | refine bkN ?_ _ | refine bkD ?_ | refine bkA ?_ _)); exact BK250.out⟩, ⟨by repeat (first | (with_reducible first | exact HB.out | apply bwA | apply bwN | apply bw1 | refine bwS ?_ GE248.out | refine bwS ?_ GE250.out) | exact HB.out)⟩⟩
      ·rw [if_neg c10] at H;exact absurd H (by simp)
     ·rw [if_neg c9] at H;have c9b0 : decide (x6_1 < (l0.length : Int)) = false := decide_eq_false c9;clear c9;simp only [Option.some.injEq, Prod.mk.injEq] at H;obtain ⟨rfl, rfl, rfl⟩ := H;have hnb19 := NB250_248.out;have hnc19 := NB248_250.out;have hcz20_0 : wr.cell? ⟨gb250, 0, none⟩ = some (.int .i64 x251000_1) := (bkC BK250.out 0).trans rfl;have hcz20_1 : wr.cell? ⟨gb250, 1, none⟩ = some (.int .i64 x251001_1) := (bkC BK250.out 1).trans rfl;have hcz20_2 : wr.cell? ⟨gb250, 2, none⟩ = some (.int .i64 x251002_1) := (bkC BK250.out 2).trans rfl;have hfz20_0 := bkZ BK250.out 0;have hfz20_1 := bkZ BK250.out 1;have hfz20_2 := bkZ BK250.out 2;have hcz21_0 : wr.cell? ⟨gb248, 0, none⟩ = some (.int .i64 0) := (bkC BK248.out 0).trans rfl;have hcz21_1 : wr.cell? ⟨gb248, 1, none⟩ = some (.int .i64 0) := (bkC BK248.out 1).trans rfl;have hcz21_2 : wr.cell? ⟨gb248, 2, none⟩ = some (.int .i64 0) := (bkC BK248.out 2).trans rfl;have hfz21_0 := bkZ BK248.out 0;have hfz21_1 := bkZ BK248.out 1;have hfz21_2 := bkZ BK248.out 2;go_wp2
      refine bodyPost_ret (results_cell_row rfl _ _ gb248 144 #[.int .i64 x251000_1, .int .i64 x251001_1, .int .i64 x251002_1] (0, 0) _ rfl (by (with_reducible repeat (first | refine bkN ?_ _ | refine bkD ?_ | refine bkA ?_ _)); refine bkP (cs := #[.int .i64 x251000_1, .int .i64 x251001_1, .int .i64 0]) ?_ 2 _ rfl; (with_reducible repeat (first | refine bkN ?_ _ | refine bkD ?_ | refine bkA ?_ _)); refine bkP (cs := #[.int .i64 x251000_1, .int .i64 0, .int .i64 0]) ?_ 1 _ rfl; (with_reducible repeat (first | refine bkN ?_ _ | refine bkD ?_ | refine bkA ?_ _)); refine bkP (cs := #[.int .i64 0, .int .i64 0, .int .i64 0]) ?_ 0 _ rfl; (with_reducible repeat (first | refine bkN ?_ _ | refine bkD ?_ | refine bkA ?_ _)); exact BK248.out) Tryd.underlying144 rfl (by kernel_rfl)) rfl ?_;exact ⟨by first | rfl | (simp [errW_none, errW_some] <;> rfl) | (simp [*, errW_none, errW_some] <;> rfl), by repeat (first | (with_reducible first | exact HB.out | apply bwA | apply bwN | apply bw1 | refine bwS ?_ GE248.out | refine bwS ?_ GE250.out) | exact HB.out)⟩
  ·rw [if_neg c4] at H;exact absurd H (by simp)
def cmp_Or_int.l0 : Nat → Int → List Int → Int → Int → Option (Int)
 | 0, _, _, _, _ => none
 | k + 1, x3, x6, x7, x8 => if x8 < x7 then (if 0 ≤ x8 then (if x8 < (x6.length : Int) then (if (rd x6 x8) = x3 then (cmp_Or_int.l0 k x3 x6 x7 (wrap64 (x8 + 1))) else (some (rd x6 x8))) else (none)) else (none)) else (some x3)
def cmp_Or_int.f (k : Nat) (l0 : List Int) : Option (Int) := cmp_Or_int.l0 k 0 l0 (l0.length : Int) 0
theorem cmp_Or_int.mono_l : ∀ k, (∀ y0 y1 y2 y3, LeO (cmp_Or_int.l0 k y0 y1 y2 y3) (cmp_Or_int.l0 (k + 1) y0 y1 y2 y3))
 | 0 => fun _ _ _ _ r h => by simp [cmp_Or_int.l0] at h
 | k + 1 => by
  have ih0 := cmp_Or_int.mono_l k
  ·intro y0 y1 y2 y3;unfold cmp_Or_int.l0
   repeat' first
   | (with_reducible exact ih0 _ _ _ _)
   | (with_reducible exact LeO.refl _)
   | (with_reducible exact LeO.none _)
   | (with_reducible refine LeO.ite ?_ ?_)
   | (with_reducible refine LeO.bind ?_ (fun _ => ?_))
   | exact ih0 _ _ _ _
   | exact LeO.none _
   | refine LeO.ite ?_ ?_
   | refine LeO.bind ?_ (fun _ => ?_)
theorem cmp_Or_int.mono : ∀ a0 k, LeO (cmp_Or_int.f k a0) (cmp_Or_int.f (k + 1) a0) := by
 intro a0 k
 have ih0 := cmp_Or_int.mono_l k
 unfold cmp_Or_int.f
 repeat' first
   | (with_reducible exact ih0 _ _ _ _)
   | (with_reducible exact LeO.refl _)
   | (with_reducible exact LeO.none _)
   | (with_reducible refine LeO.ite ?_ ?_)
   | (with_reducible refine LeO.bind ?_ (fun _ => ?_))
   | exact ih0 _ _ _ _
   | exact LeO.none _
   | refine LeO.ite ?_ ?_
   | refine LeO.bind ?_ (fun _ => ?_)
set_option maxHeartbeats 8000000 in
set_option maxRecDepth 100000 in
theorem cmp_Or_int.calls (k : Nat) (A0 : Option Addr) (c0 : Nat) (l0 : List Int) (r : Int) (w : World) (hr0 : Kd.C (Kd.int .i64) w A0 l0.length l0) (hc0 : l0.length ≤ c0) (h : cmp_Or_int.f k l0 = some r) :
  Calls Tryd.prog 109 #[.slice A0 l0.length c0] w fun e w' => e = .returned (.int .i64 r) ∧ Drawn0 w w' := by
 have HR0 := Z0.mk hr0
 have HC0 := Z0.mk hc0
 clear hr0 hc0
 have H : (cmp_Or_int.l0 k 0 l0 (l0.length : Int) 0) = some r := h
 clear h
 have H' := Z0.mk H
 clear H
 go_enter Tryd.func109, Tryd.ntmps109
 go_wp2
 go_loopg [8] k (fun kq v8 w' => ∃ (x8_1 : Int), v8 = .int .i64 x8_1 ∧ Z0 (cmp_Or_int.l0 kq 0 l0 (l0.length : Int) x8_1 = some r) ∧ Z0 (kq ≤ k) ∧ Drawn0 w w')
 case atStart => exact ⟨(0), (by first | rfl | (simp; done) | (simp [*]; done)), H', ⟨Nat.le_refl _⟩, by repeat (first | exact Drawn0.refl _ | apply Drawn0.step)⟩
 case round =>
  clear H';try clear c1
  obtain ⟨x8_1, rfl, HA, HK1, ⟨m1, rfl⟩⟩ := hrel;cases gk with
  | zero => exact absurd HA.out (by simp [cmp_Or_int.l0])
  | succ k1 =>
   have H := HA.out;clear HA;simp only [cmp_Or_int.l0] at H;by_cases c2 : x8_1 < (l0.length : Int)
   ·rw [if_pos c2] at H;have c2b0 : decide (x8_1 < (l0.length : Int)) = true := decide_eq_true c2;clear c2;by_cases c3 : 0 ≤ x8_1
    ·rw [if_pos c3] at H;have c3b0 : decide (0 ≤ x8_1) = true := decide_eq_true c3;clear c3;by_cases c4 : x8_1 < (l0.length : Int)
     ·rw [if_pos c4] at H;have c4b0 : decide (x8_1 < (l0.length : Int)) = true := decide_eq_true c4;clear c4;by_cases c5 : (rd l0 x8_1) = 0
      ·rw [if_pos c5] at H;have c5b0 : ((rd l0 x8_1) == 0) = true := beq_iff_eq.mpr c5;have c5b1 : ((rd l0 x8_1) != 0) = false := bne_eq_false_iff_eq.mpr c5;clear c5;have H' := Z0.mk H;clear H;have p846 : 0 ≤ (x8_1 : Int) := of_decide_eq_true (by first | (with_reducible assumption) | assumption);have q846 : x8_1 < (l0.length : Int) := of_decide_eq_true (by first | (with_reducible assumption) | assumption);obtain ⟨ad846, e846, hx846_0⟩ := Kd.at_int HR0.out x8_1 p846 q846;cases e846;replace p846 := eq_true p846
       replace q846 := eq_true q846
       go_wp2
       go_roundg k1
       case measure => have := HK1.out; omega
       case rel => exact ⟨(wrap64 (x8_1 + 1)), (by first | rfl | (simp; done) | (simp [*]; done)), H', ⟨by have := HK1.out; omega⟩, by repeat (first | exact Drawn0.refl _ | apply Drawn0.step)⟩
      ·rw [if_neg c5] at H;have c5b0 : ((rd l0 x8_1) == 0) = false := beq_eq_false_iff_ne.mpr c5;have c5b1 : ((rd l0 x8_1) != 0) = true := bne_iff_ne.mpr c5;obtain rfl := Option.some.inj H;have p846 : 0 ≤ (x8_1 : Int) := of_decide_eq_true (by first | (with_reducible assumption) | assumption);have q846 : x8_1 < (l0.length : Int) := of_decide_eq_true (by first | (with_reducible assumption) | assumption);obtain ⟨ad846, e846, hx846_0⟩ := Kd.at_int HR0.out x8_1 p846 q846;cases e846;replace p846 := eq_true p846
       replace q846 := eq_true q846
       go_wp2
       go_ret
       exact ⟨by first | rfl | (simp; done) | (simp [*]; done), by repeat (first | exact Drawn0.refl _ | apply Drawn0.step)⟩
     ·rw [if_neg c4] at H;exact absurd H (by simp)
    ·rw [if_neg c3] at H;exact absurd H (by simp)
   ·rw [if_neg c2] at H;have c2b0 : decide (x8_1 < (l0.length : Int)) = false := decide_eq_false c2;clear c2;obtain rfl := Option.some.inj H;go_wp2
    go_ret
    exact ⟨by first | rfl | (simp; done) | (simp [*]; done), by repeat (first | exact Drawn0.refl _ | apply Drawn0.step)⟩
def hang_choice_compare.f (k : Nat) (a0_0 : Int) (a0_1 : Int) (a0_2 : Int) (a1_0 : Int) (a1_1 : Int) (a1_2 : Int) : Option (Int) := (cmp_Compare_int.f a0_0 a1_0).bind fun t849 => ((cmp_Compare_int.f a0_1 a1_1).bind fun t850 => ((cmp_Compare_int.f a0_2 a1_2).bind fun t851 => ((cmp_Or_int.f k (([t849, t850, t851] : List Int))).bind fun t855 => (some t855))))
theorem hang_choice_compare.mono : ∀ a0 a1 a2 a3 a4 a5 k, LeO (hang_choice_compare.f k a0 a1 a2 a3 a4 a5) (hang_choice_compare.f (k + 1) a0 a1 a2 a3 a4 a5) := by
 intro a0 a1 a2 a3 a4 a5 k
 unfold hang_choice_compare.f
 repeat' first
   | (with_reducible exact cmp_Or_int.mono _ _)
   | (with_reducible exact LeO.refl _)
   | (with_reducible exact LeO.none _)
   | (with_reducible refine LeO.ite ?_ ?_)
   | (with_reducible refine LeO.bind ?_ (fun _ => ?_))
   | exact cmp_Or_int.mono _ _
   | exact LeO.none _
   | refine LeO.ite ?_ ?_
   | refine LeO.bind ?_ (fun _ => ?_)
def hang_choice_compare.T1 : Bool × List (List Nat × List Nat) := (true, [([], []), ([0], [0]), ([], []), ([2], [2]), ([1, 3], [1, 3]), ([], []), ([5], [5]), ([], []), ([7], [7]), ([6, 8, 4], [6, 8]), ([], []), ([10], [10]), ([], []), ([12], [12]), ([11, 13, 9], [11, 13]), ([4, 9, 14], [4, 9, 14]), ([15, 14], [15]), ([16, 16, 0, 1, 2, 3, 4, 5, 6, 7, 8, 9, 10, 11, 12, 13, 14, 15, 16], [16])])
def hang_choice_compare.B1 : List Nat := [0, 1, 0, 4, 15, 0, 32, 0, 128, 511, 0, 1024, 0, 4096, 16383, 32767, 65535, 131071]
theorem hang_choice_compare.tab1 : rtab .any (opsOf Tryd.f86 1) = hang_choice_compare.T1 := by kernel_rfl
theorem hang_choice_compare.bits1 : waitsOk hang_choice_compare.T1.2 hang_choice_compare.B1 = true := by kernel_rfl
set_option maxHeartbeats 8000000 in
set_option maxRecDepth 100000 in
theorem hang_choice_compare.calls (k : Nat) (a0_0 : Int) (a0_1 : Int) (a0_2 : Int) (a1_0 : Int) (a1_1 : Int) (a1_2 : Int) (r : Int) (w : World) (h : hang_choice_compare.f k a0_0 a0_1 a0_2 a1_0 a1_1 a1_2 = some r) :
  Calls Tryd.prog 86 #[.agg #[.int .i64 a0_0, .int .i64 a0_1, .int .i64 a0_2], .agg #[.int .i64 a1_0, .int .i64 a1_1, .int .i64 a1_2]] w fun e w' => e = .returned (.int .i64 r) ∧ Below w.heap.size w w' := by
 have hu144 := Tryd.underlying144
 have HB := Z0.mk (Below.refl w.heap.size w)
 have H : ((cmp_Compare_int.f a0_0 a1_0).bind fun t849 => ((cmp_Compare_int.f a0_1 a1_1).bind fun t850 => ((cmp_Compare_int.f a0_2 a1_2).bind fun t851 => ((cmp_Or_int.f k (([t849, t850, t851] : List Int))).bind fun t855 => (some t855))))) = some r := h
 clear h
 replace H := Option.bind_eq_some_iff.mp H
 obtain ⟨t849, A30, H⟩ := H
 try dsimp only at H
 have A3 := Z0.mk A30
 clear A30
 replace H := Option.bind_eq_some_iff.mp H
 obtain ⟨t850, A40, H⟩ := H
 try dsimp only at H
 have A4 := Z0.mk A40
 clear A40
 replace H := Option.bind_eq_some_iff.mp H
 obtain ⟨t851, A50, H⟩ := H
 try dsimp only at H
 have A5 := Z0.mk A50
 clear A50
 obtain ⟨y852, hy852⟩ : ∃ y_ : List Int, y_ = (([t849, t850, t851] : List Int)) := ⟨_, rfl⟩
 replace H : ((cmp_Or_int.f k y852).bind fun t855 => (some t855)) = some r := by first | (rw [hy852]; with_reducible exact H) | (have H2_ := (Option.bind_some _ _).symm.trans H; rw [hy852]; with_reducible exact H2_) | (have H2_ := (Option.bind_some _ _).symm.trans H; with_reducible exact H2_) | with_reducible exact H | (rw [hy852]; exact H) | exact H
 have Ny852 := Z0.mk hy852
 clear hy852
 replace H := Option.bind_eq_some_iff.mp H
 obtain ⟨t855, A60, H⟩ := H
 try dsimp only at H
 have A6 := Z0.mk A60
 clear A60
 obtain rfl := Option.some.inj H
 go_enter Tryd.func86, Tryd.ntmps86
 try go_wp2_with (first | ((with_reducible refine gtD (N := 2) rfl ?_); refine bxE ?hg (N := 2) ?hd (cs := #[.int .i64 a0_0, .int .i64 a0_1, .int .i64 a0_2]) (t := 144) ?hr ?_; (case hd => rfl); (case hg => rfl); (case hr => first | (go_simp; done) | (go_simp; rfl)); intro gb847 hg w7 hbox hb; have n0_ := Z0.mk (bwT (by repeat (first | (with_reducible first | exact HB.out | apply bwA | apply bwN | apply bw1) | exact HB.out)) hb); have n1_ := Z0.mk (hbox); have n2_ := Z0.mk ((by rw [hg]; exact (bwZ (by repeat (first | (with_reducible first | exact HB.out | apply bwA | apply bwN | apply bw1) | exact HB.out))) : w.heap.size ≤ gb847)); have n3_ := Z0.mk ((by rw [hg]; exact (bwZ (by repeat (first | (with_reducible first | exact HB.out | apply bwA | apply bwN | apply bw1) | exact HB.out))) : w.heap.size ≤ gb847)); clear HB; have HB := n0_; have BK847 := n1_; have GW847 := n2_; have GE847 := n3_; clear n0_ n1_ n2_ n3_; clear hb hbox hg) | ((with_reducible refine gtD (N := 3) rfl ?_); refine bxE ?hg (N := 3) ?hd (cs := #[.int .i64 a1_0, .int .i64 a1_1, .int .i64 a1_2]) (t := 144) ?hr ?_; (case hd => rfl); (case hg => rfl); (case hr => first | (go_simp; done) | (go_simp; rfl)); intro gb848 hg w8 hbox hb; have n0_ := Z0.mk (bkB (g := gb847) (o := .cells #[.int .i64 a0_0, .int .i64 a0_1, .int .i64 a0_2] 144 (0, 0)) (by (with_reducible repeat (first | refine bkN ?_ _ | refine bkD ?_ | refine bkA ?_ _)); exact BK847.out) hb); have n1_ := Z0.mk (bwT (by repeat (first | (with_reducible first | exact HB.out | apply bwA | apply bwN | apply bw1 | refine bwS ?_ GE847.out) | exact HB.out)) hb); have n2_ := Z0.mk (hbox); have n3_ := Z0.mk ((by rw [hg]; exact (bwZ (by repeat (first | (with_reducible first | exact HB.out | apply bwA | apply bwN | apply bw1 | refine bwS ?_ GE847.out) | exact HB.out))) : w.heap.size ≤ gb848)); have n4_ := Z0.mk ((by rw [hg]; exact (bwZ (by repeat (first | (with_reducible first | exact HB.out | apply bwA | apply bwN | apply bw1 | refine bwS ?_ GE847.out) | exact HB.out))) : w.heap.size ≤ gb848)); have n5_ := Z0.mk ((by rw [hg]; exact Nat.ne_of_lt (blk_lt (g := gb847) (o := .cells #[.int .i64 a0_0, .int .i64 a0_1, .int .i64 a0_2] 144 (0, 0)) (by (with_reducible repeat (first | refine bkN ?_ _ | refine bkD ?_ | refine bkA ?_ _)); exact BK847.out)) : gb847 ≠ gb848)); have n6_ := Z0.mk ((by rw [hg]; exact Nat.ne_of_gt (blk_lt (g := gb847) (o := .cells #[.int .i64 a0_0, .int .i64 a0_1, .int .i64 a0_2] 144 (0, 0)) (by (with_reducible repeat (first | refine bkN ?_ _ | refine bkD ?_ | refine bkA ?_ _)); exact BK847.out)) : gb848 ≠ gb847)); clear BK847 HB; have BK847 := n0_; have HB := n1_; have BK848 := n2_; have GW848 := n3_; have GE848 := n4_; have NB847_848 := n5_; have NB848_847 := n6_; clear n0_ n1_ n2_ n3_ n4_ n5_ n6_; clear hb hbox hg))
 have n0_ := Z0.mk (bkD BK847.out)
 have n1_ := Z0.mk (bkD BK848.out)
 have n2_ := Z0.mk (bw1 HB.out)
 clear BK847 BK848 HB
 have BK847 := n0_
 have BK848 := n1_
 have HB := n2_
 clear n0_ n1_ n2_
 refine start_ (n := 18) (S := fun w' => w'.cell? ⟨gb847, 0, none⟩ = some (.int .i64 a0_0) ∧ w'.cell? ⟨gb847, 1, none⟩ = some (.int .i64 a0_1) ∧ w'.cell? ⟨gb847, 2, none⟩ = some (.int .i64 a0_2) ∧ w'.cell? ⟨gb848, 0, none⟩ = some (.int .i64 a1_0) ∧ w'.cell? ⟨gb848, 1, none⟩ = some (.int .i64 a1_1) ∧ w'.cell? ⟨gb848, 2, none⟩ = some (.int .i64 a1_2)) (ds := []) #[false, false, false, false, false, false, false, false, false, false, false, false, false, false, false, false, false, false] (by kernel_rfl) rfl rfl ⟨(bkC BK847.out 0).trans rfl, (bkC BK847.out 1).trans rfl, (bkC BK847.out 2).trans rfl, (bkC BK848.out 0).trans rfl, (bkC BK848.out 1).trans rfl, (bkC BK848.out 2).trans rfl⟩ (fun hHd => ?_); refine with_tabW hang_choice_compare.tab1 hang_choice_compare.bits1 (fun HT_ HW_ => ?_)
 generalize w8.drew = w9 at BK847 BK848 HB hHd ⊢
 refine pure_ (i := 0) (N := some 5) (v := ?_) (a' := ?_) #[true, false, false, false, false, false, false, false, false, false, false, false, false, false, false, false, false, false] rfl rfl (any_of HT_.out (by kernel_rfl)) (fun _ _ _ h => h) (Or.inl ⟨by rfl, ?_⟩) ?_ ?_
 rotate_left; (intro w'; go_simp; with_reducible rfl); rotate_left; (simp only [Act.put, List.setIfInBounds_toArray, List.set_cons_zero, List.set_cons_succ, i64_w, i32_w]; rfl)
 refine pure_ (i := 2) (N := some 7) (v := ?_) (a' := ?_) #[true, false, true, false, false, false, false, false, false, false, false, false, false, false, false, false, false, false] rfl rfl (any_of HT_.out (by kernel_rfl)) (fun _ _ _ h => h) (Or.inl ⟨by rfl, ?_⟩) ?_ ?_
 rotate_left; (intro w'; go_simp; with_reducible rfl); rotate_left; (simp only [Act.put, List.setIfInBounds_toArray, List.set_cons_zero, List.set_cons_succ, i64_w, i32_w]; rfl)
 refine pure_ (i := 5) (N := some 10) (v := ?_) (a' := ?_) #[true, false, true, false, false, true, false, false, false, false, false, false, false, false, false, false, false, false] rfl rfl (any_of HT_.out (by kernel_rfl)) (fun _ _ _ h => h) (Or.inl ⟨by rfl, ?_⟩) ?_ ?_
 rotate_left; (intro w'; go_simp; with_reducible rfl); rotate_left; (simp only [Act.put, List.setIfInBounds_toArray, List.set_cons_zero, List.set_cons_succ, i64_w, i32_w]; rfl)
 refine pure_ (i := 7) (N := some 12) (v := ?_) (a' := ?_) #[true, false, true, false, false, true, false, true, false, false, false, false, false, false, false, false, false, false] rfl rfl (any_of HT_.out (by kernel_rfl)) (fun _ _ _ h => h) (Or.inl ⟨by rfl, ?_⟩) ?_ ?_
 rotate_left; (intro w'; go_simp; with_reducible rfl); rotate_left; (simp only [Act.put, List.setIfInBounds_toArray, List.set_cons_zero, List.set_cons_succ, i64_w, i32_w]; rfl)
 refine pure_ (i := 10) (N := some 15) (v := ?_) (a' := ?_) #[true, false, true, false, false, true, false, true, false, false, true, false, false, false, false, false, false, false] rfl rfl (any_of HT_.out (by kernel_rfl)) (fun _ _ _ h => h) (Or.inl ⟨by rfl, ?_⟩) ?_ ?_
 rotate_left; (intro w'; go_simp; with_reducible rfl); rotate_left; (simp only [Act.put, List.setIfInBounds_toArray, List.set_cons_zero, List.set_cons_succ, i64_w, i32_w]; rfl)
 refine pure_ (i := 12) (N := some 17) (v := ?_) (a' := ?_) #[true, false, true, false, false, true, false, true, false, false, true, false, true, false, false, false, false, false] rfl rfl (any_of HT_.out (by kernel_rfl)) (fun _ _ _ h => h) (Or.inl ⟨by rfl, ?_⟩) ?_ ?_
 rotate_left; (intro w'; go_simp; with_reducible rfl); rotate_left; (simp only [Act.put, List.setIfInBounds_toArray, List.set_cons_zero, List.set_cons_succ, i64_w, i32_w]; rfl)
 refine take_ (i := 1) (N := some 6) (v := ?_) (a' := ?_) #[true, true, true, false, false, true, false, true, false, false, true, false, true, false, false, false, false, false] rfl rfl (take_ofW HT_.out HW_.out (by kernel_rfl)) (fun _ _ _ h => h) (Or.inl ⟨by rfl, ?_⟩) hHd ?_ ?_
 rotate_left
 ·rintro w' ⟨s0, s1, s2, s3, s4, s5⟩;go_simp
  with_reducible rfl
 rotate_left
 ·simp only [Act.put, List.setIfInBounds_toArray, List.set_cons_zero, List.set_cons_succ, i64_w, i32_w];rfl
 refine take_ (i := 3) (N := some 8) (v := ?_) (a' := ?_) #[true, true, true, true, false, true, false, true, false, false, true, false, true, false, false, false, false, false] rfl rfl (take_ofW HT_.out HW_.out (by kernel_rfl)) (fun _ _ _ h => h) (Or.inl ⟨by rfl, ?_⟩) hHd ?_ ?_
 rotate_left
 ·rintro w' ⟨s0, s1, s2, s3, s4, s5⟩;go_simp
  with_reducible rfl
 rotate_left
 ·simp only [Act.put, List.setIfInBounds_toArray, List.set_cons_zero, List.set_cons_succ, i64_w, i32_w];rfl
 refine take_ (i := 6) (N := some 11) (v := ?_) (a' := ?_) #[true, true, true, true, false, true, true, true, false, false, true, false, true, false, false, false, false, false] rfl rfl (take_ofW HT_.out HW_.out (by kernel_rfl)) (fun _ _ _ h => h) (Or.inl ⟨by rfl, ?_⟩) hHd ?_ ?_
 rotate_left
 ·rintro w' ⟨s0, s1, s2, s3, s4, s5⟩;go_simp
  with_reducible rfl
 rotate_left
 ·simp only [Act.put, List.setIfInBounds_toArray, List.set_cons_zero, List.set_cons_succ, i64_w, i32_w];rfl
 refine take_ (i := 8) (N := some 13) (v := ?_) (a' := ?_) #[true, true, true, true, false, true, true, true, true, false, true, false, true, false, false, false, false, false] rfl rfl (take_ofW HT_.out HW_.out (by kernel_rfl)) (fun _ _ _ h => h) (Or.inl ⟨by rfl, ?_⟩) hHd ?_ ?_
 rotate_left
 ·rintro w' ⟨s0, s1, s2, s3, s4, s5⟩;go_simp
  with_reducible rfl
 rotate_left
 ·simp only [Act.put, List.setIfInBounds_toArray, List.set_cons_zero, List.set_cons_succ, i64_w, i32_w];rfl
 refine take_ (i := 11) (N := some 16) (v := ?_) (a' := ?_) #[true, true, true, true, false, true, true, true, true, false, true, true, true, false, false, false, false, false] rfl rfl (take_ofW HT_.out HW_.out (by kernel_rfl)) (fun _ _ _ h => h) (Or.inl ⟨by rfl, ?_⟩) hHd ?_ ?_
 rotate_left
 ·rintro w' ⟨s0, s1, s2, s3, s4, s5⟩;go_simp
  with_reducible rfl
 rotate_left
 ·simp only [Act.put, List.setIfInBounds_toArray, List.set_cons_zero, List.set_cons_succ, i64_w, i32_w];rfl
 refine take_ (i := 13) (N := some 18) (v := ?_) (a' := ?_) #[true, true, true, true, false, true, true, true, true, false, true, true, true, true, false, false, false, false] rfl rfl (take_ofW HT_.out HW_.out (by kernel_rfl)) (fun _ _ _ h => h) (Or.inl ⟨by rfl, ?_⟩) hHd ?_ ?_
 rotate_left
 ·rintro w' ⟨s0, s1, s2, s3, s4, s5⟩;go_simp
  with_reducible rfl
 rotate_left
 ·simp only [Act.put, List.setIfInBounds_toArray, List.set_cons_zero, List.set_cons_succ, i64_w, i32_w];rfl
 refine one_ (i := 4) (N := some 9) #[true, true, true, true, true, true, true, true, true, false, true, true, true, true, false, false, false, false] rfl rfl (one_of HT_.out (by kernel_rfl)) (by decide) (fun K hK => ?_)
 refine goes_ Tryd.func105 (by kernel_rfl) rfl #[.int .i64 a0_0, .int .i64 a1_0] (by rfl) rfl rfl (by (try simp only [List.map_toArray, List.map_cons, List.map_nil]) <;> rfl) ?_
 with_reducible refine (cmp_Compare_int.calls a0_0 a1_0 t849 _ A3.out).mono ?_
 rintro e w' ⟨rfl, ⟨nd, rfl⟩⟩
 refine ⟨_, rfl, ?_⟩
 refine hK.out _ _ ⟨(bkC BK847.out 0).trans rfl, (bkC BK847.out 1).trans rfl, (bkC BK847.out 2).trans rfl, (bkC BK848.out 0).trans rfl, (bkC BK848.out 1).trans rfl, (bkC BK848.out 2).trans rfl⟩ (fun hHd => ?_)
 clear hK K
 refine norm_ (a' := ?_) ?_ ?_
 rotate_left
 ·show Act.put _ (some 9) _ = _
  simp only [Act.put, List.setIfInBounds_toArray, List.set_cons_zero, List.set_cons_succ, i64_w, i32_w];rfl
 refine one_ (i := 9) (N := some 14) #[true, true, true, true, true, true, true, true, true, true, true, true, true, true, false, false, false, false] rfl rfl (one_of HT_.out (by kernel_rfl)) (by decide) (fun K hK => ?_)
 refine goes_ Tryd.func105 (by kernel_rfl) rfl #[.int .i64 a0_1, .int .i64 a1_1] (by rfl) rfl rfl (by (try simp only [List.map_toArray, List.map_cons, List.map_nil]) <;> rfl) ?_
 with_reducible refine (cmp_Compare_int.calls a0_1 a1_1 t850 _ A4.out).mono ?_
 rintro e w' ⟨rfl, ⟨nd, rfl⟩⟩
 refine ⟨_, rfl, ?_⟩
 refine hK.out _ _ ⟨(bkC BK847.out 0).trans rfl, (bkC BK847.out 1).trans rfl, (bkC BK847.out 2).trans rfl, (bkC BK848.out 0).trans rfl, (bkC BK848.out 1).trans rfl, (bkC BK848.out 2).trans rfl⟩ (fun hHd => ?_)
 clear hK K
 refine norm_ (a' := ?_) ?_ ?_
 rotate_left
 ·show Act.put _ (some 14) _ = _
  simp only [Act.put, List.setIfInBounds_toArray, List.set_cons_zero, List.set_cons_succ, i64_w, i32_w];rfl
 refine one_ (i := 14) (N := some 19) #[true, true, true, true, true, true, true, true, true, true, true, true, true, true, true, false, false, false] rfl rfl (one_of HT_.out (by kernel_rfl)) (by decide) (fun K hK => ?_)
 refine goes_ Tryd.func105 (by kernel_rfl) rfl #[.int .i64 a0_2, .int .i64 a1_2] (by rfl) rfl rfl (by (try simp only [List.map_toArray, List.map_cons, List.map_nil]) <;> rfl) ?_
 with_reducible refine (cmp_Compare_int.calls a0_2 a1_2 t851 _ A5.out).mono ?_
 rintro e w' ⟨rfl, ⟨nd, rfl⟩⟩
 refine ⟨_, rfl, ?_⟩
 refine hK.out _ _ ⟨(bkC BK847.out 0).trans rfl, (bkC BK847.out 1).trans rfl, (bkC BK847.out 2).trans rfl, (bkC BK848.out 0).trans rfl, (bkC BK848.out 1).trans rfl, (bkC BK848.out 2).trans rfl⟩ (fun hHd => ?_)
 clear hK K
 refine norm_ (a' := ?_) ?_ ?_
 rotate_left
 ·show Act.put _ (some 19) _ = _
  simp only [Act.put, List.setIfInBounds_toArray, List.set_cons_zero, List.set_cons_succ, i64_w, i32_w];rfl
 refine one_ (i := 15) (N := some 20) #[true, true, true, true, true, true, true, true, true, true, true, true, true, true, true, true, false, false] rfl rfl (one_of HT_.out (by kernel_rfl)) (by decide) (fun K hK => ?_)
 refine Kd.R_lit_step (Kd.int .i64) _ 3 ?hg (N := 20) ?hd (xs := ([t849, t850, t851] : List Int)) (inner := [.int .i64 t849, .int .i64 t850, .int .i64 t851]) (ok := fun _ => True) (okp := fun _ => True) ?hr ?hp (fun _ hk => hk) trivial (Below.refl _ _) (Nat.le_refl _) (by simp) ?_; (case hd => rfl); (case hg => rfl); (case hr => first | (go_simp; done) | (go_simp; rfl)); (case hp => exact (Reps.one (show Kd.M (Kd.int .i64) _ _ _ t849 [.int .i64 t849] from rfl) (Reps.one (show Kd.M (Kd.int .i64) _ _ _ t850 [.int .i64 t850] from rfl) (Reps.one (show Kd.M (Kd.int .i64) _ _ _ t851 [.int .i64 t851] from rfl) (Reps.none _ _)))))
 intro v853 w10 ho11 hb hg_ hnew_
 clear hg_ hnew_
 (first | rw [← Ny852.out] at ho11 | (simp only [Int.reduceToNat] at ho11; rw [← Ny852.out] at ho11))
 have n0_ := Z0.mk (Kd.R_lower ho11 (bwZ (by repeat (first | (with_reducible first | exact HB.out | apply bwA | apply bwN | apply bw1 | refine bwS ?_ GE847.out | refine bwS ?_ GE848.out) | exact HB.out))))
 have n1_ := Z0.mk (bkB (g := gb847) (o := .cells #[.int .i64 a0_0, .int .i64 a0_1, .int .i64 a0_2] 144 (0, 0)) (by (with_reducible repeat (first | refine bkN ?_ _ | refine bkD ?_ | refine bkA ?_ _)); exact BK847.out) hb)
 have n2_ := Z0.mk (bkB (g := gb848) (o := .cells #[.int .i64 a1_0, .int .i64 a1_1, .int .i64 a1_2] 144 (0, 0)) (by (with_reducible repeat (first | refine bkN ?_ _ | refine bkD ?_ | refine bkA ?_ _)); exact BK848.out) hb)
 have n3_ := Z0.mk (bwT (by repeat (first | (with_reducible first | exact HB.out | apply bwA | apply bwN | apply bw1 | refine bwS ?_ GE847.out | refine bwS ?_ GE848.out) | exact HB.out)) hb)
 clear BK847 BK848 HB
 have HO854 := n0_
 have BK847 := n1_
 have BK848 := n2_
 have HB := n3_
 clear n0_ n1_ n2_ n3_
 clear hb ho11
 obtain ⟨Ao12, co12, eo12⟩ := Kd.R_slice HO854.out
 (first | subst eo12 | (injection eo12 with f1_ f2_ f3_; have f4_ := f1_.symm; have f5_ := f3_.symm; clear f1_ f2_ f3_; subst f4_; subst f5_))
 refine hK.out _ _ ⟨(bkC BK847.out 0).trans rfl, (bkC BK847.out 1).trans rfl, (bkC BK847.out 2).trans rfl, (bkC BK848.out 0).trans rfl, (bkC BK848.out 1).trans rfl, (bkC BK848.out 2).trans rfl⟩ (fun hHd => ?_)
 clear hK K
 refine norm_ (a' := ?_) ?_ ?_
 rotate_left
 ·show Act.put _ (some 20) _ = _
  simp only [Act.put, List.setIfInBounds_toArray, List.set_cons_zero, List.set_cons_succ, i64_w, i32_w];rfl
 refine one_ (i := 16) (N := some 21) #[true, true, true, true, true, true, true, true, true, true, true, true, true, true, true, true, true, false] rfl rfl (one_of HT_.out (by kernel_rfl)) (by decide) (fun K hK => ?_)
 refine goes_ Tryd.func109 (by kernel_rfl) rfl #[.slice Ao12 y852.length co12] (by rfl) rfl rfl (by (try simp only [List.map_toArray, List.map_cons, List.map_nil]) <;> rfl) ?_
 with_reducible refine (cmp_Or_int.calls k _ _ y852 t855 _ ?side1 ?side2 A6.out).mono ?_
 (case side1 => repeat (first | exact (Kd.R_reads' HO854.out).2.2 | (with_reducible refine Kd.C_alloc ?_ _) | (with_reducible refine Kd.C_drewN ?_ _) | (with_reducible refine Kd.C_drew ?_)))
 (case side2 => exact (Kd.R_reads' HO854.out).2.1)
 rintro e w' ⟨rfl, ⟨nd, rfl⟩⟩
 refine ⟨_, rfl, ?_⟩
 refine hK.out _ _ ⟨(bkC BK847.out 0).trans rfl, (bkC BK847.out 1).trans rfl, (bkC BK847.out 2).trans rfl, (bkC BK848.out 0).trans rfl, (bkC BK848.out 1).trans rfl, (bkC BK848.out 2).trans rfl⟩ (fun hHd => ?_)
 clear hK K
 refine norm_ (a' := ?_) ?_ ?_
 rotate_left
 ·show Act.put _ (some 21) _ = _
  simp only [Act.put, List.setIfInBounds_toArray, List.set_cons_zero, List.set_cons_succ, i64_w, i32_w];rfl
 refine pure_ (i := 17) (N := some 4) (v := ?_) (a' := ?_) #[true, true, true, true, true, true, true, true, true, true, true, true, true, true, true, true, true, true] rfl rfl (any_of HT_.out (by kernel_rfl)) (fun _ _ _ h => h) (Or.inl ⟨by rfl, ?_⟩) ?_ ?_
 rotate_left; (intro w'; go_simp; with_reducible rfl); rotate_left; (simp only [Act.put, List.setIfInBounds_toArray, List.set_cons_zero, List.set_cons_succ, i64_w, i32_w]; rfl)
 refine done_ (done_of HT_.out (by kernel_rfl)) ?_
 try go_wp2
 go_ret
 exact ⟨by first | rfl | (simp [errW_none, errW_some] <;> rfl) | (simp [*, errW_none, errW_some] <;> rfl), by repeat (first | (with_reducible first | exact HB.out | apply bwA | apply bwN | apply bw1 | refine bwS ?_ GE847.out | refine bwS ?_ GE848.out) | exact HB.out)⟩
end Go.Proofs.YtppighiaffppkaaDoor.H
end
section
namespace Go.Proofs.YtppighiaffppkaaDoor.H
open Go.RowKit Go.Proofs.YtppighiaffppkaaDoorW.PrintWords Go.Proofs.YtppighiaffppkaaDoorW.PrintLast Go.Proofs.YtppighiaffppkaaDoorW.PrintMore Go.Shelf
def hang_minChoice.f (k : Nat) (l : List S144) : Option (Int × Int × Int) := hang_choice.f (fun x0 x1 x2 x3 x4 x5 => hang_choice_compare.f k x0 x1 x2 x3 x4 x5) k l
theorem hang_choice.mono_cb_l {cb cb' : Int → Int → Int → Int → Int → Int → Option Int} (hcb : ∀ a b c d e f, LeO (cb a b c d e f) (cb' a b c d e f)) : ∀ k y0 y1 y2 y3 y4, LeO (hang_choice.l0 cb k y0 y1 y2 y3 y4) (hang_choice.l0 cb' k y0 y1 y2 y3 y4)
 | 0 => fun _ _ _ _ _ r h => by simp [hang_choice.l0] at h
 | k + 1 => by
  have ih := hang_choice.mono_cb_l hcb k;intro y0 y1 y2 y3 y4;unfold hang_choice.l0
  repeat' first
   | (with_reducible exact ih _ _ _ _ _)
   | (with_reducible exact hcb _ _ _ _ _ _)
   | (with_reducible exact LeO.refl _)
   | (with_reducible exact LeO.none _)
   | (with_reducible refine LeO.ite ?_ ?_)
   | (with_reducible refine LeO.bind ?_ (fun _ => ?_))
theorem hang_minChoice.mono : ∀ l k, LeO (hang_minChoice.f k l) (hang_minChoice.f (k + 1) l) := by
 intro l k
 unfold hang_minChoice.f
 refine LeO.trans (hang_choice.mono _ l k) ?_
 unfold hang_choice.f
 repeat' first
  | (with_reducible exact hang_choice.mono_cb_l (fun a b c d e f => hang_choice_compare.mono a b c d e f k) _ _ _ _ _ _)
  | (with_reducible exact LeO.refl _)
  | (with_reducible refine LeO.ite ?_ ?_)
theorem hang_minChoice.calls (k : Nat) (A0 : Option Addr) (c0 : Nat) (l0 : List (S144)) (r1 r2 r3 : Int) (w : World) (hr0 : Kd.C k144 w A0 l0.length l0) (hc0 : l0.length ≤ c0) (h : hang_minChoice.f k l0 = some (r1, r2, r3)) :
  Calls Tryd.prog 85 #[.slice A0 l0.length c0, .func (.func 86) #[] #[]] w fun e w' => e = .returned (.agg #[.int .i64 r1, .int .i64 r2, .int .i64 r3]) ∧ Below w.heap.size w w' :=
 hang_choice.calls k A0 c0 l0 _ r1 r2 r3 w 86 #[] (enters_of Tryd.func86 (by kernel_rfl) rfl) (fun x0 x1 x2 x3 x4 x5 r_ w1 _ hx => hang_choice_compare.calls k x0 x1 x2 x3 x4 x5 r_ w1 hx) hr0 hc0 h
end Go.Proofs.YtppighiaffppkaaDoor.H
end
section
namespace Go.Proofs.YtppighiaffppkaaDoor.H
open Go.RowKit Go.Proofs.YtppighiaffppkaaDoorW.PrintWords Go.Proofs.YtppighiaffppkaaDoorW.PrintLast Go.Proofs.YtppighiaffppkaaDoorW.PrintMore
attribute [local go_sem] max2_int min2_int max_two min_two max_three min_three max_four min_four
set_option linter.unusedSimpArgs false
set_option linter.unusedVariables false
def hang_Twine_110.l0 (cb : ByteArray → Int → Int → Option Bool) : Nat → List (S132) → Int → Int → Option (Int)
 | 0, _, _, _ => none
 | k + 1, x0, x7, x8 => if x8 < x7 then (if 0 ≤ x8 then (if x8 < (x0.length : Int) then ((cb ((rd_T132 x0 x8).f0) ((rd_T132 x0 x8).f1) ((rd_T132 x0 x8).f2)).bind fun t247 => (if t247 = true then (some x8) else (hang_Twine_110.l0 cb k x0 x7 (wrap64 (x8 + 1))))) else (none)) else (none)) else (some (-1))
def hang_Twine_110.f (cb : ByteArray → Int → Int → Option Bool) (k : Nat) (l0 : List (S132))  : Option (Int) := hang_Twine_110.l0 cb k l0 (l0.length : Int) 0
theorem hang_Twine_110.mono_l (cb : ByteArray → Int → Int → Option Bool) : ∀ k, (∀ y0 y1 y2, LeO (hang_Twine_110.l0 cb k y0 y1 y2) (hang_Twine_110.l0 cb (k + 1) y0 y1 y2))
 | 0 => fun _ _ _ r h => by simp [hang_Twine_110.l0] at h
 | k + 1 => by
  have ih0 := hang_Twine_110.mono_l cb k
  ·intro y0 y1 y2;unfold hang_Twine_110.l0
   repeat' first
   | (with_reducible exact ih0 _ _ _)
   | (with_reducible exact LeO.refl _)
   | (with_reducible exact LeO.none _)
   | (with_reducible refine LeO.ite ?_ ?_)
   | (with_reducible refine LeO.bind ?_ (fun _ => ?_))
   | exact ih0 _ _ _
   | exact LeO.none _
   | refine LeO.ite ?_ ?_
   | refine LeO.bind ?_ (fun _ => ?_)
theorem hang_Twine_110.mono (cb : ByteArray → Int → Int → Option Bool) : ∀ a0 k, LeO (hang_Twine_110.f cb k a0) (hang_Twine_110.f cb (k + 1) a0) := by
 intro a0 k
 have ih0 := hang_Twine_110.mono_l cb k
 unfold hang_Twine_110.f
 repeat' first
   | (with_reducible exact ih0 _ _ _)
   | (with_reducible exact LeO.refl _)
   | (with_reducible exact LeO.none _)
   | (with_reducible refine LeO.ite ?_ ?_)
   | (with_reducible refine LeO.bind ?_ (fun _ => ?_))
   | exact ih0 _ _ _
   | exact LeO.none _
   | refine LeO.ite ?_ ?_
   | refine LeO.bind ?_ (fun _ => ?_)
set_option maxHeartbeats 8000000 in
set_option maxRecDepth 100000 in
theorem hang_Twine_110.calls (k : Nat) (A0 : Option Addr) (c0 : Nat) (l0 : List (S132)) (cb : ByteArray → Int → Int → Option Bool) (r : Int) (w : World) (K_ : Nat) (caps_ : Array Value) (eg : ∀ args w, (callFunc K_ args).run Tryd.prog w = .ok (.enter K_ args) w) (hcb : ∀ (x0 : ByteArray) (x1 x2 : Int) (r_ : Bool) (w1 : World), Below w.heap.size w w1 → cb x0 x1 x2 = some r_ → Calls Tryd.prog K_ (#[.agg #[.string x0, .int .i64 x1, .int .i64 x2]] ++ caps_) w1 fun e w2 => e = .returned (.bool r_) ∧ Below w1.heap.size w1 w2) (hr0 : Kd.C k132 w A0 l0.length l0) (hc0 : l0.length ≤ c0) (h : hang_Twine_110.f cb k l0 = some r) :
  Calls Tryd.prog 110 #[.slice A0 l0.length c0, .func (.func K_) #[] caps_] w fun e w' => e = .returned (.int .i64 r) ∧ Below w.heap.size w w' := by
 have HCB_ := Z0.mk hcb
 clear hcb
 have hu132 := Tryd.underlying132
 have HR0 := Z0.mk hr0
 have HC0 := Z0.mk hc0
 clear hr0 hc0
 have HB := Z0.mk (Below.refl w.heap.size w)
 have H : (hang_Twine_110.l0 cb k l0 (l0.length : Int) 0) = some r := h
 clear h
 have H' := Z0.mk H
 clear H
 go_enter Tryd.func110, Tryd.ntmps110
 go_wp2
 go_loopg [8] k (fun kq v8 w' => ∃ (x8_1 : Int), v8 = .int .i64 x8_1 ∧ Z0 (hang_Twine_110.l0 cb kq l0 (l0.length : Int) x8_1 = some r) ∧ Z0 (kq ≤ k) ∧ Z0 (Below w.heap.size w w'))
 case atStart => exact ⟨(0), (by first | rfl | (simp; done) | (simp [*]; done)), H', ⟨Nat.le_refl _⟩, ⟨by repeat (first | (with_reducible first | exact HB.out | apply bwA | apply bwN | apply bw1) | exact HB.out)⟩⟩
 case round =>
  clear H';try clear c1
  try clear p2
  obtain ⟨x8_1, rfl, HA, HK1, HB⟩ := hrel;cases gk with
  | zero => exact absurd HA.out (by simp [hang_Twine_110.l0])
  | succ k1 =>
   have H := HA.out;clear HA;simp only [hang_Twine_110.l0] at H;by_cases c3 : x8_1 < (l0.length : Int)
   ·rw [if_pos c3] at H;have c3b0 : decide (x8_1 < (l0.length : Int)) = true := decide_eq_true c3;clear c3;by_cases c4 : 0 ≤ x8_1
    ·rw [if_pos c4] at H;have c4b0 : decide (0 ≤ x8_1) = true := decide_eq_true c4;clear c4;by_cases c5 : x8_1 < (l0.length : Int)
     ·rw [if_pos c5] at H;have c5b0 : decide (x8_1 < (l0.length : Int)) = true := decide_eq_true c5;clear c5;replace H := Option.bind_eq_some_iff.mp H
      obtain ⟨t247, A60, H⟩ := H;try dsimp only at H
      have A6 := Z0.mk A60;clear A60;by_cases c7 : t247 = true
      ·subst c7;have H1 : (some x8_1) = some r := by rw [if_pos rfl] at H; exact H
       clear H;have H := H1;clear H1;obtain rfl := Option.some.inj H;have p246 : 0 ≤ (x8_1 : Int) := of_decide_eq_true (by first | (with_reducible assumption) | assumption);have q246 : x8_1 < (l0.length : Int) := of_decide_eq_true (by first | (with_reducible assumption) | assumption);obtain ⟨ad246, e246, hx246_0, hx246_1, hx246_2⟩ := at_T132 HR0.out x8_1 p246 q246;cases e246;replace hx246_0 := (HB.out.cell (World.block_lt_of_cell? w _ hx246_0)).trans hx246_0
       replace hx246_1 := (HB.out.cell (World.block_lt_of_cell? w _ hx246_1)).trans hx246_1
       replace hx246_2 := (HB.out.cell (World.block_lt_of_cell? w _ hx246_2)).trans hx246_2
       replace p246 := eq_true p246
       replace q246 := eq_true q246
       go_wp2_with (first | (go_at_fn K_; (with_reducible refine (HCB_.out ((rd_T132 l0 x8_1).f0) ((rd_T132 l0 x8_1).f1) ((rd_T132 l0 x8_1).f2) true _ (by repeat (first | (with_reducible first | exact HB.out | apply bwA | apply bwN | apply bw1) | exact HB.out)) A6.out).mono ?_); rintro e w8 ⟨rfl, hb⟩; have n0_ := Z0.mk (bwT (by repeat (first | (with_reducible first | exact HB.out | apply bwA | apply bwN | apply bw1) | exact HB.out)) hb); clear HB; have HB := n0_; clear n0_; (try clear hb); (try clear hb2); (try clear hk); (try clear hi)))
       go_ret
       exact ⟨by first | rfl | (simp [errW_none, errW_some] <;> rfl) | (simp [*, errW_none, errW_some] <;> rfl), by repeat (first | (with_reducible first | exact HB.out | apply bwA | apply bwN | apply bw1) | exact HB.out)⟩
      ·replace c7 := Bool.eq_false_iff.mpr c7
       subst c7;have H1 : (hang_Twine_110.l0 cb k1 l0 (l0.length : Int) (wrap64 (x8_1 + 1))) = some r := by rw [if_neg (show ¬ (false = true) by decide)] at H; exact H
       clear H;have H := H1;clear H1;have H' := Z0.mk H;clear H;have p246 : 0 ≤ (x8_1 : Int) := of_decide_eq_true (by first | (with_reducible assumption) | assumption);have q246 : x8_1 < (l0.length : Int) := of_decide_eq_true (by first | (with_reducible assumption) | assumption);obtain ⟨ad246, e246, hx246_0, hx246_1, hx246_2⟩ := at_T132 HR0.out x8_1 p246 q246;cases e246;replace hx246_0 := (HB.out.cell (World.block_lt_of_cell? w _ hx246_0)).trans hx246_0
       replace hx246_1 := (HB.out.cell (World.block_lt_of_cell? w _ hx246_1)).trans hx246_1
       replace hx246_2 := (HB.out.cell (World.block_lt_of_cell? w _ hx246_2)).trans hx246_2
       replace p246 := eq_true p246
       replace q246 := eq_true q246
       go_wp2_with (first | (go_at_fn K_; (with_reducible refine (HCB_.out ((rd_T132 l0 x8_1).f0) ((rd_T132 l0 x8_1).f1) ((rd_T132 l0 x8_1).f2) false _ (by repeat (first | (with_reducible first | exact HB.out | apply bwA | apply bwN | apply bw1) | exact HB.out)) A6.out).mono ?_); rintro e w9 ⟨rfl, hb⟩; have n0_ := Z0.mk (bwT (by repeat (first | (with_reducible first | exact HB.out | apply bwA | apply bwN | apply bw1) | exact HB.out)) hb); clear HB; have HB := n0_; clear n0_; (try clear hb); (try clear hb2); (try clear hk); (try clear hi)))
       go_roundg k1
       case measure => have := HK1.out; omega
       case rel => exact ⟨(wrap64 (x8_1 + 1)), (by first | rfl | (simp; done) | (simp [*]; done)), H', ⟨by have := HK1.out; omega⟩, ⟨by repeat (first | (with_reducible first | exact HB.out | apply bwA | apply bwN | apply bw1) | exact HB.out)⟩⟩
     ·rw [if_neg c5] at H;exact absurd H (by simp)
    ·rw [if_neg c4] at H;exact absurd H (by simp)
   ·rw [if_neg c3] at H;have c3b0 : decide (x8_1 < (l0.length : Int)) = false := decide_eq_false c3;clear c3;obtain rfl := Option.some.inj H;go_wp2
    go_ret
    exact ⟨by first | rfl | (simp [errW_none, errW_some] <;> rfl) | (simp [*, errW_none, errW_some] <;> rfl), by repeat (first | (with_reducible first | exact HB.out | apply bwA | apply bwN | apply bw1) | exact HB.out)⟩
end Go.Proofs.YtppighiaffppkaaDoor.H
end
