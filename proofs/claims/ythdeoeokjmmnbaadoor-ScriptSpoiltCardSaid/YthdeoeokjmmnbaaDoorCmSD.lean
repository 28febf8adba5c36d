/-
  Jobs as texts: the two texts of a job.
-/
import Derived.Test.YthdeoeokjmmnbaaDoorCmSC
import Derived.Test.YthdeoeokjmmnbaaDoorCmZ
namespace Go.Proofs.YthdeoeokjmmnbaaDoor.Cm
open Go.RowKit Go.IntWalk
attribute [local irreducible] Heap.set Heap.new Heap.kill Heap.get Heap.room Cal WP

structure Job where
  cl : Bool
  p : Int
  st : Int
  so : Int
  ins : List Int
  pk : List Int
def Job.cs (j : Job) (vi vp : CVal) : List CVal := [.bool j.cl, .int .i64 j.p, .int .i64 j.st, .int .i64 j.so, vi, vp]
def Job.lim (j : Job) : List Int := [j.p, j.st, j.so]
structure Job.ok (j : Job) : Prop where
  lim : I64 j.lim
  ins : I64 j.ins
  pk : I64 j.pk
  li : j.ins.length ≤ 100000
  lp : j.pk.length ≤ 100000
def limW : List UInt8 := [108, 105, 109, 105, 116, 115]
def inW : List UInt8 := [105, 110, 112, 117, 116]
def pkW : List UInt8 := [112, 105, 99, 107, 115]
def jobT (j : Job) : List UInt8 := lineB (modeT j.cl) [] ++ (lineB limW j.lim ++ (lineB inW j.ins ++ lineB pkW j.pk))
theorem modeT_length (b : Bool) : (modeT b).length ≤ 9 := by cases b <;> decide
theorem lineB_length {w : List UInt8} {R : List Int} (h : I64 R) : (lineB w R).length ≤ w.length + 1 + 22 * R.length := by
  have := numsT_length h
  simp only [lineB, List.length_append, List.length_cons, List.length_nil]
  omega
theorem RIn.three {h : Heap} {i : Nat} {a b c : Int} (hi : i < h.next) {wr : Bool} {opn : Option Nat} (g : h.get i = some (.cells [.int .i64 a, .int .i64 b, .int .i64 c] wr opn)) : RIn h (.slice i 0 3 3) [a, b, c] :=
  .inr ⟨i, 0, 3, rfl, hi, .inr ⟨_, wr, opn, g, fun j hj => by match j, hj with | 0, _ => rfl | 1, _ => rfl | 2, _ => rfl⟩⟩

theorem Exd.room {h h' : Heap} {n : Nat} (e : Exd h h') : Exd h (h'.room n) := ⟨by rw [Z4 rfl]; have := e.le; omega, fun i hi => Z5 (e.get i hi)⟩
theorem I64.nil : I64 [] := fun n hn => by simp at hn
theorem modeT_100 (b : Bool) : (modeT b).length ≤ 100 := by cases b <;> decide

theorem RIn.head {h : Heap} {v : CVal} {R : List Int} (s : RIn h v R) : (v = .nilSlice ∧ R = []) ∨ ∃ i o l c, v = .slice i o l c := by
  rcases s with s | ⟨i, o, c, s, _⟩
  · exact .inl s
  · exact .inr ⟨i, o, _, c, s⟩

set_option maxHeartbeats 2000000 in
theorem text_cal {j : Job} {vi vp : CVal} {h : Heap} {Q : CVal → Heap → Prop} (hi : RIn h vi j.ins) (hp : RIn h vp j.pk) (ok : j.ok) (k : ∀ h', Exd h h' → Q (.str (jobT j)) h') : Cal tt 7 [.agg (j.cs vi vp)] h Q := by
  obtain ⟨cl, p, st, so, I, L⟩ := j
  have l1 := lineB_length (w := modeT cl) (R := []) (fun n hn => by simp at hn)
  have l2 := lineB_length (w := limW) ok.lim
  have l3 := lineB_length (w := inW) ok.ins
  have l4 := lineB_length (w := pkW) ok.pk
  have m1 := modeT_length cl
  have ok2 := ok.li
  have ok3 := ok.lp
  simp only [Job.lim, limW, inW, pkW, List.length_cons, List.length_nil] at l1 l2 l3 l4 ok2 ok3
  show Cal tt 7 [.agg [.bool cl, .int .i64 p, .int .i64 st, .int .i64 so, vi, vp]] h Q
  have x0 : Exd h ((h.new (.cells [.bool cl, .int .i64 p, .int .i64 st, .int .i64 so, vi, vp] true none)).room 1) := Exd.room (Exd.new (Exd.refl _))
  have k' : ∀ h', Exd h h' → Q (.str (((lineB (modeT cl) [] ++ lineB limW [p, st, so]) ++ lineB inW I) ++ lineB pkW L)) h' := fun h' x => by
    have := k h' x
    simp only [jobT, Job.lim, ← List.append_assoc] at this
    exact this
  have l2' : (lineB limW [p, st, so]).length ≤ 100 := by exact Nat.le_trans l2 (by omega)
  have l3' : (lineB inW I).length ≤ 3000000 := by exact Nat.le_trans l3 (by omega)
  have l4' : (lineB pkW L).length ≤ 3000000 := by exact Nat.le_trans l4 (by omega)
  change RIn h vi I at hi
  change RIn h vp L at hp
  rcases hi.head with ⟨rfl, rfl⟩ | ⟨_, _, _, _, rfl⟩ <;> rcases hp.head with ⟨rfl, rfl⟩ | ⟨_, _, _, _, rfl⟩
  all_goals
  refine Cal.run rfl rfl rfl rfl ?_
  (repeat' ((conv => whnf); (first | (refine Za (mode_cal ?_)) | (refine Za (line_cal (w := modeT cl) (R := []) (.inl ⟨rfl, rfl⟩) I64.nil (modeT_100 _) (by simp) ?_)) | (refine Za (line_cal (w := limW) (R := [p, st, so]) (RIn.three (by rw [Heap.next_set, Z4 rfl, Heap.next_new]; omega) (by ((repeat first | refine Z5 ?_ | refine Z6 (by omega) ?_ | refine Z7 (by ((repeat first | apply Z1 | apply Z2 | apply Z3 | apply Z4); first | assumption | rfl)) (by omega) ?_ | refine Z8 (by assumption) (by omega) ?_); first | assumption | exact Z9 (by omega) | exact Z0 (by ((repeat first | apply Z1 | apply Z2 | apply Z3 | apply Z4); first | assumption | rfl)) (by omega)))) ok.lim (by decide) (by simp) ?_)) | (refine Za (line_cal (w := inW) (hi.exd (Exd.set x0 (by omega))) ok.ins (by decide) (by omega) ?_)) | (refine Za (line_cal (w := pkW) (hp.exd (Exd.set x0 (by omega))) ok.pk (by decide) (by omega) ?_)) | (refine ZT (by simp only [List.length_append]; omega) ?_) | (refine ZA (by omega) ?_) | (refine ZB (by omega) ?_) | (refine ZC (fun _ => ?_) fun _ => ?_) | (refine ZD (by omega) ?_) | (refine ZE (by omega) ?_) | (refine ZF (fun _ => ?_) fun _ => ?_) | (refine ZG (by first | rfl | assumption) ?_) | (refine ZH (by first | decide | assumption) ?_) | (refine ZI (fun _ => ?_) fun _ => ?_) | (refine ZJ (by omega) ?_) | (refine ZK (by first | (apply u8_in; omega) | (apply i32_in; omega) | (apply u32_in; omega)) ?_) | (refine ZL (by omega) ?_) | (refine ZM (by omega) ?_) | (refine ZN (by omega) ?_) | ((first | (show GETN _ _ _; apply ZO) | (show GETM _ _ _; apply ZP) | (show SETN _ _ _ _ _ _; apply ZQ) | (show LOOKN _ _ _ _ _ _; apply ZR (QV.load rfl ?g ?hl)) | (show LOOKN _ _ _ _ _ _; apply ZR (QV.loadA rfl ?g ?hl ?ho))); (case g => ((repeat first | refine Z5 ?_ | refine Z6 (by omega) ?_ | refine Z7 (by ((repeat first | apply Z1 | apply Z2 | apply Z3 | apply Z4); first | assumption | rfl)) (by omega) ?_ | refine Z8 (by assumption) (by omega) ?_); first | assumption | exact Z9 (by omega) | exact Z0 (by ((repeat first | apply Z1 | apply Z2 | apply Z3 | apply Z4); first | assumption | rfl)) (by omega))); (try (case hl => rfl)); (try (case ho => first | rfl | (first | decide | (simp; done) | (simp; omega) | exact Nat.le_of_ble_eq_true rfl)))) | (show NEWN _ _; refine ZS (by ((repeat first | apply Z1 | apply Z2 | apply Z3 | apply Z4); first | assumption | rfl)) ?_) | (show DOESN _ _; refine ZT (by first | rfl | omega | (simp; done) | (simp; omega)) ?_) | (refine ZU (by assumption) ?_) | (refine ZV (by assumption) ?_) | (refine ZW (fun _ => ?_) fun _ => ?_) | (refine ZX (by rfl) ?_) | (refine scopeC ?_) | (refine ZZ rfl ?_) | (refine Zz rfl ?_) | (show NUMN _ _; refine ZY (by ((repeat first | apply Z1 | apply Z2 | apply Z3 | apply Z4); first | assumption | rfl)) ?_) | fail)))
  exact k' _ (Exd.set x0 (by omega))

set_option maxHeartbeats 2000000 in
theorem textR_cal {j : Job} {vi vp : CVal} {h : Heap} {Q : CVal → Heap → Prop} (hi : RIn h vi j.ins) (hp : RIn h vp j.pk) (ok : j.ok) (k : ∀ h', Exd h h' → Q (.str (jobT j)) h') : Cal tt 8 [.agg (j.cs vi vp)] h Q := by
  obtain ⟨cl, p, st, so, I, L⟩ := j
  have l2 := numsT_length ok.lim
  have l3 := numsT_length ok.ins
  have l4 := numsT_length ok.pk
  have ok2 := ok.li
  have ok3 := ok.lp
  simp only [Job.lim, List.length_cons, List.length_nil] at l2 l3 l4 ok2 ok3
  show Cal tt 8 [.agg [.bool cl, .int .i64 p, .int .i64 st, .int .i64 so, vi, vp]] h Q
  have k' : ∀ h', Exd h h' → Q (.str (((((lineB (modeT cl) [] ++ limW) ++ (numsT [p, st, so] ++ [10])) ++ inW) ++ (numsT I ++ [10])) ++ pkW ++ (numsT L ++ [10]))) h' := fun h' x => by
    have := k h' x
    simp only [jobT, Job.lim, lineB, List.append_assoc] at this ⊢
    exact this
  change RIn h vi I at hi
  change RIn h vp L at hp
  rcases hi.head with ⟨rfl, rfl⟩ | ⟨_, _, _, _, rfl⟩ <;> rcases hp.head with ⟨rfl, rfl⟩ | ⟨_, _, _, _, rfl⟩ <;> cases cl
  all_goals
  refine Cal.run rfl rfl rfl rfl ?_
  (repeat' ((conv => whnf); (first | (refine Za (nums_cal (R := [p, st, so]) (RIn.three (by (first | omega | (dsimp only; omega) | (simp only []; omega) | (simp only [Heap.next_new]; omega) | (simp only [Heap.next_set]; omega) | (simp only [Heap.next_set, Heap.next_new]; omega) | (simp only [Heap.next_set, Heap.next_new, Heap.next_kill]; omega))) (by ((repeat first | refine Z5 ?_ | refine Z6 (by omega) ?_ | refine Z7 (by ((repeat first | apply Z1 | apply Z2 | apply Z3 | apply Z4); first | assumption | rfl)) (by omega) ?_ | refine Z8 (by assumption) (by omega) ?_); first | assumption | exact Z9 (by omega) | exact Z0 (by ((repeat first | apply Z1 | apply Z2 | apply Z3 | apply Z4); first | assumption | rfl)) (by omega)))) ok.lim (by simp) ?_)) | (refine Za (nums_cal (hi.exd (by (repeat' first | exact Exd.refl _ | assumption | refine Exd.new ?_ | refine Exd.set ?_ (by omega) | refine Exd.kill ?_ (by omega)))) ok.ins (by omega) ?_)) | (refine Za (nums_cal (hp.exd (by (repeat' first | exact Exd.refl _ | assumption | refine Exd.new ?_ | refine Exd.set ?_ (by omega) | refine Exd.kill ?_ (by omega)))) ok.pk (by omega) ?_)) | (refine ZT (by simp; omega) ?_) | (refine ZA (by omega) ?_) | (refine ZB (by omega) ?_) | (refine ZC (fun _ => ?_) fun _ => ?_) | (refine ZD (by omega) ?_) | (refine ZE (by omega) ?_) | (refine ZF (fun _ => ?_) fun _ => ?_) | (refine ZG (by first | rfl | assumption) ?_) | (refine ZH (by first | decide | assumption) ?_) | (refine ZI (fun _ => ?_) fun _ => ?_) | (refine ZJ (by omega) ?_) | (refine ZK (by first | (apply u8_in; omega) | (apply i32_in; omega) | (apply u32_in; omega)) ?_) | (refine ZL (by omega) ?_) | (refine ZM (by omega) ?_) | (refine ZN (by omega) ?_) | ((first | (show GETN _ _ _; apply ZO) | (show GETM _ _ _; apply ZP) | (show SETN _ _ _ _ _ _; apply ZQ) | (show LOOKN _ _ _ _ _ _; apply ZR (QV.load rfl ?g ?hl)) | (show LOOKN _ _ _ _ _ _; apply ZR (QV.loadA rfl ?g ?hl ?ho))); (case g => ((repeat first | refine Z5 ?_ | refine Z6 (by omega) ?_ | refine Z7 (by ((repeat first | apply Z1 | apply Z2 | apply Z3 | apply Z4); first | assumption | rfl)) (by omega) ?_ | refine Z8 (by assumption) (by omega) ?_); first | assumption | exact Z9 (by omega) | exact Z0 (by ((repeat first | apply Z1 | apply Z2 | apply Z3 | apply Z4); first | assumption | rfl)) (by omega))); (try (case hl => rfl)); (try (case ho => first | rfl | (first | decide | (simp; done) | (simp; omega) | exact Nat.le_of_ble_eq_true rfl)))) | (show NEWN _ _; refine ZS (by ((repeat first | apply Z1 | apply Z2 | apply Z3 | apply Z4); first | assumption | rfl)) ?_) | (show DOESN _ _; refine ZT (by first | rfl | omega | (simp; done) | (simp; omega)) ?_) | (refine ZU (by assumption) ?_) | (refine ZV (by assumption) ?_) | (refine ZW (fun _ => ?_) fun _ => ?_) | (refine ZX (by rfl) ?_) | (refine scopeC ?_) | (refine ZZ rfl ?_) | (refine Zz rfl ?_) | (show NUMN _ _; refine ZY (by ((repeat first | apply Z1 | apply Z2 | apply Z3 | apply Z4); first | assumption | rfl)) ?_) | fail)))
  refine k' _ ?_
  (repeat' first | exact Exd.refl _ | assumption | refine Exd.new ?_ | refine Exd.set ?_ (by omega) | refine Exd.kill ?_ (by omega))
end Go.Proofs.YthdeoeokjmmnbaaDoor.Cm
