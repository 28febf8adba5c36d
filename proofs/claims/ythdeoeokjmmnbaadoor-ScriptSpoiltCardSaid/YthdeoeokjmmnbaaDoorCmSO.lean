/-
  Jobs as texts: what is written is read again, and only that is read (no program in sight).
-/
import Derived.Test.YthdeoeokjmmnbaaDoorCmSN
import Derived.Test.YthdeoeokjmmnbaaDoorCmZ
namespace Go.Proofs.YthdeoeokjmmnbaaDoor.Cm
open Go.RowKit Go.IntWalk

theorem nums_ten (R : List Int) : ∀ c ∈ numsT R, c ≠ 10 := by
  induction R with
  | nil => simp [numsT]
  | cons n R ih =>
    intro c hc
    simp only [numsT, List.mem_cons, List.mem_append] at hc
    rcases hc with rfl | hc | hc
    · decide
    · exact (wd_itoa n).ne10 c hc
    · exact ih c hc
theorem lines_line {w : List UInt8} (h : Wd1 w) (R : List Int) (t : List UInt8) : linesOf (lineB w R ++ t) = lineB w R :: linesOf t := by
  have e : lineB w R ++ t = (w ++ numsT R) ++ 10 :: t := by simp [lineB]
  rw [e, lines_run]
  · simp [lineB]
  · intro c hc
    rcases List.mem_append.1 hc with hc | hc
    · exact h.ne10 c hc
    · exact nums_ten R c hc
theorem stepJ_l (s : List UInt8) (j : Job) : stepJ 2 s j = match numsB s with | [x, y, z] => (decide (s = lineB limW [x, y, z]), { j with p := x, st := y, so := z }) | _ => (false, j) := rfl
theorem stepJ_i (s : List UInt8) (j : Job) : stepJ 3 s j = (decide (s = lineB inW (numsB s)), { j with ins := numsB s }) := rfl
theorem stepJ_p (s : List UInt8) (j : Job) : stepJ 4 s j = (decide (s = lineB pkW (numsB s)), { j with pk := numsB s }) := rfl
theorem stepJ_one (b : Bool) (j : Job) : stepJ 1 (lineB (modeT b) []) j = (true, { j with cl := b }) := by
  cases b
  · have ne : ¬ lineB (modeT false) [] = lineB (modeT true) [] := by decide
    simp [stepJ, ne]
  · simp [stepJ]
theorem stepJ_two {a b c : Int} (h : I64 [a, b, c]) (j : Job) : stepJ 2 (lineB limW [a, b, c]) j = (true, { j with p := a, st := b, so := c }) := by
  rw [stepJ_l, numsB_line wd_lim h]
  simp
theorem stepJ_three {R : List Int} (h : I64 R) (j : Job) : stepJ 3 (lineB inW R) j = (true, { j with ins := R }) := by
  rw [stepJ_i, numsB_line wd_in h]
  simp
theorem stepJ_four {R : List Int} (h : I64 R) (j : Job) : stepJ 4 (lineB pkW R) j = (true, { j with pk := R }) := by
  rw [stepJ_p, numsB_line wd_pk h]
  simp
theorem read_text {j : Job} (h1 : I64 j.lim) (h2 : I64 j.ins) (h3 : I64 j.pk) : readS (jobT j) = (j, 0, 0) := by
  have e : linesOf (jobT j) = [lineB (modeT j.cl) [], lineB limW j.lim, lineB inW j.ins, lineB pkW j.pk] := by
    rw [jobT, lines_line (wd_mode _), lines_line wd_lim, lines_line wd_in]
    have := lines_line wd_pk j.pk []
    rw [List.append_nil] at this
    rw [this]
    rfl
  obtain ⟨cl, p, st, so, I, L⟩ := j
  rw [readS_fin, e]
  simp only [readL, Nat.zero_add, Nat.reduceAdd, stepJ_one, Job.lim, stepJ_two h1, stepJ_three h2, stepJ_four h3]
  rfl

theorem lines_join : ∀ s : List UInt8, (linesOf s).flatten = s
  | [] => rfl
  | c :: s => by
    have ih := lines_join s
    unfold linesOf
    split
    · next h => subst h; simp [ih]
    · cases hq : linesOf s with
      | nil => rw [hq] at ih; simp at ih ⊢; exact ih
      | cons l ls => rw [hq] at ih; simp at ih ⊢; exact ih
theorem readL_le : ∀ {ls : List (List UInt8)} {n m : Nat} {j j' : Job}, readL n j ls = (true, m, j') → m = n + ls.length
  | [], n, m, j, j', h => by simp [readL] at h; simp [h.1]
  | l :: ls, n, m, j, j', h => by
    rw [readL] at h
    split at h
    · have := readL_le h
      simp; omega
    · simp at h
theorem readL_cons {n m : Nat} {j j' : Job} {l : List UInt8} {ls : List (List UInt8)} (h : readL n j (l :: ls) = (true, m, j')) : ∃ j1, stepJ (n + 1) l j = (true, j1) ∧ readL (n + 1) j1 ls = (true, m, j') := by
  rw [readL] at h
  split at h
  · next j1 e => exact ⟨j1, e, h⟩
  · simp at h
theorem text_read {s : List UInt8} {j : Job} {a : Int} (h : readS s = (j, a, 0)) : jobT j = s := by
  rw [readS_fin] at h
  have jn := lines_join s
  generalize linesOf s = ls at h jn
  cases hr : readL 0 job0 ls with
  | mk b r =>
    obtain ⟨m, j0⟩ := r
    rw [hr] at h
    cases b with
    | false => simp [finL] at h
    | true =>
      have hm := readL_le hr
      simp only [finL] at h
      split at h
      · simp at h
      · simp only [Prod.mk.injEq, and_true] at h
        obtain ⟨rfl, _⟩ := h
        match ls, hr with
        | [], _ => simp at hm; omega
        | [_], _ => simp at hm; omega
        | [_, _], _ => simp at hm; omega
        | [_, _, _], _ => simp at hm; omega
        | l1 :: l2 :: l3 :: l4 :: t, hr =>
          obtain ⟨j1, e1, hr⟩ := readL_cons hr
          obtain ⟨j2, e2, hr⟩ := readL_cons hr
          obtain ⟨j3, e3, hr⟩ := readL_cons hr
          obtain ⟨j4, e4, hr⟩ := readL_cons hr
          have f4 : l4 = lineB pkW j4.pk ∧ j4.cl = j3.cl ∧ j4.lim = j3.lim ∧ j4.ins = j3.ins := by
            have s2 : stepJ (0 + 1 + 1 + 1 + 1) l4 j3 = (decide (l4 = lineB pkW (numsB l4)), { j3 with pk := numsB l4 }) := rfl
            rw [s2] at e4
            simp only [Prod.mk.injEq, decide_eq_true_eq] at e4
            obtain ⟨e, rfl⟩ := e4
            exact ⟨e, rfl, rfl, rfl⟩
          have f3 : l3 = lineB inW j3.ins ∧ j3.cl = j2.cl ∧ j3.lim = j2.lim := by
            have s2 : stepJ (0 + 1 + 1 + 1) l3 j2 = (decide (l3 = lineB inW (numsB l3)), { j2 with ins := numsB l3 }) := rfl
            rw [s2] at e3
            simp only [Prod.mk.injEq, decide_eq_true_eq] at e3
            obtain ⟨e, rfl⟩ := e3
            exact ⟨e, rfl, rfl⟩
          have f2 : l2 = lineB limW j2.lim ∧ j2.cl = j1.cl := by
            have s2 : stepJ (0 + 1 + 1) l2 j1 = match numsB l2 with | [a, b, c] => (decide (l2 = lineB limW [a, b, c]), { j1 with p := a, st := b, so := c }) | _ => (false, j1) := rfl
            rw [s2] at e2
            split at e2
            · simp only [Prod.mk.injEq, decide_eq_true_eq] at e2
              obtain ⟨e, rfl⟩ := e2
              exact ⟨e, rfl⟩
            · simp at e2
          have f1 : l1 = lineB (modeT j1.cl) [] := by
            have s2 : stepJ (0 + 1) l1 job0 = (decide (l1 = lineB (modeT true) [] ∨ l1 = lineB (modeT false) []), { job0 with cl := decide (l1 = lineB (modeT true) []) }) := rfl
            rw [s2] at e1
            simp only [Prod.mk.injEq, decide_eq_true_eq] at e1
            obtain ⟨e, rfl⟩ := e1
            show l1 = lineB (modeT (decide (l1 = lineB (modeT true) []))) []
            by_cases h1 : l1 = lineB (modeT true) []
            · rw [decide_eq_true h1]; exact h1
            · rw [decide_eq_false h1]; exact e.resolve_left h1
          cases t with
          | cons l5 t =>
            obtain ⟨j5, e5, hr⟩ := readL_cons hr
            have := step_five (n := 0 + 1 + 1 + 1 + 1 + 1) (s := l5) (j := j4) (by omega)
            rw [e5] at this
            simp at this
          | nil =>
            simp only [readL, Prod.mk.injEq, true_and] at hr
            obtain ⟨_, rfl⟩ := hr
            rw [← jn, jobT, f4.2.1, f4.2.2.1, f4.2.2.2, f3.2.1, f3.2.2, f2.2, ← f1, ← f2.1, ← f3.1, ← f4.1]
            simp
end Go.Proofs.YthdeoeokjmmnbaaDoor.Cm
