/-
  Jobs as texts: both readings are alike, line by line (no program in sight).
-/
import Derived.Test.YthdeoeokjmmnbaaDoorCmSM
import Derived.Test.YthdeoeokjmmnbaaDoorCmZ
namespace Go.Proofs.YthdeoeokjmmnbaaDoor.Cm
open Go.RowKit Go.IntWalk

theorem line_ten {w L : List UInt8} {R : List Int} : L ++ [10] = lineB w R ↔ L = w ++ numsT R := by
  rw [lineB, ← List.append_assoc]
  exact List.append_left_inj [10]
theorem lineB_last {w : List UInt8} {R : List Int} : (10 : UInt8) ∈ lineB w R := by simp [lineB]
/-- A line with its end, read by the program, against the line, read by the reference. -/
theorem nums_row {L w : List UInt8} (h : Wd1 w) : (∃ R, rowB L w = some R ∧ numsB (L ++ [10]) = R ∧ L ++ [10] = lineB w R) ∨ (rowB L w = none ∧ ∀ R, I64 R → L ++ [10] ≠ lineB w R) := by
  cases hr : rowB L w with
  | none =>
    refine .inr ⟨rfl, fun R hR e => ?_⟩
    rw [(row_line h).2 ⟨line_ten.1 e, hR⟩] at hr
    simp at hr
  | some R =>
    obtain ⟨e, i⟩ := (row_line h).1 hr
    have e2 : L ++ [10] = lineB w R := line_ten.2 e
    exact .inl ⟨R, rfl, by rw [e2, numsB_line h i], e2⟩
theorem step_line {n : Nat} {L : List UInt8} {j : Job} (hn : n < 4) : (∃ j', stepR n L j = some j' ∧ stepJ (n + 1) (L ++ [10]) j = (true, j')) ∨ (stepR n L j = none ∧ (stepJ (n + 1) (L ++ [10]) j).1 = false) := by
  have l0 : ∀ b, L ++ [10] = lineB (modeT b) [] ↔ L = modeT b := fun b => by rw [line_ten, numsT, List.append_nil]
  have n64 := numsB_64 (L ++ [10])
  rcases (by omega : n = 0 ∨ n = 1 ∨ n = 2 ∨ n = 3) with rfl | rfl | rfl | rfl
  · simp only [stepR, stepJ, l0, if_true]
    by_cases h1 : L = modeT true
    · exact .inl ⟨_, if_pos h1, by simp [h1]⟩
    · by_cases h2 : L = modeT false
      · exact .inl ⟨_, by rw [if_neg h1, if_pos h2], by simp [h2]; decide⟩
      · exact .inr ⟨by rw [if_neg h1, if_neg h2], by simp [h1, h2]⟩
  · rcases nums_row (L := L) wd_lim with ⟨R, hr, hnb, e⟩ | ⟨hr, ne⟩
    · have s1 : stepR 1 L j = match rowB L limW with | some [a, b, c] => some { j with p := a, st := b, so := c } | _ => none := rfl
      have s2 : stepJ (1 + 1) (L ++ [10]) j = match numsB (L ++ [10]) with | [a, b, c] => (decide (L ++ [10] = lineB limW [a, b, c]), { j with p := a, st := b, so := c }) | _ => (false, j) := rfl
      rw [s1, s2, hr, hnb]
      match R, e with
      | [], _ => exact .inr ⟨rfl, rfl⟩
      | [_], _ => exact .inr ⟨rfl, rfl⟩
      | [_, _], _ => exact .inr ⟨rfl, rfl⟩
      | [a, b, c], e => exact .inl ⟨_, rfl, by show (decide (L ++ [10] = lineB limW [a, b, c]), _) = _; rw [decide_eq_true e]⟩
      | _ :: _ :: _ :: _ :: _, _ => exact .inr ⟨rfl, rfl⟩
    · have s1 : stepR 1 L j = match rowB L limW with | some [a, b, c] => some { j with p := a, st := b, so := c } | _ => none := rfl
      have s2 : stepJ (1 + 1) (L ++ [10]) j = match numsB (L ++ [10]) with | [a, b, c] => (decide (L ++ [10] = lineB limW [a, b, c]), { j with p := a, st := b, so := c }) | _ => (false, j) := rfl
      rw [s1, s2, hr]
      refine .inr ⟨rfl, ?_⟩
      generalize numsB (L ++ [10]) = R at n64
      match R, n64 with
      | [], _ => rfl
      | [_], _ => rfl
      | [_, _], _ => rfl
      | [a, b, c], n64 => exact decide_eq_false (ne _ n64)
      | _ :: _ :: _ :: _ :: _, _ => rfl
  · have s1 : stepR 2 L j = (rowB L inW).map fun l => { j with ins := l } := rfl
    have s2 : stepJ (2 + 1) (L ++ [10]) j = (decide (L ++ [10] = lineB inW (numsB (L ++ [10]))), { j with ins := numsB (L ++ [10]) }) := rfl
    rw [s1, s2]
    rcases nums_row (L := L) wd_in with ⟨R, hr, hnb, e⟩ | ⟨hr, ne⟩
    · exact .inl ⟨_, by rw [hr]; rfl, by rw [hnb, decide_eq_true e]⟩
    · exact .inr ⟨by rw [hr]; rfl, decide_eq_false (ne _ n64)⟩
  · have s1 : stepR 3 L j = (rowB L pkW).map fun l => { j with pk := l } := rfl
    have s2 : stepJ (3 + 1) (L ++ [10]) j = (decide (L ++ [10] = lineB pkW (numsB (L ++ [10]))), { j with pk := numsB (L ++ [10]) }) := rfl
    rw [s1, s2]
    rcases nums_row (L := L) wd_pk with ⟨R, hr, hnb, e⟩ | ⟨hr, ne⟩
    · exact .inl ⟨_, by rw [hr]; rfl, by rw [hnb, decide_eq_true e]⟩
    · exact .inr ⟨by rw [hr]; rfl, decide_eq_false (ne _ n64)⟩
theorem step_end {n : Nat} {s : List UInt8} {j : Job} (h : ∀ c ∈ s, c ≠ 10) : (stepJ n s j).1 = false := by
  have ne : ∀ {w R}, s ≠ lineB w R := fun e => h 10 (by rw [e]; exact lineB_last) rfl
  unfold stepJ
  split
  · exact decide_eq_false fun e => e.elim ne ne
  · split
    · split
      · exact decide_eq_false ne
      · rfl
    · split
      · exact decide_eq_false ne
      · split
        · exact decide_eq_false ne
        · rfl
theorem step_five {n : Nat} {s : List UInt8} {j : Job} (h : 4 < n) : (stepJ n s j).1 = false := by
  unfold stepJ
  rw [if_neg (by omega), if_neg (by omega), if_neg (by omega), if_neg (by omega)]

/-! ### The lines -/
theorem lines_run : ∀ {cur s : List UInt8}, (∀ c ∈ cur, c ≠ 10) → linesOf (cur ++ 10 :: s) = (cur ++ [10]) :: linesOf s
  | [], s, _ => by simp [linesOf]
  | c :: cur, s, h => by
    rw [List.cons_append, linesOf, if_neg (h c (List.mem_cons_self ..)), lines_run fun d hd => h d (List.mem_cons_of_mem _ hd)]
    rfl
theorem lines_rest : ∀ {cur : List UInt8}, (∀ c ∈ cur, c ≠ 10) → linesOf cur = if cur = [] then [] else [cur]
  | [], _ => rfl
  | c :: cur, h => by
    rw [linesOf, if_neg (h c (List.mem_cons_self ..)), lines_rest fun d hd => h d (List.mem_cons_of_mem _ hd)]
    cases cur <;> simp
theorem lines_cut : ∀ {s cur : List UInt8}, (∀ c ∈ cur, c ≠ 10) → linesOf (cur ++ s) = (cutR cur s).1.map (· ++ [10]) ++ (if (cutR cur s).2 = [] then [] else [(cutR cur s).2]) ∧ ∀ c ∈ (cutR cur s).2, c ≠ 10
  | [], cur, h => by rw [List.append_nil, cutR]; exact ⟨by rw [lines_rest h]; simp, h⟩
  | c :: s, cur, h => by
    unfold cutR
    by_cases hc : c = 10
    · subst hc
      rw [if_pos rfl, lines_run h]
      have := lines_cut (s := s) (cur := []) (by simp)
      rw [List.nil_append] at this
      exact ⟨by rw [this.1]; rfl, this.2⟩
    · rw [if_neg hc]
      have := lines_cut (s := s) (cur := cur ++ [c]) (by
        intro d hd
        rcases List.mem_append.1 hd with hd | hd
        · exact h d hd
        · simp at hd; subst hd; exact hc)
      rw [List.append_assoc] at this
      exact this
/-- What comes of the lines. -/
def finL : Bool × Nat × Job → Job × Int × Int
  | (false, n, _) => (job0, n, 6)
  | (true, n, j) => if n < 4 then (job0, (n : Int) + 1, 6) else (j, 0, 0)
theorem readS_fin (s : List UInt8) : readS s = finL (readL 0 job0 (linesOf s)) := by
  unfold readS finL
  rfl
theorem lines_go {rest : List UInt8} (hr : ∀ c ∈ rest, c ≠ 10) : ∀ (ls : List (List UInt8)) (n k : Nat) (j : Job), n + k = 4 → finL (readL n j (ls.map (· ++ [10]) ++ if rest = [] then [] else [rest])) = goJ rest n k ls j
  | [], n, k, j, h => by
    by_cases h0 : rest = []
    · rw [if_pos h0]
      cases k with
      | zero =>
        obtain rfl : n = 4 := by omega
        simp [readL, finL, goJ, h0]
      | succ k => simp only [List.map_nil, List.append_nil, readL, finL, goJ]; rw [if_pos (by omega)]
    · rw [if_neg h0]
      have e := step_end (n := n + 1) (j := j) hr
      have e2 : readL n j ([rest]) = (false, n + 1, (stepJ (n + 1) rest j).2) := by
        rw [readL]
        generalize stepJ (n + 1) rest j = r at e ⊢
        obtain ⟨r1, r2⟩ := r
        simp only at e
        subst e
        rfl
      rw [List.map_nil, List.nil_append, e2]
      cases k with
      | zero =>
        obtain rfl : n = 4 := by omega
        simp [finL, goJ, h0]
      | succ k => simp [finL, goJ]
  | L :: ls, n, k, j, h => by
    rw [List.map_cons, List.cons_append, readL]
    cases k with
    | zero =>
      obtain rfl : n = 4 := by omega
      have e := step_five (n := 4 + 1) (s := L ++ [10]) (j := j) (by omega)
      generalize stepJ (4 + 1) (L ++ [10]) j = r at e ⊢
      obtain ⟨r1, r2⟩ := r
      simp only at e
      subst e
      simp [finL, goJ]
    | succ k =>
      rcases step_line (n := n) (L := L) (j := j) (by omega) with ⟨j', e1, e2⟩ | ⟨e1, e2⟩
      · rw [e2, goJ, e1]
        exact lines_go hr ls (n + 1) k j' (by omega)
      · rw [goJ, e1]
        generalize stepJ (n + 1) (L ++ [10]) j = r at e2 ⊢
        obtain ⟨r1, r2⟩ := r
        simp only at e2
        subst e2
        simp [finL]
theorem read_alike (s : List UInt8) : readS s = readR s := by
  have c := lines_cut (s := s) (cur := []) (by simp)
  rw [List.nil_append] at c
  rw [readS_fin, c.1, lines_go c.2 _ 0 4 job0 rfl]
  rfl
end Go.Proofs.YthdeoeokjmmnbaaDoor.Cm
