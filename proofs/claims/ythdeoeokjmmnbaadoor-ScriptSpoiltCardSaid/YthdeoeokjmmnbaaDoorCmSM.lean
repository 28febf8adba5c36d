/-
  Jobs as texts: both readings are alike (no program in sight).
-/
import Derived.Test.YthdeoeokjmmnbaaDoorCmSL
import Derived.Test.YthdeoeokjmmnbaaDoorCmZ
namespace Go.Proofs.YthdeoeokjmmnbaaDoor.Cm
open Go.RowKit Go.IntWalk

theorem itoa_dig (n : Int) : ∀ c ∈ Lib.itoa n, 45 ≤ c.toNat ∧ c.toNat ≤ 57 := by
  have dig : ∀ u, ∀ c ∈ Lib.decDigits u, 45 ≤ c.toNat ∧ c.toNat ≤ 57 := fun u c hc => by
    have := decDigits_dig u c hc
    unfold isDig at this
    omega
  unfold Lib.itoa
  split
  · intro c hc
    rcases List.mem_cons.1 hc with rfl | hc
    · decide
    · exact dig _ c hc
  · exact dig _
theorem itoa_ne (n : Int) : Lib.itoa n ≠ [] := by
  unfold Lib.itoa
  split
  · simp
  · exact decDigits_ne _
theorem sp_of {c : UInt8} (h : 45 ≤ c.toNat ∧ c.toNat ≤ 122) : Lib.isSp c = false := by
  have ne : ∀ d : UInt8, d.toNat < 45 → (c == d) = false := fun d hd => by
    rw [beq_eq_false_iff_ne]
    rintro rfl
    omega
  simp only [Lib.isSp, ne 9 (by decide), ne 10 (by decide), ne 11 (by decide), ne 12 (by decide), ne 13 (by decide), ne 32 (by decide), Bool.or_false]

/-- A word: no blanks in it, all of it below 128. -/
def Wd1 (w : List UInt8) : Prop := w ≠ [] ∧ ∀ c ∈ w, 45 ≤ c.toNat ∧ c.toNat ≤ 122
theorem wd_itoa (n : Int) : Wd1 (Lib.itoa n) := ⟨itoa_ne n, fun c hc => by have := itoa_dig n c hc; omega⟩
theorem wd_lim : Wd1 limW := by unfold Wd1 limW; decide
theorem wd_in : Wd1 inW := by unfold Wd1 inW; decide
theorem wd_pk : Wd1 pkW := by unfold Wd1 pkW; decide
theorem wd_mode (b : Bool) : Wd1 (modeT b) := by cases b <;> (unfold Wd1 modeT; decide)
theorem Wd1.ne32 {w : List UInt8} (h : Wd1 w) : ∀ c ∈ w, c ≠ 32 := fun c hc e => by have := h.2 c hc; subst e; revert this; decide
theorem Wd1.ne10 {w : List UInt8} (h : Wd1 w) : ∀ c ∈ w, c ≠ 10 := fun c hc e => by have := h.2 c hc; subst e; revert this; decide

theorem fields_go {w : List UInt8} (h : ∀ c ∈ w, 45 ≤ c.toNat ∧ c.toNat ≤ 122) (cur t : List UInt8) : Lib.fieldsGo cur (w ++ t) = Lib.fieldsGo (cur ++ w) t := by
  induction w generalizing cur with
  | nil => simp
  | cons c w ih =>
    rw [List.cons_append, Lib.fieldsGo, sp_of (h c (List.mem_cons_self ..))]
    simp only [Bool.false_eq_true, if_false]
    rw [ih (fun d hd => h d (List.mem_cons_of_mem _ hd))]
    simp
theorem fields_line : ∀ (R : List Int) (cur : List UInt8), cur ≠ [] → Lib.fieldsGo cur (numsT R ++ [10]) = cur :: R.map Lib.itoa
  | [], cur, hc => by
    cases cur with
    | nil => exact (hc rfl).elim
    | cons => simp [numsT, Lib.fieldsGo, Lib.isSp]
  | n :: R, cur, hc => by
    have e : Lib.fieldsGo cur (numsT (n :: R) ++ [10]) = cur :: Lib.fieldsGo [] (Lib.itoa n ++ (numsT R ++ [10])) := by
      cases cur with
      | nil => exact (hc rfl).elim
      | cons => simp [numsT, Lib.fieldsGo, Lib.isSp]
    rw [e, fields_go (wd_itoa n).2, List.nil_append, fields_line R _ (itoa_ne n)]
    rfl
theorem line_low {w : List UInt8} (h : Wd1 w) (R : List Int) : ∀ b ∈ lineB w R, b.toNat < 128 := by
  have nums : ∀ R : List Int, ∀ b ∈ numsT R, b.toNat < 128 := by
    intro R
    induction R with
    | nil => simp [numsT]
    | cons n R ih =>
      intro b hb
      simp only [numsT, List.mem_cons, List.mem_append] at hb
      rcases hb with rfl | hb | hb
      · decide
      · have := itoa_dig n b hb; omega
      · exact ih b hb
  intro b hb
  simp only [lineB, List.mem_append, List.mem_cons, List.not_mem_nil, or_false] at hb
  rcases hb with hb | hb | rfl
  · have := h.2 b hb; omega
  · exact nums R b hb
  · decide
theorem numsB_line {w : List UInt8} {R : List Int} (h : Wd1 w) (hR : I64 R) : numsB (lineB w R) = R := by
  have e : Lib.fieldsD (lineB w R) = w :: R.map Lib.itoa := by
    rw [Lib.fieldsD_ascii _ (line_low h R)]
    show Lib.fieldsGo [] (lineB w R) = _
    rw [lineB, fields_go h.2, List.nil_append, fields_line R w h.1]
  rw [numsB, e]
  simp only [List.length_cons, show min 1 ((R.map Lib.itoa).length + 1) = 1 by omega, List.drop_one, List.tail_cons, List.map_map]
  conv => rhs; rw [← List.map_id R]
  exact List.map_congr_left fun n hn => parseV_itoa (hR n hn).1 (hR n hn).2

theorem numsR_itoa : ∀ {R : List Int}, I64 R → numsR (R.map Lib.itoa) = some R
  | [], _ => rfl
  | n :: R, h => by
    have h1 := h n (List.mem_cons_self ..)
    have e : refNum (Lib.itoa n) = some n := by rw [refNum_eq, parseV_itoa h1.1 h1.2, if_pos rfl]
    simp only [List.map_cons, numsR, e, numsR_itoa (R := R) fun m hm => h m (List.mem_cons_of_mem _ hm), Option.map_some]
theorem numsR_itoa' : ∀ {r : List (List UInt8)} {R : List Int}, numsR r = some R → r = R.map Lib.itoa ∧ I64 R
  | [], R, h => by simp [numsR] at h; subst h; exact ⟨rfl, I64.nil⟩
  | x :: r, R, h => by
    simp only [numsR] at h
    cases hq : refNum x with
    | none => rw [hq] at h; simp at h
    | some n =>
      rw [hq] at h
      cases hA : numsR r with
      | none => rw [hA] at h; simp at h
      | some A =>
        rw [hA] at h
        simp only [Option.map_some, Option.some.injEq] at h
        subst h
        obtain ⟨e, i⟩ := numsR_itoa' hA
        have r64 := refNum_64 hq
        rw [refNum_eq] at hq
        split at hq
        · next hx =>
          simp only [Option.some.injEq] at hq
          refine ⟨by rw [List.map_cons, ← e, ← hq, hx], fun m hm => ?_⟩
          rcases List.mem_cons.1 hm with rfl | hm
          · exact r64
          · exact i m hm
        · simp at hq
theorem unB_line : ∀ (w : List UInt8) (R : List Int), unB (w :: R.map Lib.itoa) = w ++ numsT R
  | w, [] => by simp [unB, numsT]
  | w, n :: R => by
    rw [unB_cons (by simp), List.map_cons, unB_line (Lib.itoa n) R]
    rfl
theorem split_line : ∀ {w : List UInt8} (_ : Wd1 w) (R : List Int), splitB (w ++ numsT R) = w :: R.map Lib.itoa
  | w, h, [] => by rw [numsT, List.append_nil, split1_last h.ne32]; rfl
  | w, h, n :: R => by
    rw [numsT, split1_word h.ne32, split_line (wd_itoa n) R]
    rfl
theorem row_line {L w : List UInt8} {R : List Int} (h : Wd1 w) : rowB L w = some R ↔ L = w ++ numsT R ∧ I64 R := by
  constructor
  · intro hr
    unfold rowB at hr
    have hu := unB_split L
    split at hr
    · next x r e5 =>
      split at hr
      · next hx =>
        obtain ⟨e, i⟩ := numsR_itoa' hr
        rw [e5, hx, e, unB_line] at hu
        exact ⟨hu.symm, i⟩
      · simp at hr
    · simp at hr
  · rintro ⟨rfl, i⟩
    unfold rowB
    rw [split_line h R]
    simp only [if_true]
    exact numsR_itoa i
end Go.Proofs.YthdeoeokjmmnbaaDoor.Cm
