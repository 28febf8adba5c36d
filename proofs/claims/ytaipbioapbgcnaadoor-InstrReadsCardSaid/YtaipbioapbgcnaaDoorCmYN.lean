/-
  The clean machine, part YN: numbers as they must be written; words put together again.
-/
import Derived.Test.YtaipbioapbgcnaaDoorCmE
namespace Go.Proofs.YtaipbioapbgcnaaDoor.Cm
open Go.RowKit Go.IntWalk

theorem decC_length : ∀ k u, (decC k u).length ≤ k
  | 0, _ => Nat.le_refl _
  | k + 1, u => by
    rw [decC]
    split
    · simp
    · have := decC_length k (u / 10); simp; omega
theorem itoa_length {n : Int} (h0 : -9223372036854775808 ≤ n) (h1 : n ≤ 9223372036854775807) : (Lib.itoa n).length ≤ 21 := by
  rw [← itoaC_eq h0 h1]
  unfold itoaC
  cases n with
  | ofNat u => have := decC_length 20 u; simp only; omega
  | negSucc u => have := decC_length 20 (u + 1); simp only [List.length_cons]; omega
theorem parseV_range (s : List UInt8) : -9223372036854775808 ≤ parseV s ∧ parseV s ≤ 9223372036854775807 := by
  unfold parseV
  split
  · next v hv =>
    unfold Lib.parseIntB at hv
    split at hv
    · cases hv
    · simp only at hv
      split at hv
      · cases hv
      · cases hv
      · split at hv
        · cases hv
        · split at hv
          · cases hv
          · simp only [Lib.NumEnd.ok.injEq] at hv
            subst hv
            split <;> omega
  · unfold Lib.intSat
    split <;> simp
  · simp

instance (c : UInt8) : Decidable (isDig c) := by unfold isDig; infer_instance
/-- A number below 0, digit by digit. -/
def negs (n : Int) : List UInt8 → Option Int
  | [] => some n
  | c :: l => if isDig c ∧ -9223372036854775808 ≤ 10 * n - ((c.toNat : Int) - 48) then negs (10 * n - ((c.toNat : Int) - 48)) l else none
/-- The digits d, behind a sign or not; 'one': the text is "0". -/
def numD (neg one : Bool) (d : List UInt8) : Option Int := match d with
  | [] => none
  | c :: l => if 19 < (c :: l).length ∨ (c = 48 ∧ one = false) then none else match negs 0 (c :: l) with
    | none => none
    | some n => if neg then some n else if n = -9223372036854775808 then none else some (0 - n)
def refNum : List UInt8 → Option Int
  | [] => none
  | c :: r => if c = 45 then numD true false r else numD false (decide (c :: r = [48])) (c :: r)
def resNum : Option Int → CVal
  | some n => .tuple [.int .i64 n, .bool true]
  | none => .tuple [.int .i64 0, .bool false]

theorem QUON.neg {a b : Int} {K : Int → Prop} (h : -9223372036854775808 ≤ a ∧ a ≤ 0 ∧ 2 ≤ b) (k : K (-(-a / b))) : QUON .i64 a b K := by
  have e : a.tdiv b = -(-a / b) := by
    rw [← Int.tdiv_eq_ediv_of_nonneg (show 0 ≤ -a by omega), Int.neg_tdiv, Int.neg_neg]
  have d0 : 0 ≤ -a / b := Int.ediv_nonneg (by omega) (by omega)
  have d1 : -a / b ≤ -a := Int.ediv_le_self _ (by omega)
  refine ⟨by omega, ?_⟩
  rw [e, i64_in _ (by omega)]
  exact k

theorem u8_48 {b : UInt8} : b = 48 ↔ b.toNat = 48 := by rw [← UInt8.toNat_inj]; exact Iff.rfl
theorem u8_45 {b : UInt8} : b = 45 ↔ b.toNat = 45 := by rw [← UInt8.toNat_inj]; exact Iff.rfl

theorem negs_cons {n : Int} {c : UInt8} {l : List UInt8} : negs n (c :: l) = if isDig c ∧ -9223372036854775808 ≤ 10 * n - ((c.toNat : Int) - 48) then negs (10 * n - ((c.toNat : Int) - 48)) l else none := by rw [negs]
theorem negs_some (l : List UInt8) : ∀ (m : Nat) (n : Int), (m : Int) ≤ 9223372036854775808 → negs (-(m : Int)) l = some n → (∀ c ∈ l, isDig c) ∧ n = -(val m l : Int) ∧ -9223372036854775808 ≤ n := by
  induction l with
  | nil =>
    intro m n hm h
    rw [negs] at h
    simp only [Option.some.injEq] at h
    subst h
    exact ⟨fun c hc => by simp at hc, rfl, by omega⟩
  | cons c l ih =>
    intro m n hm h
    rw [negs_cons] at h
    split at h
    · next hc =>
      have hd := hc.1
      unfold isDig at hd
      have e : 10 * -(m : Int) - ((c.toNat : Int) - 48) = -((m * 10 + (c.toNat - 48) : Nat) : Int) := by omega
      rw [e] at h hc
      obtain ⟨h1, h2, h3⟩ := ih _ n (by omega) h
      refine ⟨fun x hx => ?_, h2, h3⟩
      rcases List.mem_cons.1 hx with rfl | hx
      · exact hc.1
      · exact h1 x hx
    · simp at h
theorem negs_of (l : List UInt8) : ∀ m : Nat, (∀ c ∈ l, isDig c) → val m l ≤ 9223372036854775808 → negs (-(m : Int)) l = some (-(val m l : Int)) := by
  induction l with
  | nil => intro m _ _; rfl
  | cons c l ih =>
    intro m hd hv
    have h0 := hd c (List.mem_cons_self ..)
    have h0' := h0
    unfold isDig at h0
    rw [val_cons] at hv
    have hg := val_ge l (m * 10 + (c.toNat - 48))
    have e : 10 * -(m : Int) - ((c.toNat : Int) - 48) = -((m * 10 + (c.toNat - 48) : Nat) : Int) := by omega
    rw [negs_cons, e, if_pos ⟨h0', by omega⟩, ih _ (fun x hx => hd x (List.mem_cons_of_mem _ hx)) hv, val_cons]

theorem refNum_some {w : List UInt8} {n : Int} (h : refNum w = some n) : w = Lib.itoa n ∧ -9223372036854775808 ≤ n ∧ n ≤ 9223372036854775807 := by
  have dig : ∀ {neg one : Bool} {d : List UInt8} {x : Int}, numD neg one d = some x → ∃ c l y, d = c :: l ∧ ¬ (19 < (c :: l).length ∨ (c = 48 ∧ one = false)) ∧ (∀ q ∈ c :: l, isDig q) ∧ y = -(val 0 (c :: l) : Int) ∧ -9223372036854775808 ≤ y ∧ (if neg then some y else if y = -9223372036854775808 then none else some (0 - y)) = some x := by
    intro neg one d x h
    cases d with
    | nil => simp [numD] at h
    | cons c l =>
      rw [numD] at h
      split at h
      · simp at h
      · next hc =>
        cases hq : negs 0 (c :: l) with
        | none => rw [hq] at h; simp at h
        | some y =>
          rw [hq] at h
          obtain ⟨h1, h2, h3⟩ := negs_some (c :: l) 0 y (by omega) hq
          exact ⟨c, l, y, rfl, hc, h1, h2, h3, h⟩
  cases w with
  | nil => simp [refNum] at h
  | cons c r =>
    rw [refNum] at h
    split at h
    · next hc =>
      subst hc
      obtain ⟨c, l, y, rfl, h1, h2, h3, h4, h5⟩ := dig h
      simp only [if_true, Option.some.injEq] at h5
      subst h5
      have c48 : c ≠ 48 := fun e => h1 (.inr ⟨e, rfl⟩)
      have e := decDigits_of h2 c48
      have pos : val 0 (c :: l) ≠ 0 := fun e0 => by
        rw [e0, decDigits_zero] at e
        exact c48 (List.cons.inj e).1.symm
      refine ⟨?_, h4, by omega⟩
      rw [Lib.itoa, if_pos (by omega), show y.natAbs = val 0 (c :: l) by omega, e]
    · next hc =>
      obtain ⟨c', l, y, e', h1, h2, h3, h4, h5⟩ := dig h
      obtain ⟨rfl, rfl⟩ := List.cons.inj e'
      simp only [Bool.false_eq_true, if_false] at h5
      split at h5
      · simp at h5
      · next hy =>
        simp only [Option.some.injEq] at h5
        subst h5
        refine ⟨?_, by omega, by omega⟩
        rw [Lib.itoa, if_neg (by omega), show (0 - y).toNat = val 0 (c :: r) by omega]
        by_cases c48 : c = 48
        · by_cases hz : c :: r = [48]
          · rw [hz]
            exact decDigits_zero.symm
          · exact (h1 (.inr ⟨c48, decide_eq_false hz⟩)).elim
        · exact (decDigits_of h2 c48).symm

theorem decDigits_short {u : Nat} (h : u < 10 ^ 19) : (Lib.decDigits u).length ≤ 19 := by
  rw [← decC_eq 19 u (by omega) h]
  exact decC_length 19 u
theorem refNum_itoa {n : Int} (h0 : -9223372036854775808 ≤ n) (h1 : n ≤ 9223372036854775807) : refNum (Lib.itoa n) = some n := by
  rw [Lib.itoa]
  split
  · next hn =>
    obtain ⟨c, l, e, hc⟩ := decDigits_head n.natAbs
    have hs := decDigits_short (u := n.natAbs) (by omega)
    have hd := decDigits_dig n.natAbs
    have hv := decDigits_val n.natAbs
    rw [e] at hs hd hv ⊢
    have ng := negs_of (c :: l) 0 hd (by omega)
    rw [refNum, if_pos rfl, numD, if_neg]
    · rw [show (-((0 : Nat) : Int)) = 0 from rfl] at ng
      rw [ng, hv]
      simp only [if_true, Option.some.injEq]
      omega
    · rintro (h | ⟨h, _⟩)
      · omega
      · have := hc h; omega
  · next hn =>
    obtain ⟨c, l, e, hc⟩ := decDigits_head n.toNat
    have hs := decDigits_short (u := n.toNat) (by omega)
    have hd := decDigits_dig n.toNat
    have hv := decDigits_val n.toNat
    rw [e] at hs hd hv ⊢
    have ng := negs_of (c :: l) 0 hd (by omega)
    have h0 := hd c (List.mem_cons_self ..)
    unfold isDig at h0
    rw [refNum, if_neg (fun e => by have := u8_45.1 e; omega), numD, if_neg]
    · rw [show (-((0 : Nat) : Int)) = 0 from rfl] at ng
      rw [ng, hv]
      simp only [Bool.false_eq_true, if_false]
      rw [if_neg (by omega)]
      simp only [Option.some.injEq]
      omega
    · rintro (h | ⟨h, h'⟩)
      · omega
      · have h2 := hc h
        rw [h2, decDigits_zero] at e
        rw [← e] at h'
        simp at h'
theorem refNum_eq (w : List UInt8) : refNum w = if Lib.itoa (parseV w) = w then some (parseV w) else none := by
  have r := parseV_range w
  split
  · next h =>
    have := refNum_itoa r.1 r.2
    rwa [h] at this
  · next h =>
    cases hq : refNum w with
    | none => rfl
    | some n =>
      obtain ⟨e, h0, h1⟩ := refNum_some hq
      exfalso
      apply h
      rw [e, parseV_itoa h0 h1]

/-- The words, put together again. -/
def unB : List (List UInt8) → List UInt8
  | [] => []
  | [w] => w
  | w :: ws => w ++ 32 :: unB ws
theorem unB_cons {w : List UInt8} {ws : List (List UInt8)} (h : ws ≠ []) : unB (w :: ws) = w ++ 32 :: unB ws := by
  cases ws with
  | nil => exact (h rfl).elim
  | cons => rfl
theorem unB_split (s : List UInt8) : unB (splitB s) = s := by
  induction s with
  | nil => rfl
  | cons c s ih =>
    rw [splitB]
    split
    · next h => rw [unB_cons (splitB_ne s), ih, h]; rfl
    · next h =>
      cases hq : splitB s with
      | nil => exact (splitB_ne s hq).elim
      | cons w ws =>
        rw [hq] at ih
        rw [← ih]
        cases ws with
        | nil => rfl
        | cons => rfl

theorem splitB_mem : ∀ {s w : List UInt8}, w ∈ splitB s → w.length ≤ s.length
  | [], w, h => by simp [splitB] at h; simp [h]
  | c :: s, w, h => by
    unfold splitB at h
    split at h
    · rcases List.mem_cons.1 h with rfl | h
      · simp
      · have := splitB_mem h; simp; omega
    · cases hq : splitB s with
      | nil => exact (splitB_ne s hq).elim
      | cons x xs =>
        rw [hq] at h
        rcases List.mem_cons.1 h with rfl | h
        · have : x ∈ splitB s := by rw [hq]; exact List.mem_cons_self ..
          have := splitB_mem this
          simp; omega
        · have : w ∈ splitB s := by rw [hq]; exact List.mem_cons_of_mem _ h
          have := splitB_mem this
          simp; omega

end Go.Proofs.YtaipbioapbgcnaaDoor.Cm
