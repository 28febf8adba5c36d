/-
  The clean machine, part YL: numerals: what is written is read again, and nothing else is.
-/
import Derived.Test.YtmppoknfekdbbaaDoorCmYH
namespace Go.Proofs.YtmppoknfekdbbaaDoor.Cm

def isDig (c : UInt8) : Prop := 48 ≤ c.toNat ∧ c.toNat ≤ 57
/-- The value of digits behind a value. -/
def val (acc : Nat) (l : List UInt8) : Nat := l.foldl (fun a c => a * 10 + (c.toNat - 48)) acc
theorem val_nil (acc : Nat) : val acc [] = acc := rfl
theorem val_cons (acc : Nat) (c : UInt8) (l : List UInt8) : val acc (c :: l) = val (acc * 10 + (c.toNat - 48)) l := by rw [val, val, List.foldl_cons]
theorem val_ge (l : List UInt8) : ∀ acc : Nat, acc ≤ val acc l := by
  induction l with
  | nil => intro acc; exact Nat.le_refl _
  | cons c l ih => intro acc; have := ih (acc * 10 + (c.toNat - 48)); rw [val_cons]; omega
theorem val_append (l r : List UInt8) : ∀ acc : Nat, val acc (l ++ r) = val (val acc l) r := by
  induction l with
  | nil => intro acc; rfl
  | cons c l ih => intro acc; rw [List.cons_append, val_cons, val_cons, ih]

theorem parseM_ok {M : Nat} (hM : M < 18446744073709551616) (l : List UInt8) : ∀ acc : Nat, (∀ c ∈ l, isDig c) → val acc l ≤ M → Lib.parseUintM M acc l = .ok (val acc l) := by
  induction l with
  | nil => intro acc _ _; rfl
  | cons c l ih =>
    intro acc hd hv
    have h1 := hd c (List.mem_cons_self ..)
    unfold isDig at h1
    rw [val_cons] at hv
    have h2 := val_ge l (acc * 10 + (c.toNat - 48))
    rw [Lib.parseUintM, if_pos h1, if_neg (by omega), if_neg (by omega), ih _ (fun x hx => hd x (List.mem_cons_of_mem _ hx)) hv, val_cons]

theorem dig_ofNat {k : Nat} (h : k < 10) : (UInt8.ofNat (48 + k)).toNat = 48 + k := by
  rw [UInt8.toNat_ofNat']; omega
theorem decDigits_dig (u : Nat) : ∀ c ∈ Lib.decDigits u, isDig c := by
  induction u using Nat.strongRecOn with
  | _ u ih =>
    rw [Lib.decDigits]
    split
    · next h =>
      intro c hc
      simp only [List.mem_cons, List.not_mem_nil, or_false] at hc
      subst hc
      unfold isDig
      rw [dig_ofNat h]; omega
    · next h =>
      intro c hc
      rcases List.mem_append.1 hc with hc | hc
      · exact ih (u / 10) (by omega) c hc
      · simp only [List.mem_cons, List.not_mem_nil, or_false] at hc
        subst hc
        unfold isDig
        rw [dig_ofNat (Nat.mod_lt _ (by omega))]; omega
theorem decDigits_val (u : Nat) : val 0 (Lib.decDigits u) = u := by
  induction u using Nat.strongRecOn with
  | _ u ih =>
    rw [Lib.decDigits]
    split
    · next h => rw [val_cons, val_nil, dig_ofNat h]; omega
    · next h =>
      rw [val_append, ih (u / 10) (by omega), val_cons, val_nil, dig_ofNat (Nat.mod_lt _ (by omega))]; omega
theorem decDigits_ne (u : Nat) : Lib.decDigits u ≠ [] := by
  rw [Lib.decDigits]
  split <;> simp
/-- The first digit is 0 just for 0. -/
theorem decDigits_head (u : Nat) : ∃ c l, Lib.decDigits u = c :: l ∧ (c = 48 → u = 0) := by
  induction u using Nat.strongRecOn with
  | _ u ih =>
    rw [Lib.decDigits]
    split
    · next h =>
      refine ⟨_, [], rfl, fun e => ?_⟩
      have := congrArg UInt8.toNat e
      rw [dig_ofNat h] at this
      have e2 : (48 : UInt8).toNat = 48 := rfl
      omega
    · next h =>
      obtain ⟨c, l, e, hc⟩ := ih (u / 10) (by omega)
      exact ⟨c, l ++ [UInt8.ofNat (48 + u % 10)], by rw [e]; rfl, fun h => by have := hc h; omega⟩
theorem decDigits_zero : Lib.decDigits 0 = [48] := by rw [Lib.decDigits]; rfl

theorem ofNat_dig {c : UInt8} (h : isDig c) : UInt8.ofNat (48 + (c.toNat - 48)) = c := by
  unfold isDig at h
  rw [show 48 + (c.toNat - 48) = c.toNat by omega]
  exact UInt8.ofNat_toNat
/-- Digits without a 0 ahead are the numeral of their value. -/
theorem decDigits_of {c : UInt8} {l : List UInt8} (hd : ∀ x ∈ c :: l, isDig x) (hc : c ≠ 48) : Lib.decDigits (val 0 (c :: l)) = c :: l := by
  have pos : 1 ≤ c.toNat - 48 := by
    have := (hd c (List.mem_cons_self ..)).1
    have h2 : c.toNat ≠ 48 := fun e => hc (UInt8.toNat_inj.1 (by rw [e]; rfl))
    omega
  have key : ∀ (r : List UInt8) (p : List UInt8) (a : Nat), (∀ x ∈ r, isDig x) → 1 ≤ a → Lib.decDigits a = p → Lib.decDigits (val a r) = p ++ r := by
    intro r
    induction r with
    | nil => intro p a _ _ h; rw [val_nil, h, List.append_nil]
    | cons x r ih =>
      intro p a hr ha h
      have hx := hr x (List.mem_cons_self ..)
      have hx' := hx
      unfold isDig at hx
      rw [val_cons, ih (p ++ [x]) _ (fun y hy => hr y (List.mem_cons_of_mem _ hy)) (by omega), List.append_assoc]; rfl
      rw [Lib.decDigits, dif_neg (by omega), show (a * 10 + (x.toNat - 48)) / 10 = a by omega, show (a * 10 + (x.toNat - 48)) % 10 = x.toNat - 48 by omega, h, ofNat_dig hx']
  have h0 := hd c (List.mem_cons_self ..)
  have h0' := h0
  unfold isDig at h0
  rw [val_cons]
  have := key l [c] (0 * 10 + (c.toNat - 48)) (fun x hx => hd x (List.mem_cons_of_mem _ hx)) (by omega) (by rw [Nat.zero_mul, Nat.zero_add, Lib.decDigits, dif_pos (by omega), ofNat_dig h0'])
  simpa using this

theorem parseB_dec {u : Nat} (h : u < 18446744073709551616) : Lib.parseUintB 64 (Lib.decDigits u) = .ok u := by
  rw [Lib.parseUintB, if_neg (decDigits_ne u), parseM_ok (by decide) _ _ (decDigits_dig u) (by rw [decDigits_val]; omega), decDigits_val]

/-- What Itoa writes, ParseInt reads. -/
theorem parse_itoa {n : Int} (h0 : -9223372036854775808 ≤ n) (h1 : n ≤ 9223372036854775807) : Lib.parseIntB 64 (Lib.itoa n) = .ok n := by
  unfold Lib.itoa
  split
  · next h =>
    simp only [Lib.parseIntB]
    rw [show (if (45 : UInt8).toNat = 43 ∨ (45 : UInt8).toNat = 45 then Lib.decDigits n.natAbs else 45 :: Lib.decDigits n.natAbs) = Lib.decDigits n.natAbs from rfl, parseB_dec (by omega)]
    simp only
    rw [if_neg (fun h => h.1 rfl), if_neg (fun h => by have := h.2; omega), if_pos (show UInt8.toNat 45 = 45 from rfl)]
    congr 1; omega
  · next h =>
    have hp := parseB_dec (u := n.toNat) (by omega)
    obtain ⟨c, l, e, _⟩ := decDigits_head n.toNat
    have hc : isDig c := decDigits_dig n.toNat c (by rw [e]; exact List.mem_cons_self ..)
    unfold isDig at hc
    rw [e] at hp ⊢
    simp only [Lib.parseIntB]
    rw [if_neg (by omega), hp]
    simp only
    rw [if_neg (fun h => by have := h.2; omega), if_neg (fun h => by have := h.1; omega), if_neg (by omega)]
    congr 1; omega
theorem parseV_itoa {n : Int} (h0 : -9223372036854775808 ≤ n) (h1 : n ≤ 9223372036854775807) : parseV (Lib.itoa n) = n := by rw [parseV, parse_itoa h0 h1]
theorem itoa_blank (n : Int) : ∀ c ∈ Lib.itoa n, c ≠ 32 := by
  have dig : ∀ u, ∀ c ∈ Lib.decDigits u, c ≠ 32 := fun u c hc e => by
    have := decDigits_dig u c hc
    unfold isDig at this
    subst e
    have e2 : (32 : UInt8).toNat = 32 := rfl
    omega
  unfold Lib.itoa
  split
  · intro c hc
    rcases List.mem_cons.1 hc with rfl | hc
    · decide
    · exact dig _ c hc
  · exact dig _
end Go.Proofs.YtmppoknfekdbbaaDoor.Cm
