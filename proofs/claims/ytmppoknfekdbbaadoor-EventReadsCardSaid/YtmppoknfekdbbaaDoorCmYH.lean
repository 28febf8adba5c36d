/-
  The clean machine, part YH: strconv.Itoa and strconv.ParseInt(s, 10, 64) as known from their contracts.
-/
import Derived.Test.YtmppoknfekdbbaaDoorCmYG
import Derived.Lib.ItoaNum
import Derived.Lib.ParseIntB
import Derived.Lib.LaidTab
import Derived.Lib.ConvBytes
import Derived.Lib.AtoiErrMem
import Derived.Sort.Grow
import Derived.Deep.Draws
namespace Go.Proofs.YtmppoknfekdbbaaDoor.Cm
open Go.RowKit

/-- The digits, so many at most. -/
def decC : Nat → Nat → List UInt8
  | 0, _ => []
  | k + 1, u => if u < 10 then [UInt8.ofNat (48 + u)] else decC k (u / 10) ++ [UInt8.ofNat (48 + u % 10)]
theorem decC_eq : ∀ (k u : Nat), 0 < k → u < 10 ^ k → decC k u = Lib.decDigits u
  | 0, _, h, _ => absurd h (by omega)
  | k + 1, u, _, h => by
    rw [decC, Lib.decDigits]
    by_cases h1 : u < 10
    · rw [if_pos h1, dif_pos h1]
    · rw [if_neg h1, dif_neg h1]
      rw [Nat.pow_succ] at h
      rw [decC_eq k (u / 10) (by rcases Nat.eq_zero_or_pos k with h0 | h0; (subst h0; simp at h; omega); exact h0) (by omega)]
def itoaC (n : Int) : List UInt8 := match n with
  | .ofNat u => decC 20 u
  | .negSucc u => 45 :: decC 20 (u + 1)
theorem itoaC_eq {n : Int} (h0 : -9223372036854775808 ≤ n) (h1 : n ≤ 9223372036854775807) : itoaC n = Lib.itoa n := by
  unfold itoaC Lib.itoa
  cases n with
  | ofNat u =>
    simp only [Int.ofNat_eq_natCast] at h1 ⊢
    rw [decC_eq 20 u (by omega) (by omega), if_neg (by omega), Int.toNat_natCast]
  | negSucc u =>
    simp only
    rw [decC_eq 20 (u + 1) (by omega) (by omega), if_pos (by omega)]
    rfl

def itoaP : List CVal → Heap → Option (CVal × Heap)
  | [.int .i64 n], h => if -9223372036854775808 ≤ n ∧ n ≤ 9223372036854775807 then some (.str (itoaC n), h) else none
  | _, _ => none

theorem VR.int_inv {ι : Emb} {k : IntKind} {n : Int} {v : Value} (r : VR ι (.int k n) v) : v = .int k n := by
  generalize hq : CVal.int k n = q at r
  cases r with
  | int k' n' => simp only [CVal.int.injEq] at hq; obtain ⟨rfl, rfl⟩ := hq; rfl
  | _ => simp at hq

theorem keeps_grow (w : World) (k : Nat) (os : Array Obj) : Keeps (fun b => b < w.heap.size) w (Sort.grow (w.drewN k) os) :=
  ⟨rfl, rfl, rfl, by simp [Sort.grow, World.drewN], fun b hb => by simp [Sort.grow, World.drewN, Array.getElem?_append_left hb]⟩

theorem itoa_ok {P : Program} {glb : Gl} {f : FuncId} (hb : HasBody P f)
    (C : ∀ n : Int, -9223372036854775808 ≤ n → n ≤ 9223372036854775807 → ∀ w : World, glb.fact w → Calls P f #[.int .i64 n] w fun e w' => e = .returned (.string ⟨(Lib.itoa n).toArray⟩) ∧ ∃ k os, w' = Sort.grow (w.drewN k) os) : PrimOk P glb f itoaP := by
  refine ⟨hb, fun K ι h w args args' v h' hk H R ev => ?_⟩
  obtain ⟨l'⟩ := args'
  simp only at R
  subst hk
  unfold itoaP at ev
  split at ev
  · next n =>
    split at ev
    · next hn =>
      simp only [Option.some.injEq, Prod.mk.injEq] at ev
      obtain ⟨rfl, rfl⟩ := ev
      cases R with
      | cons _ _ x' r' r1 r2 =>
        cases r2
        rw [r1.int_inv]
        refine (C n hn.1 hn.2 w H.fact).mono ?_
        rintro e w' ⟨he, k, os, rfl⟩
        refine ⟨ι, _, Emb.le.refl _, he, H.later (keeps_grow w k os), ?_⟩
        rw [itoaC_eq hn.1 hn.2]
        have := VR.str (ι := ι) ⟨(Lib.itoa n).toArray⟩
        simpa using this
    · simp at ev
  · simp at ev

/-- What strconv.ParseInt(s, 10, 64) answers first. -/
def parseV (s : List UInt8) : Int := match Lib.parseIntB 64 s with
  | .ok v => v
  | .range => Lib.intSat 64 s
  | _ => 0
def parseP : List CVal → Heap → Option (CVal × Heap)
  | [.str s, .int .i64 b, .int .i64 k], h => if b = 10 ∧ k = 64 ∧ s.length ≤ 281474976710656 then some (.tuple [.int .i64 (parseV s), .undef], h) else none
  | _, _ => none

theorem parse_ok {P : Program} {glb : Gl} {f : FuncId} (hb : HasBody P f) {T : TypeId}
    (C0 : ∀ (s : ByteArray) (v : Int) (w : World), s.size ≤ 281474976710656 → Lib.parseIntB 64 s.data.toList = .ok v → glb.fact w → Calls P f #[.string s, .int .i64 10, .int .i64 64] w fun e w' => e = .returned (.tuple #[.int .i64 v, .nilIface]) ∧ (w' = w ∨ ∃ t, w' = Lib.bytesWorld w T t))
    (C1 : ∀ (s : ByteArray) (w : World), s.size ≤ 281474976710656 → (∀ v, Lib.parseIntB 64 s.data.toList ≠ .ok v) → Lib.parseIntB 64 s.data.toList ≠ .range → glb.fact w → Calls P f #[.string s, .int .i64 10, .int .i64 64] w fun e w' => (∃ x, e = .returned (.tuple #[.int .i64 0, x])) ∧ Below w.heap.size w w')
    (C2 : ∀ (s : ByteArray) (w : World), s.size ≤ 281474976710656 → Lib.parseIntB 64 s.data.toList = .range → glb.fact w → Calls P f #[.string s, .int .i64 10, .int .i64 64] w fun e w' => (∃ x, e = .returned (.tuple #[.int .i64 (Lib.intSat 64 s.data.toList), x])) ∧ Below w.heap.size w w') :
    PrimOk P glb f parseP := by
  refine ⟨hb, fun K ι h w args args' v h' hk H R ev => ?_⟩
  obtain ⟨l'⟩ := args'
  simp only at R
  subst hk
  unfold parseP at ev
  split at ev
  · next s b k =>
    split at ev
    · next hn =>
      obtain ⟨rfl, rfl, hs⟩ := hn
      simp only [Option.some.injEq, Prod.mk.injEq] at ev
      obtain ⟨rfl, rfl⟩ := ev
      cases R with
      | cons _ _ x' r' r1 r2 =>
        cases r2 with
        | cons _ _ y' r'' r3 r4 =>
          cases r4 with
          | cons _ _ z' r''' r5 r6 =>
            cases r6
            rw [r3.int_inv, r5.int_inv]
            obtain ⟨S, rfl, rfl⟩ := r1.str_inv
            have hs' : S.size ≤ 281474976710656 := by
              have : S.data.toList.length = S.size := rfl
              omega
            have fin : ∀ {e : Ending} {w' : World} {n : Int}, (∃ x, e = .returned (.tuple #[.int .i64 n, x])) → Keeps (fun b => b < w.heap.size) w w' → ∃ ι' v', ι.le ι' ∧ e = .returned v' ∧ Inv K ι' h w' ∧ VR ι' (.tuple [.int .i64 n, .undef]) v' := by
              rintro e w' n ⟨x, rfl⟩ hk
              exact ⟨ι, _, Emb.le.refl _, rfl, H.later hk, .tuple _ _ (.cons _ _ _ _ (.int _ _) (.cons _ _ _ _ (.undef _) .nil))⟩
            unfold parseV
            cases hq : Lib.parseIntB 64 S.data.toList with
            | ok v =>
              refine (C0 S v w hs' hq H.fact).mono ?_
              rintro e w' ⟨he, hw⟩
              refine fin ⟨_, he⟩ ?_
              rcases hw with rfl | ⟨t, rfl⟩
              · exact ⟨rfl, rfl, rfl, Nat.le_refl _, fun _ _ => rfl⟩
              · exact keeps_of_below (Lib.bytesWorld_below _ _ _)
            | range =>
              refine (C2 S w hs' hq H.fact).mono ?_
              rintro e w' ⟨he, hw⟩
              exact fin he (keeps_of_below hw)
            | _ =>
              refine (C1 S w hs' (fun v h => by rw [hq] at h; cases h) (fun h => by rw [hq] at h; cases h) H.fact).mono ?_
              rintro e w' ⟨he, hw⟩
              exact fin he (keeps_of_below hw)
    · simp at ev
  · simp at ev
end Go.Proofs.YtmppoknfekdbbaaDoor.Cm
