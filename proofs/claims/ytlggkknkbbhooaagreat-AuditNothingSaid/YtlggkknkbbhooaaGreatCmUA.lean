/-
  Traces: the plain law. Both readings go event by event.
-/
import Derived.Test.YtlggkknkbbhooaaGreatCmE
import Derived.Test.YtlggkknkbbhooaaGreatCmZ
namespace Go.Proofs.YtlggkknkbbhooaaGreat.Cm

/-- May an event be a process's next one? -/
def followsB (was e : Ev) : Bool := if was.kind = 5 ∨ was.kind = 4 then false else if was.kind = 2 then decide (was.a ≠ 4 ∨ (e.kind = 3 ∧ e.a = was.b)) else true
/-- A process's last event, that is no stop. -/
def lastP (l : List Ev) (pid : Int) : Option Ev := l.foldl (fun s e => if e.kind ≠ 6 ∧ e.pid = pid then some e else s) none
theorem lastP_snoc (l : List Ev) (e : Ev) (pid : Int) : lastP (l ++ [e]) pid = if e.kind ≠ 6 ∧ e.pid = pid then some e else lastP l pid := by simp [lastP]
/-- One step of the program's reading. -/
def stepP (l : List Ev) (i : Nat) : Prop := ∀ e, l[i]? = some e → 0 ≤ e.at_ ∧ (∀ p, 0 < i → l[i - 1]? = some p → p.at_ ≤ e.at_ ∧ p.kind ≠ 6) ∧ (e.kind ≠ 6 → ∀ was, lastP (l.take i) e.pid = some was → followsB was e = true)
/-- The last place ahead of i at which a process stands. -/
def lastK (l : List Ev) (i : Nat) (e : Ev) : Int := if e.kind = 6 then -1 else (List.range i).foldl (fun (s : Int) (k : Nat) => if (l[k]?.map Ev.pid) = some e.pid then (k : Int) else s) (-1)
/-- One step of the reference's reading. -/
def stepR (l : List Ev) (i : Nat) : Prop := ∀ e, l[i]? = some e → 0 ≤ e.at_ ∧ (∀ p, 0 < i → l[i - 1]? = some p → p.at_ ≤ e.at_) ∧ (∀ k, k < i → ∀ q, l[k]? = some q → q.kind ≠ 6) ∧
  ∀ was, 0 ≤ lastK l i e → l[(lastK l i e).toNat]? = some was → ¬ (was.kind = 5 ∨ was.kind = 4 ∨ ((was.kind = 2 ∧ was.a = 4) ∧ (e.kind ≠ 3 ∨ e.a ≠ was.b)))

theorem foldK {l : List Ev} {pid : Int} : ∀ i, i ≤ l.length → (∀ k, k < i → ∀ q, l[k]? = some q → q.kind ≠ 6) →
    ((((List.range i).foldl (fun (s : Int) (k : Nat) => if (l[k]?.map Ev.pid) = some pid then (k : Int) else s) (-1) = -1) ∧ lastP (l.take i) pid = none) ∨
    ∃ k, k < i ∧ (List.range i).foldl (fun (s : Int) (k : Nat) => if (l[k]?.map Ev.pid) = some pid then (k : Int) else s) (-1) = (k : Int) ∧ lastP (l.take i) pid = l[k]? ∧ l[k]?.isSome = true)
  | 0, _, _ => .inl ⟨rfl, rfl⟩
  | i + 1, h, hs => by
    have hi : i < l.length := by omega
    have hk := hs i (by omega) l[i] (List.getElem?_eq_getElem hi)
    rw [List.range_succ, List.foldl_append, List.take_add_one, List.getElem?_eq_getElem hi]
    simp only [List.foldl_cons, List.foldl_nil, Option.toList, lastP_snoc]
    by_cases hp : l[i].pid = pid
    · refine .inr ⟨i, by omega, ?_⟩
      rw [List.getElem?_eq_getElem hi]
      simp [hp, hk]
    · have hi' : ¬ (Option.map Ev.pid l[i]? = some pid) := by rw [List.getElem?_eq_getElem hi]; simpa using hp
      rw [if_neg hi', if_neg (by simp [hp])]
      rcases foldK (pid := pid) i (by omega) (fun k hk' => hs k (by omega)) with ⟨a, b⟩ | ⟨k, a, b, c, d⟩
      · exact .inl ⟨a, b⟩
      · exact .inr ⟨k, by omega, b, c, d⟩

theorem step_alike {l : List Ev} {i : Nat} (hi : i < l.length) (hp : ∀ j, j < i → stepP l j) : stepP l i ↔ stepR l i := by
  have gi : l[i]? = some l[i] := List.getElem?_eq_getElem hi
  -- no stop ahead of the event before
  have early : ∀ k, k + 1 < i → ∀ q, l[k]? = some q → q.kind ≠ 6 := fun k hk q hq => by
    have h1 : k + 1 < l.length := by omega
    exact ((hp (k + 1) (by omega) l[k + 1] (List.getElem?_eq_getElem h1)).2.1 q (by omega) (by simpa using hq)).2
  generalize l[i] = e at gi
  have core : (∀ k, k < i → ∀ q, l[k]? = some q → q.kind ≠ 6) → ((e.kind ≠ 6 → ∀ was, lastP (l.take i) e.pid = some was → followsB was e = true) ↔
      ∀ was, 0 ≤ lastK l i e → l[(lastK l i e).toNat]? = some was → ¬ (was.kind = 5 ∨ was.kind = 4 ∨ ((was.kind = 2 ∧ was.a = 4) ∧ (e.kind ≠ 3 ∨ e.a ≠ was.b)))) := by
    intro hs
    by_cases h6 : e.kind = 6
    · simp [lastK, h6]
    · have fb : ∀ was : Ev, followsB was e = true ↔ ¬ (was.kind = 5 ∨ was.kind = 4 ∨ ((was.kind = 2 ∧ was.a = 4) ∧ (e.kind ≠ 3 ∨ e.a ≠ was.b))) := by
        intro was
        unfold followsB
        by_cases h5 : was.kind = 5
        · simp [h5]
        · by_cases h4 : was.kind = 4
          · simp [h4]
          · by_cases h2 : was.kind = 2
            · by_cases ha : was.a = 4 <;> by_cases h3 : e.kind = 3 <;> by_cases hb : e.a = was.b <;> simp [h2, ha, h3, hb]
            · simp [h5, h4, h2]
      simp only [lastK, if_neg h6]
      rcases foldK (pid := e.pid) i (by omega) hs with ⟨a, b⟩ | ⟨k, a, b, c, d⟩
      · rw [a, b]
        simp
      · rw [b, c]
        obtain ⟨w, hw⟩ := Option.isSome_iff_exists.1 d
        have ht : ((k : Int)).toNat = k := by omega
        rw [ht, hw]
        simp only [Option.some.injEq, forall_eq', fb, ne_eq, h6, not_false_eq_true, forall_const]
        constructor
        · rintro h was _ rfl; exact h
        · intro h; exact h w (by omega) rfl
  constructor
  · intro h e' he'
    rw [gi] at he'
    obtain rfl : e = e' := by simpa using he'
    obtain ⟨h1, h2, h3⟩ := h e gi
    have hs : ∀ k, k < i → ∀ q, l[k]? = some q → q.kind ≠ 6 := fun k hk q hq => by
      rcases Nat.lt_or_ge (k + 1) i with h4 | h4
      · exact early k h4 q hq
      · obtain rfl : k = i - 1 := by omega
        exact (h2 q (by omega) hq).2
    exact ⟨h1, fun p hp' hq => (h2 p hp' hq).1, hs, (core hs).1 h3⟩
  · intro h e' he'
    rw [gi] at he'
    obtain rfl : e = e' := by simpa using he'
    obtain ⟨h1, h2, hs, h4⟩ := h e gi
    exact ⟨h1, fun p hp' hq => ⟨h2 p hp' hq, hs (i - 1) (by omega) p hq⟩, (core hs).2 h4⟩

/-- All steps, of both. -/
theorem trace_alike (l : List Ev) : (∀ i, i < l.length → stepP l i) ↔ ∀ i, i < l.length → stepR l i := by
  constructor
  · intro h i hi
    exact (step_alike hi fun j hj => h j (by omega)).1 (h i hi)
  · intro h i
    induction i using Nat.strongRecOn with
    | _ i ih =>
      intro hi
      exact (step_alike hi fun j hj => ih j hj (by omega)).2 (h i hi)
end Go.Proofs.YtlggkknkbbhooaaGreat.Cm
