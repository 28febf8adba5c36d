/-
  Steps of chapter 34, part 5: the most that one did in one spell: two ways to count, one number; maps of numbers.
-/
import Derived.Test.YthcmiceheohpjaaCmPW
namespace Go.Proofs.Ythcmiceheohpjaa.Cm
open Go.RowKit Go.IntWalk

/-- How many steps a process did, from here, while it held something. -/
def rnL (x : Int) : List Stp → Int
  | [] => 0
  | s :: r => if x ∈ s.holds then (if s.pid = x then 1 else 0) + rnL x r else 0
theorem rnL_nonneg (x : Int) : ∀ l : List Stp, 0 ≤ rnL x l
  | [] => Int.le_refl 0
  | s :: r => by
    have := rnL_nonneg x r
    simp only [rnL]
    split
    · split <;> omega
    · omega
theorem rnL_len (x : Int) : ∀ l : List Stp, rnL x l ≤ l.length
  | [] => Int.le_refl 0
  | s :: r => by
    have := rnL_len x r
    simp only [rnL, List.length_cons]
    split
    · split <;> omega
    · omega
/-- How many till there, in the spell that lasts. -/
def sp (S : List Stp) : Nat → Int → Int
  | 0, _ => 0
  | t + 1, x => match S[t]? with
    | some s => if x ∈ s.holds then sp S t x + (if s.pid = x then 1 else 0) else 0
    | none => 0
theorem sp_succ {S : List Stp} {t : Nat} (ht : t < S.length) (x : Int) : sp S (t + 1) x = if x ∈ S[t].holds then sp S t x + (if S[t].pid = x then 1 else 0) else 0 := by
  rw [sp, List.getElem?_eq_getElem ht]
theorem sp_bound {S : List Stp} (x : Int) : ∀ t, 0 ≤ sp S t x ∧ sp S t x ≤ t
  | 0 => ⟨Int.le_refl 0, Int.le_refl 0⟩
  | t + 1 => by
    have := sp_bound (S := S) x t
    rw [sp]
    split
    · split
      · split <;> omega
      · omega
    · omega
theorem rnL_drop {S : List Stp} {t : Nat} (ht : t < S.length) (x : Int) : rnL x (S.drop t) = if x ∈ S[t].holds then (if S[t].pid = x then 1 else 0) + rnL x (S.drop (t + 1)) else 0 := by
  rw [List.drop_eq_getElem_cons ht, rnL]

/-- It is the most. -/
def WorkP (S : List Stp) (w : Int) : Prop := 0 ≤ w ∧ (∀ t (ht : t < S.length), ∀ x ∈ S[t].holds, sp S (t + 1) x ≤ w) ∧ (w = 0 ∨ ∃ t, ∃ ht : t < S.length, ∃ x ∈ S[t].holds, w = sp S (t + 1) x)
def WorkR (S : List Stp) (w : Int) : Prop := 0 ≤ w ∧ (∀ t (ht : t < S.length), ∀ x ∈ S[t].holds, rnL x (S.drop t) ≤ w) ∧ (w = 0 ∨ ∃ t, ∃ ht : t < S.length, ∃ x ∈ S[t].holds, w = rnL x (S.drop t))

theorem sp_to_rn {S : List Stp} {x : Int} : ∀ t (ht : t < S.length), x ∈ S[t].holds → ∃ i, ∃ hi : i < S.length, x ∈ S[i].holds ∧ sp S (t + 1) x + rnL x (S.drop (t + 1)) = rnL x (S.drop i) := by
  intro t
  induction t with
  | zero =>
    intro ht hx
    exact ⟨0, ht, hx, by rw [sp_succ ht, rnL_drop ht, if_pos hx, if_pos hx, sp]; omega⟩
  | succ t ih =>
    intro ht hx
    have ht' : t < S.length := by omega
    by_cases hp : x ∈ S[t].holds
    · obtain ⟨i, hi, hxi, e⟩ := ih ht' hp
      refine ⟨i, hi, hxi, ?_⟩
      rw [rnL_drop ht, if_pos hx] at e
      rw [sp_succ ht, if_pos hx]; omega
    · refine ⟨t + 1, ht, hx, ?_⟩
      rw [sp_succ ht, if_pos hx, rnL_drop ht, if_pos hx, sp_succ ht', if_neg hp]; omega

theorem rn_to_sp {S : List Stp} {x : Int} : ∀ d t (ht : t < S.length), S.length - t = d → x ∈ S[t].holds → ∃ t', ∃ ht' : t' < S.length, x ∈ S[t'].holds ∧ sp S (t + 1) x + rnL x (S.drop (t + 1)) ≤ sp S (t' + 1) x := by
  intro d
  induction d with
  | zero => intro t ht e; omega
  | succ d ih =>
    intro t ht e hx
    by_cases h1 : t + 1 < S.length
    · by_cases hp : x ∈ S[t + 1].holds
      · obtain ⟨t', ht', hx', h2⟩ := ih (t + 1) h1 (by omega) hp
        refine ⟨t', ht', hx', ?_⟩
        rw [sp_succ h1, if_pos hp] at h2
        rw [rnL_drop h1, if_pos hp]; omega
      · refine ⟨t, ht, hx, ?_⟩
        rw [rnL_drop h1, if_neg hp]; omega
    · refine ⟨t, ht, hx, ?_⟩
      rw [List.drop_eq_nil_of_le (by omega), rnL]; omega

theorem work_same {S : List Stp} {a b : Int} (ha : WorkP S a) (hb : WorkR S b) : a = b := by
  obtain ⟨a0, a1, a2⟩ := ha
  obtain ⟨b0, b1, b2⟩ := hb
  have h1 : a ≤ b := by
    rcases a2 with rfl | ⟨t, ht, x, hx, e⟩
    · exact b0
    · obtain ⟨i, hi, hxi, e2⟩ := sp_to_rn t ht hx
      have := b1 i hi x hxi
      have := rnL_nonneg x (S.drop (t + 1))
      omega
  have h2 : b ≤ a := by
    rcases b2 with rfl | ⟨t, ht, x, hx, e⟩
    · exact a0
    · obtain ⟨t', ht', hx', e2⟩ := rn_to_sp _ t ht rfl hx
      have := a1 t' ht' x hx'
      have h0 := (sp_bound (S := S) x t).1
      rw [sp_succ ht, if_pos hx] at e2
      rw [rnL_drop ht, if_pos hx] at e
      omega
  omega

/-! ### Maps from numbers to numbers -/
def look (x : Int) : List (CVal × CVal) → Int
  | [] => 0
  | (.int _ a, .int _ b) :: es => if x = a then b else look x es
  | _ :: es => look x es
/-- Whole numbers, by whole numbers. -/
def IntMap (es : List (CVal × CVal)) : Prop := ∀ e ∈ es, ∃ a b, e = (.int .i64 a, .int .i64 b)

theorem findK_int {x : Int} : ∀ {es : List (CVal × CVal)} (i : Nat), IntMap es →
    (findK (.one .int) (.int .i64 x) es i = some none ∧ look x es = 0 ∧ ∀ z, IntMap (es ++ [(.int .i64 x, .int .i64 z)]) ∧ ∀ y, look y (es ++ [(.int .i64 x, .int .i64 z)]) = if y = x then z else look y es) ∨
    ∃ j, findK (.one .int) (.int .i64 x) es i = some (some (i + j, .int .i64 (look x es))) ∧ ∀ z, IntMap (es.set j (.int .i64 x, .int .i64 z)) ∧ ∀ y, look y (es.set j (.int .i64 x, .int .i64 z)) = if y = x then z else look y es
  | [], i, _ => .inl ⟨rfl, rfl, fun z => ⟨fun e m => by simp at m; exact ⟨x, z, m⟩, fun y => rfl⟩⟩
  | e :: es, i, h => by
    obtain ⟨a, b, rfl⟩ := h e (List.mem_cons_self ..)
    have hes : IntMap es := fun e m => h e (List.mem_cons_of_mem _ m)
    by_cases hx : x = a
    · subst hx
      refine .inr ⟨0, ?_, fun z => ⟨fun e m => ?_, fun y => ?_⟩⟩
      · simp [findK, keyeq, peq, look]
      · simp at m
        rcases m with rfl | m
        · exact ⟨x, z, rfl⟩
        · exact hes e m
      · simp only [List.set_cons_zero, look]
        split <;> simp_all
    · have hk : keyeq (.one .int) (.int .i64 x) (.int .i64 a) = some false := by simp [keyeq, peq, hx]
      rcases findK_int (x := x) (i + 1) hes with ⟨f, l, u⟩ | ⟨j, f, u⟩
      · refine .inl ⟨by simp only [findK, hk, f], by simp only [look, if_neg hx, l], fun z => ⟨fun e m => ?_, fun y => ?_⟩⟩
        · rcases List.mem_cons.1 m with rfl | m
          · exact ⟨a, b, rfl⟩
          · exact (u z).1 e m
        · simp only [List.cons_append, look, (u z).2 y]
          by_cases hy : y = x
          · subst hy; simp [hx]
          · simp [hy]
      · refine .inr ⟨j + 1, by simp only [findK, hk, f, look, if_neg hx]; congr 3; omega, fun z => ⟨fun e m => ?_, fun y => ?_⟩⟩
        · rcases List.mem_cons.1 m with rfl | m
          · exact ⟨a, b, rfl⟩
          · exact (u z).1 e m
        · simp only [List.set_cons_succ, look, (u z).2 y]
          by_cases hy : y = x
          · subst hy; simp [hx]
          · simp [hy]

theorem LKN.int {x : Int} {es : List (CVal × CVal)} {K : CVal → Prop} (h : IntMap es) (k : K (.int .i64 (look x es))) : LKN (.one .int) (.int .i64 0) false (.int .i64 x) es K := by
  rcases findK_int (x := x) 0 h with ⟨f, l, _⟩ | ⟨j, f, _⟩
  · rw [l] at k; exact .mk f k
  · exact .mk f k
theorem UPN.int {x z : Int} {i : Nat} {es : List (CVal × CVal)} {hh : Heap} {K : Heap → Prop} (h : IntMap es) (k : ∀ es', IntMap es' → (∀ y, look y es' = if y = x then z else look y es) → K (hh.set i (.map es' true))) : UPN (.one .int) i (.int .i64 x) (.int .i64 z) es hh K := by
  rcases findK_int (x := x) 0 h with ⟨f, _, u⟩ | ⟨j, f, u⟩
  · exact .mk f (k _ (u z).1 (u z).2)
  · exact .mk f (by simp only [Nat.zero_add]; exact k _ (u z).1 (u z).2)
theorem mapC_get {h : Heap} {p : Nat} {es : List (CVal × CVal)} {wr : Bool} (g : h.get p = some (.map es wr)) : mapC h (.map p) = some es := by simp only [mapC, g]
end Go.Proofs.Ythcmiceheohpjaa.Cm
