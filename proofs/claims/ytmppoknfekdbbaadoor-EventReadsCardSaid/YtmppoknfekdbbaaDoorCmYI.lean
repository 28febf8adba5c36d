/-
  The clean machine, part YI: rows of flat records of five numbers; equality of such; cuts of slices.
-/
import Derived.Test.YtmppoknfekdbbaaDoorCmYC
import Derived.Test.YtmppoknfekdbbaaDoorCmYB
namespace Go.Proofs.YtmppoknfekdbbaaDoor.Cm
open Go.RowKit

/-- Five numbers. -/
structure Ev where
  at_ : Int
  kind : Int
  pid : Int
  a : Int
  b : Int
deriving DecidableEq, Inhabited

def Ev.cs (e : Ev) : List CVal := [.int .i64 e.at_, .int .i64 e.kind, .int .i64 e.pid, .int .i64 e.a, .int .i64 e.b]
theorem Ev.cs_length (e : Ev) : e.cs.length = 5 := rfl
theorem Ev.cs_inj {e f : Ev} (h : e.cs = f.cs) : e = f := by
  cases e; cases f
  simp [Ev.cs] at h
  simp [h]

/-- A row of them that can be read. -/
def REv (h : Heap) (v : CVal) (E : List Ev) : Prop :=
  (v = .nilSlice ∧ E = []) ∨ ∃ i o c, v = .slice i o E.length c ∧ E.length ≤ c ∧ i < h.next ∧ (E = [] ∨ ∃ cs wr opn, h.get i = some (.cells cs wr opn) ∧ ∀ j (hj : j < E.length), (cs.drop (o + j * 5)).take 5 = E[j].cs)
theorem REv.exd {h h' : Heap} {v : CVal} {E : List Ev} (s : REv h v E) (e : Exd h h') : REv h' v E := by
  rcases s with s | ⟨i, o, c, s1, s2, s3, s4⟩
  · exact .inl s
  · exact .inr ⟨i, o, c, s1, s2, Nat.lt_of_lt_of_le s3 e.le, s4.imp id fun ⟨cs, wr, opn, g, a⟩ => ⟨cs, wr, opn, (e.get i s3).trans g, a⟩⟩

/-- Alike, so far. -/
def Alike (A B : List Ev) (n : Nat) : Prop := ∀ j, j < n → A[j]? = B[j]?
theorem Alike.zero {A B : List Ev} : Alike A B 0 := fun j h => by omega
theorem Alike.succ {A B : List Ev} {n : Nat} (h : Alike A B n) (e : A[n]? = B[n]?) : Alike A B (n + 1) := fun j hj => by
  rcases Nat.lt_or_ge j n with h1 | h1
  · exact h j h1
  · obtain rfl : j = n := by omega
    exact e

theorem OPN.eqS5 {N : Nat} {ρ : Env} {h : Heap} {neg : Bool} {X Y : CX} {a b : Ev} {K : CVal → Heap → Prop} (hx : X.on N ρ = .agg a.cs) (hy : Y.on N ρ = .agg b.cs) (k : a = b → K (.bool (!neg)) h) (k' : a ≠ b → K (.bool neg) h) : OPN N (.eqS [.int, .int, .int, .int, .int] neg X Y) ρ h K := by
  have e : peqs [.int, .int, .int, .int, .int] a.cs b.cs = some (decide (a = b)) := by
    cases a with | mk a1 a2 a3 a4 a5 =>
    cases b with | mk b1 b2 b3 b4 b5 =>
    simp only [Ev.cs, peqs, peq, if_true]
    by_cases h1 : a1 = b1 <;> by_cases h2 : a2 = b2 <;> by_cases h3 : a3 = b3 <;> by_cases h4 : a4 = b4 <;> by_cases h5 : a5 = b5 <;> simp [h1, h2, h3, h4, h5]
  refine .mk (v := .bool (if neg then !decide (a = b) else decide (a = b))) (h' := h) (by simp only [cop, CX.on_ev, hx, hy, e]) ?_
  by_cases hab : a = b
  · have := k hab; subst hab; cases neg <;> simpa using this
  · have := k' hab; cases neg <;> simpa [hab] using this

theorem bounds0 {len cap q : Nat} {b : Int} {k : IntKind} (hb : b = q) (h' : q ≤ cap) : boundsC len cap none (some (.int k b)) none = some (0, q, cap) := by
  subst hb
  have hq : asNat (.int k (q : Int)) = some q := by rw [asNat, if_pos (Int.natCast_nonneg q), Int.toNat_natCast]
  delta boundsC
  simp only [hq]
  rw [if_pos (Nat.le_refl cap), if_pos h', if_pos (Nat.zero_le q)]
theorem bounds1 {len cap p : Nat} {a : Int} {k : IntKind} (ha : a = p) (h : p ≤ len) (h' : len ≤ cap) : boundsC len cap (some (.int k a)) none none = some (p, len, cap) := by
  subst ha
  have hp : asNat (.int k (p : Int)) = some p := by rw [asNat, if_pos (Int.natCast_nonneg p), Int.toNat_natCast]
  delta boundsC
  simp only [hp]
  rw [if_pos (Nat.le_refl cap), if_pos h', if_pos h]

/-- Its beginning. -/
theorem REv.take {h : Heap} {i o c : Nat} {E : List Ev} (s : REv h (.slice i o E.length c) E) {q : Nat} (hq : q ≤ E.length) : REv h (.slice i (o + 0 * 5) (q - 0) (c - 0)) (E.take q) := by
  have hl : (E.take q).length = q := by rw [List.length_take]; omega
  rcases s with ⟨s, _⟩ | ⟨i', o', c', s1, s2, s3, s4⟩
  · simp at s
  · simp only [CVal.slice.injEq] at s1
    obtain ⟨rfl, rfl, _, rfl⟩ := s1
    refine .inr ⟨i, o, c, by rw [hl]; simp, by omega, s3, ?_⟩
    rcases s4 with rfl | ⟨cs, wr, opn, g, a⟩
    · left; simp
    · right
      refine ⟨cs, wr, opn, g, fun j hj => ?_⟩
      rw [hl] at hj
      rw [a j (by omega), List.getElem_take]

theorem alike_eq {A B : List Ev} : (A.length = B.length ∧ Alike A B A.length) ↔ A = B := by
  refine ⟨fun ⟨h1, h2⟩ => List.ext_getElem? fun j => ?_, fun h => by subst h; exact ⟨rfl, fun _ _ => rfl⟩⟩
  rcases Nat.lt_or_ge j A.length with h3 | h3
  · exact h2 j h3
  · rw [List.getElem?_eq_none h3, List.getElem?_eq_none (by omega)]
theorem alike_pre {A B : List Ev} : (A.length ≤ B.length ∧ Alike A B A.length) ↔ A <+: B := by
  refine ⟨fun ⟨h1, h2⟩ => ?_, fun ⟨C, h⟩ => by subst h; exact ⟨by simp, fun j hj => by rw [List.getElem?_append_left hj]⟩⟩
  rw [List.prefix_iff_eq_take]
  refine List.ext_getElem? fun j => ?_
  rw [List.getElem?_take]
  split
  · next h => exact h2 j h
  · next h => exact List.getElem?_eq_none (by omega)

/-- The cells of a record, one by one. -/
theorem five {cs : List CVal} {p : Nat} {e : Ev} (h : (cs.drop p).take 5 = e.cs) : cs[p]? = some (.int .i64 e.at_) ∧ cs[p + 1]? = some (.int .i64 e.kind) ∧ cs[p + 2]? = some (.int .i64 e.pid) ∧ cs[p + 3]? = some (.int .i64 e.a) ∧ cs[p + 4]? = some (.int .i64 e.b) := by
  have at_ : ∀ q, q < 5 → cs[p + q]? = e.cs[q]? := fun q hq => by rw [← h, List.getElem?_take, if_pos hq, List.getElem?_drop]
  exact ⟨at_ 0 (by omega), at_ 1 (by omega), at_ 2 (by omega), at_ 3 (by omega), at_ 4 (by omega)⟩

/-- The cells of a row. -/
def cellsE (E : List Ev) : List CVal := E.flatMap Ev.cs
theorem cellsE_length (E : List Ev) : (cellsE E).length = E.length * 5 := by
  induction E with
  | nil => rfl
  | cons e E ih => rw [cellsE, List.flatMap_cons, List.length_append, ← cellsE, ih, Ev.cs_length, List.length_cons]; omega
theorem cellsE_one (E : List Ev) : (cellsE E).all CVal.one = true := by
  induction E with
  | nil => rfl
  | cons e E ih => rw [cellsE, List.flatMap_cons, List.all_append, ← cellsE, ih]; rfl
theorem cellsE_get {E : List Ev} {j : Nat} (hj : j < E.length) : ((cellsE E).drop (j * 5)).take 5 = E[j].cs := by
  induction E generalizing j with
  | nil => simp at hj
  | cons e E ih =>
    rw [cellsE, List.flatMap_cons, ← cellsE]
    cases j with
    | zero => rw [Nat.zero_mul, List.drop_zero, List.take_append_of_le_length (by rw [Ev.cs_length]; omega), List.take_of_length_le (by rw [Ev.cs_length]; omega)]; rfl
    | succ j =>
      rw [show (j + 1) * 5 = e.cs.length + j * 5 by rw [Ev.cs_length]; omega, ← List.drop_drop, List.drop_left]
      simpa using ih (by simpa using hj)
theorem cellsE_of {cs : List CVal} : ∀ {E : List Ev} {o : Nat}, (∀ j (hj : j < E.length), (cs.drop (o + j * 5)).take 5 = E[j].cs) → (cs.drop o).take (E.length * 5) = cellsE E
  | [], _, _ => by simp [cellsE]
  | e :: E, o, h => by
    have h0 := h 0 (by simp)
    have ih := cellsE_of (cs := cs) (E := E) (o := o + 5) fun j hj => by
      have := h (j + 1) (by simpa using hj)
      rw [show o + (j + 1) * 5 = o + 5 + j * 5 by omega] at this
      simpa using this
    rw [cellsE, List.flatMap_cons, ← cellsE, ← ih, List.length_cons, show (E.length + 1) * 5 = 5 + E.length * 5 by omega, List.take_add, List.drop_drop]
    congr 1
    all_goals simpa using h0
theorem REv.src {h : Heap} {v : CVal} {E : List Ev} (s : REv h v E) : srcC h 5 v = some (E.length, cellsE E) := by
  rcases s with ⟨rfl, rfl⟩ | ⟨i, o, c, rfl, _, _, s⟩
  · rfl
  · rcases s with rfl | ⟨cs, wr, opn, g, a⟩
    · rfl
    · by_cases h0 : E.length = 0
      · obtain rfl : E = [] := by simpa using h0
        rfl
      · simp only [srcC, if_neg h0, g, cellsE_of a, cellsE_length, if_true]

/-- A slice that grows, of new memory. -/
def Own (h₀ h : Heap) (v : CVal) (sz m : Nat) (cs : List CVal) : Prop := IsSl h v sz m cs ∧ ∀ j o l c, v = .slice j o l c → h₀.next ≤ j ∧ j < h.next
theorem Own.nil {h₀ h : Heap} {sz : Nat} : Own h₀ h .nilSlice sz 0 [] := ⟨.nil, fun _ _ _ _ e => by simp at e⟩
theorem Own.new {h₀ h : Heap} {sz i : Nat} {wr : Bool} (g : h.get i = some (.cells [] wr none)) (h1 : h₀.next ≤ i) (h2 : i < h.next) : Own h₀ h (.slice i 0 0 0) sz 0 [] :=
  ⟨.inr ⟨i, wr, none, rfl, by simp, g, .inl rfl⟩, fun j o l c e => by simp only [CVal.slice.injEq] at e; obtain ⟨rfl, _⟩ := e; exact ⟨h1, h2⟩⟩
theorem Own.cases {h₀ h : Heap} {v : CVal} {sz m : Nat} {cs : List CVal} (O : Own h₀ h v sz m cs) : (v = .nilSlice ∧ m = 0 ∧ cs = []) ∨ ∃ i, v = .slice i 0 m m ∧ h₀.next ≤ i ∧ i < h.next := by
  rcases O.1 with e | ⟨i, wr, opn, rfl, _⟩
  · exact .inl e
  · exact .inr ⟨i, rfl, O.2 _ _ _ _ rfl⟩
theorem Own.exd {h₀ h h1 : Heap} {v : CVal} {sz m : Nat} {cs : List CVal} (O : Own h₀ h v sz m cs) (x : Exd h h1) : Own h₀ h1 v sz m cs :=
  ⟨O.1.exd x fun j o l c e => (O.2 j o l c e).2, fun j o l c e => ⟨(O.2 j o l c e).1, Nat.lt_of_lt_of_le (O.2 j o l c e).2 x.le⟩⟩
theorem Own.push {h₀ h h1 : Heap} {v src : CVal} {sz bytes m n : Nat} {cs new : List CVal} (O : Own h₀ h v sz m cs) (e : Exd h₀ h) (x : Exd h h1) (hx : srcC h1 sz src = some (n, new)) (hn : 0 < n) (ho : new.all CVal.one = true) (hb : (m + n) * bytes ≤ 1099511627776) :
    ∃ h2, appendC h1 sz bytes v src = some (.slice h1.next 0 (m + n) (m + n), h2) ∧ Exd h₀ h2 ∧ Own h₀ h2 (.slice h1.next 0 (m + n) (m + n)) sz (m + n) (cs ++ new) ∧ h2.next = h1.next + 1 ∧ (new.length = n * sz → ∃ wr opn, h2.get h1.next = some (.cells (cs ++ new) wr opn)) ∧ ∀ j, j < h1.next → vne j v → h2.get j = h1.get j := by
  obtain ⟨h2, ea, en, eg, ef⟩ := appendC_sl (bytes := bytes) (O.exd x).1 hx hn ho hb
  have le1 := e.le
  have le2 := x.le
  have len : ∀ {a : Nat}, a < h₀.next → vne a v := fun {a} ha o l c ev => by
    have := (O.2 _ _ _ _ ev).1; omega
  refine ⟨h2, ea, ⟨by omega, fun p hp => ?_⟩, ⟨.inr ⟨h1.next, true, some sz, rfl, ?_, eg, .inr ⟨rfl, rfl⟩⟩, fun j o l c e => ?_⟩, en, fun _ => ⟨_, _, eg⟩, ef⟩
  · rw [ef p (by omega) (len hp), x.get p (by omega)]; exact e.get p hp
  · have hl : new.length = n * sz := by
      unfold srcC at hx
      split at hx
      · simp only [Option.some.injEq, Prod.mk.injEq] at hx; obtain ⟨rfl, rfl⟩ := hx; simp
      · split at hx
        · next hs => simp only [Option.some.injEq, Prod.mk.injEq] at hx; obtain ⟨rfl, rfl⟩ := hx; simp [hs]
        · simp at hx
      · split at hx
        · simp only [Option.some.injEq, Prod.mk.injEq] at hx; obtain ⟨rfl, rfl⟩ := hx; simp
        · split at hx
          · split at hx
            · next hl => simp only [Option.some.injEq, Prod.mk.injEq] at hx; obtain ⟨rfl, rfl⟩ := hx; exact hl
            · simp at hx
          · simp at hx
      · simp at hx
    rw [List.length_append, O.1.len, hl, Nat.add_mul]
  · simp only [CVal.slice.injEq] at e; obtain ⟨rfl, _⟩ := e; exact ⟨by omega, by omega⟩
/-- Nothing put behind. -/
theorem appendC_none {h : Heap} {v src : CVal} {sz bytes : Nat} (hx : srcC h sz src = some (0, [])) (hv : v = .nilSlice ∨ ∃ i o l c, v = .slice i o l c) : appendC h sz bytes v src = some (v, h) := by
  unfold appendC
  simp only [hx, List.all_nil, if_true]
  rcases hv with rfl | ⟨i, o, l, c, rfl⟩ <;> rfl
theorem Own.get {h₀ h : Heap} {i sz m : Nat} {cs : List CVal} (O : Own h₀ h (.slice i 0 m m) sz m cs) : ∃ wr opn, h.get i = some (.cells cs wr opn) := by
  rcases O.1 with ⟨e, _⟩ | ⟨b, wr, opn, e, _, g, _⟩
  · simp at e
  · simp only [CVal.slice.injEq] at e
    obtain ⟨rfl, _⟩ := e
    exact ⟨wr, opn, g⟩

/-- A row of numbers that can be read. -/
def RIn (h : Heap) (v : CVal) (R : List Int) : Prop :=
  (v = .nilSlice ∧ R = []) ∨ ∃ i o c, v = .slice i o R.length c ∧ i < h.next ∧ (R = [] ∨ ∃ cs wr opn, h.get i = some (.cells cs wr opn) ∧ ∀ j (hj : j < R.length), cs[o + j]? = some (.int .i64 R[j]))
theorem RIn.exd {h h' : Heap} {v : CVal} {R : List Int} (s : RIn h v R) (e : Exd h h') : RIn h' v R := by
  rcases s with s | ⟨i, o, c, s1, s2, s3⟩
  · exact .inl s
  · exact .inr ⟨i, o, c, s1, Nat.lt_of_lt_of_le s2 e.le, s3.imp id fun ⟨cs, wr, opn, g, a⟩ => ⟨cs, wr, opn, (e.get i s2).trans g, a⟩⟩
theorem Own.ints {h₀ h : Heap} {v : CVal} {R : List Int} (O : Own h₀ h v 1 R.length (R.map (CVal.int .i64))) : RIn h v R := by
  rcases O.cases with ⟨rfl, h1, _⟩ | ⟨i, rfl, h1, h2⟩
  · exact .inl ⟨rfl, by simpa using h1⟩
  · obtain ⟨wr, opn, g⟩ := O.get
    exact .inr ⟨i, 0, R.length, rfl, h2, .inr ⟨_, wr, opn, g, fun j hj => by simp [hj]⟩⟩
theorem Own.evs {h₀ h : Heap} {v : CVal} {E : List Ev} (O : Own h₀ h v 5 E.length (cellsE E)) : REv h v E := by
  rcases O.cases with ⟨rfl, h1, _⟩ | ⟨i, rfl, h1, h2⟩
  · exact .inl ⟨rfl, by simpa using h1⟩
  · obtain ⟨wr, opn, g⟩ := O.get
    exact .inr ⟨i, 0, E.length, rfl, Nat.le_refl _, h2, .inr ⟨_, wr, opn, g, fun j hj => by rw [Nat.zero_add]; exact cellsE_get hj⟩⟩
end Go.Proofs.YtmppoknfekdbbaaDoor.Cm
