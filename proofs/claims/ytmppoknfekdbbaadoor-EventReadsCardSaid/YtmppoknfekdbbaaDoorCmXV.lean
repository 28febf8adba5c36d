/-
  The clean machine, part V: rules for runs with unknown values: a frame's slots by a function.
-/
import Derived.Test.YtmppoknfekdbbaaDoorCmXU
namespace Go.Proofs.YtmppoknfekdbbaaDoor.Cm
open Go.RowKit

abbrev Env := Nat → CVal

def Env.put (ρ : Env) (t : Nat) (v : CVal) : Env := fun s => if s = t then v else ρ s
theorem Env.put_at (ρ : Env) (t : Nat) (v : CVal) (s : Nat) : ρ.put t v s = if s = t then v else ρ s := rfl

/-- The slots. -/
def envL (N : Nat) (ρ : Env) : List CVal := (List.range N).map ρ

theorem envL_len (N : Nat) (ρ : Env) : (envL N ρ).length = N := by simp [envL]
theorem envL_getD (N : Nat) (ρ : Env) (t : Nat) (h : t < N) : (envL N ρ).getD t .undef = ρ t := by simp [envL, h]
theorem envL_set (N : Nat) (ρ : Env) (t : Nat) (v : CVal) (_ : t < N) : (envL N ρ).set t v = envL N (ρ.put t v) := by
  refine List.ext_getElem (by simp [envL]) fun j h1 h2 => ?_
  simp only [envL, List.getElem_set, List.getElem_map, List.getElem_range]
  by_cases h3 : t = j
  · subst h3; rw [if_pos rfl, Env.put_at, if_pos rfl]
  · rw [if_neg h3, Env.put_at, if_neg (Ne.symm h3)]

theorem CX.ev_t (N : Nat) (ρ : Env) (t : Nat) (h : t < N) : (CX.t t).ev (envL N ρ) = ρ t := envL_getD N ρ t h
theorem CX.ev_c (a : List CVal) (v : CVal) : (CX.c v).ev a = v := rfl

theorem Fr.done_env (N : Nat) (ρ : Env) (ds ds' : List (FuncId × List CVal)) (t : Nat) (v : CVal) (h : t < N) : Fr.done ⟨envL N ρ, ds⟩ (some t) v ds' = ⟨envL N (ρ.put t v), ds' ++ ds⟩ := by
  simp only [Fr.done, Fr.put, envL_set N ρ t v h]
theorem Fr.done_none (a : Fr) (v : CVal) (ds' : List (FuncId × List CVal)) : Fr.done a none v ds' = ⟨a.tmps, ds' ++ a.defers⟩ := rfl

section
variable {T : Tab} {a : Fr} {h : Heap} {Q : CExit → Fr → Heap → Prop}

theorem WP.skip (k : Q .normal a h) : WP T .skip a h Q := ⟨1, _, _, _, rfl, k⟩
theorem WP.exit {id : Nat} (k : Q (.exit id) a h) : WP T (.exit id) a h Q := ⟨1, _, _, _, rfl, k⟩
theorem WP.goto {l : Nat} (k : Q (.goto l) a h) : WP T (.goto l) a h Q := ⟨1, _, _, _, rfl, k⟩
theorem WP.ret (k : Q .ret a h) : WP T .ret a h Q := ⟨1, _, _, _, rfl, k⟩

/-- What goes on only after a normal end. -/
def thenQ (K : Fr → Heap → Prop) (Q : CExit → Fr → Heap → Prop) : CExit → Fr → Heap → Prop
  | .normal, a, h => K a h
  | x, a, h => Q x a h

theorem WP.seq {x y : CCode} (k : WP T x a h (thenQ (fun a' h' => WP T y a' h' Q) Q)) : WP T (.seq x y) a h Q := by
  obtain ⟨n, e, a', h', ev, q⟩ := k
  cases e with
  | normal =>
    obtain ⟨m, e', a'', h'', ev', q'⟩ := q
    refine ⟨max n m + 1, e', a'', h'', ?_, q'⟩
    have hn : n ≤ max n m := Nat.le_max_left _ _
    have hm : m ≤ max n m := Nat.le_max_right _ _
    simp only [evCode]
    rw [evCode_mono (callF_mono T (Nat.le_succ_of_le hn)) hn ev]
    exact evCode_mono (callF_mono T (Nat.le_succ_of_le hm)) hm ev'
  | _ =>
    refine ⟨n + 1, _, a', h', ?_, q⟩
    simp only [evCode]
    rw [evCode_mono (callF_mono T (Nat.le_succ n)) (Nat.le_refl n) ev]

theorem WP.cond {c : CX} {x y : CCode} {b : Bool} (hb : c.ev a.tmps = .bool b) (k₁ : b = true → WP T x a h Q) (k₂ : b = false → WP T y a h Q) : WP T (.cond c x y) a h Q := by
  cases b with
  | true =>
    obtain ⟨n, e, a', h', ev, q⟩ := k₁ rfl
    exact ⟨n + 1, e, a', h', by simp only [evCode, hb]; exact evCode_mono (callF_mono T (Nat.le_succ n)) (Nat.le_refl n) ev, q⟩
  | false =>
    obtain ⟨n, e, a', h', ev, q⟩ := k₂ rfl
    exact ⟨n + 1, e, a', h', by simp only [evCode, hb]; exact evCode_mono (callF_mono T (Nat.le_succ n)) (Nat.le_refl n) ev, q⟩

def blockQ (id : Nat) (Q : CExit → Fr → Heap → Prop) : CExit → Fr → Heap → Prop
  | .exit id', a, h => if id' = id then Q .normal a h else Q (.exit id') a h
  | x, a, h => Q x a h

theorem WP.block {id : Nat} {x : CCode} (k : WP T x a h (blockQ id Q)) : WP T (.block id x) a h Q := by
  obtain ⟨n, e, a', h', ev, q⟩ := k
  have ev' := evCode_mono (callF_mono T (Nat.le_succ n)) (Nat.le_refl n) ev
  cases e with
  | exit id' =>
    simp only [blockQ] at q
    by_cases hi : id' = id
    · rw [if_pos hi] at q
      exact ⟨n + 1, .normal, a', h', by simp only [evCode, ev', hi, if_true], q⟩
    · rw [if_neg hi] at q
      exact ⟨n + 1, .exit id', a', h', by simp only [evCode, ev', hi, if_false], q⟩
  | _ => exact ⟨n + 1, _, a', h', by simp only [evCode, ev'], q⟩

/-- One round; then the loop again. -/
theorem WP.loop {x : CCode} (k : WP T x a h (thenQ (fun a' h' => WP T (.loop x) a' h' Q) Q)) : WP T (.loop x) a h Q := by
  obtain ⟨n, e, a', h', ev, q⟩ := k
  cases e with
  | normal =>
    obtain ⟨m, e', a'', h'', ev', q'⟩ := q
    refine ⟨max n m + 1, e', a'', h'', ?_, q'⟩
    have hn : n ≤ max n m := Nat.le_max_left _ _
    have hm : m ≤ max n m := Nat.le_max_right _ _
    simp only [evCode]
    rw [evCode_mono (callF_mono T (Nat.le_succ_of_le hn)) hn ev]
    exact evCode_mono (callF_mono T (Nat.le_succ_of_le hm)) hm ev'
  | _ =>
    refine ⟨n + 1, _, a', h', ?_, q⟩
    simp only [evCode]
    rw [evCode_mono (callF_mono T (Nat.le_succ n)) (Nat.le_refl n) ev]

/-- A loop by what holds at its head, and a measure. -/
theorem WP.loop_inv {x : CCode} {α : Type} (I : α → Fr → Heap → Prop) (μ : α → Nat) (round : ∀ s a h, I s a h → WP T x a h (thenQ (fun a' h' => ∃ s', I s' a' h' ∧ μ s' < μ s) Q)) (s : α) (h₀ : I s a h) : WP T (.loop x) a h Q := by
  have key : ∀ n s a h, μ s = n → I s a h → WP T (.loop x) a h Q := by
    intro n
    induction n using Nat.strongRecOn with
    | _ n ih =>
      intro s a h hn hI
      refine WP.loop ((round s a h hI).mono ?_)
      intro e a' h' q
      cases e with
      | normal =>
        obtain ⟨s', hI', hlt⟩ := q
        exact ih _ (hn ▸ hlt) s' a' h' rfl hI'
      | _ => exact q
  exact key _ s a h rfl h₀

/-- The operations of a region. -/
def WPO (T : Tab) (os : List COper) (a : Fr) (h : Heap) (K : Fr → Heap → Prop) : Prop := ∃ n a' h', evOps (callF T n) os a h = some (a', h') ∧ K a' h'

theorem WP.region {os : List COper} (k : WPO T os a h (Q .normal)) : WP T (.region os) a h Q := by
  obtain ⟨n, a', h', ev, q⟩ := k
  exact ⟨n + 1, .normal, a', h', by simp only [evCode]; rw [evOps_mono (callF_mono T (Nat.le_succ n)) ev], q⟩

variable {K : Fr → Heap → Prop} {os : List COper} {o : COper}
theorem WPO.nil (k : K a h) : WPO T [] a h K := ⟨0, a, h, rfl, k⟩

theorem WPO.op {v : CVal} {ds : List (FuncId × List CVal)} {h' : Heap} (e : evOp1 noCall o a.tmps h = some (v, ds, h')) (k : WPO T os (a.done o.dst v ds) h' K) : WPO T (o :: os) a h K := by
  obtain ⟨n, a₁, h₁, ev, q⟩ := k
  refine ⟨n, a₁, h₁, ?_, q⟩
  simp only [evOps, evOper]
  rw [evOp1_mono (c := noCall) (fun f args h r hh => by simp [noCall] at hh) e]
  exact ev

theorem WPO.call {f : FuncId} {args : List CVal} (hw : wantC a.tmps o.guard = some true) (e : cop o.op a.tmps h = some (.enter f args, h)) (k : Cal T f args h fun v h' => WPO T os (a.done o.dst v []) h' K) : WPO T (o :: os) a h K := by
  obtain ⟨m, v, h', ec, n, a₁, h₁, ev, q⟩ := k
  refine ⟨max n m, a₁, h₁, ?_, q⟩
  have hn : n ≤ max n m := Nat.le_max_left _ _
  have hm : m ≤ max n m := Nat.le_max_right _ _
  simp only [evOps, evOper, evOp1, hw, e]
  rw [callF_mono T hm _ _ _ _ ec]
  exact evOps_mono (callF_mono T hn) ev
end

/-- A call of a function whose text is known. -/
theorem Cal.code {T : Tab} {f : FuncId} {fn : CFunc} {args : List CVal} {h : Heap} {Q : CVal → Heap → Prop} (hp : T.prim f = none) (hf : T.code f = some fn)
    (k : WP T fn.code (frame₀ fn args) h fun x a' h' => (x = .normal ∨ x = .ret) ∧ a'.defers = [] ∧ ∃ vs, resultsC a'.tmps h' fn.results = some vs ∧ Q (packC vs) h') : Cal T f args h Q := by
  obtain ⟨n, x, a', h', ev, hx, hd, vs, hr, q⟩ := k
  refine ⟨n + 1, packC vs, h', ?_, q⟩
  rw [callF]
  simp only [hp, hf, evBody, ev]
  rcases hx with rfl | rfl <;> simp only [hd, runDefers, hr]

theorem Cal.prim {T : Tab} {f : FuncId} {p : List CVal → Heap → Option (CVal × Heap)} {args : List CVal} {h h' : Heap} {v : CVal} {Q : CVal → Heap → Prop} (hp : T.prim f = some p) (e : p args h = some (v, h')) (q : Q v h') : Cal T f args h Q :=
  ⟨1, v, h', by rw [callF]; simp only [hp, e], q⟩

end Go.Proofs.YtmppoknfekdbbaaDoor.Cm
