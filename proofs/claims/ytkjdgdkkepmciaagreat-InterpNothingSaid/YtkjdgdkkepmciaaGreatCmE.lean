/-
  The clean machine, and what the law's functions do in it: part E of this claim's own texts. No conditions.
-/
import Derived.Test.YtkjdgdkkepmciaaGreatCmD
import Derived.WideShapes
import Derived.ChangeSlices
import Derived.Lib.Join
import Derived.Below
import GoSem.ClaimJoined
import Derived.ChangeArms
import Derived.Shelf.Abstract
import Derived.Deep.Draws
import Derived.Maps.RangeWalk
import Derived.Maps.RangeRun
import Derived.Maps.Range
import Derived.Lib.SlKeysI
namespace Go.Proofs.YtkjdgdkkepmciaaGreat.Cm
open Go.RowKit
def IsSl (h : Heap) (v : CVal) (sz m : Nat) (cs : List CVal) : Prop :=
 (v = .nilSlice ∧ m = 0 ∧ cs = []) ∨ ∃ b wr opn, v = .slice b 0 m m ∧ cs.length = m * sz ∧ h.get b = some (.cells cs wr opn) ∧ (opn = none ∨ (opn = some sz ∧ wr = true))
def vlo (lo : Nat) (v : CVal) : Prop := ∀ j o l c, v = .slice j o l c → lo ≤ j
def vne (j : Nat) (v : CVal) : Prop := ∀ o l c, v ≠ .slice j o l c
end Go.Proofs.YtkjdgdkkepmciaaGreat.Cm
namespace Go.Proofs.YtkjdgdkkepmciaaGreat.Cm
open Go.RowKit Go.ChangeShapes
section
variable {K : Ctx} {ι : Emb} {h : Heap} {w : World}
def Ro (h : Heap) : Prop := ∀ i o, h.get i = some o → o.wr = false
def IsRow (k : IntKind) (w : World) (a : Option Addr) (len cap : Nat) (zs : List Int) : Prop :=
 (a = none ∧ len = 0 ∧ cap = 0 ∧ zs = []) ∨
 ∃ x, a = some x ∧ x.block < w.heap.size ∧ len ≤ cap ∧ zs.length = cap ∧ (∀ i, i < zs.length → w.cell? (x.add i) = some (.int k (zs.getD i 0))) ∧ ∀ n ∈ zs, (Lit.int k n).wf = true
def ArgSl (h : Heap) (v : CVal) (k : IntKind) (len : Nat) (zs : List Int) : Prop :=
 len ≤ zs.length ∧ (∀ n ∈ zs, (Lit.int k n).wf = true) ∧ ((v = .nilSlice ∧ zs = []) ∨ ∃ i, v = .slice i 0 len zs.length ∧ i < h.next ∧ (zs = [] ∨ h.get i = some (.cells (zs.map (CVal.int k)) false none)))
end
end Go.Proofs.YtkjdgdkkepmciaaGreat.Cm
namespace Go.Proofs.YtkjdgdkkepmciaaGreat.Cm
open Go.RowKit
def strsC : List CVal → Option (List (List UInt8))
 | [] => some []
 | .str s :: vs => match strsC vs with
  | some xs => some (s :: xs)
  | none => none
 | _ :: _ => none
def joinP : List CVal → Heap → Option (CVal × Heap)
 | [.nilSlice, .str _], h => some (.str [], h)
 | [.slice i o l _, .str s], h =>
  if l = 0 then some (.str [], h) else
  match h.get i with
  | some (.cells vs _ _) => match strsC ((vs.drop o).take l) with
   | some xs => if xs.length = l ∧ l ≤ 140737488355328 ∧ (Lib.join xs s).length ≤ 140737488355328 then some (.str (Lib.join xs s), h) else none
   | none => none
  | _ => none
 | _, _ => none
theorem keeps_of_below {w w' : World} (b : Below w.heap.size w w') : Keeps (fun b => b < w.heap.size) w w' := ⟨b.os, b.tape, b.output, b.size, b.block⟩
structure Ev where
 at_ : Int
 kind : Int
 pid : Int
 a : Int
 b : Int
deriving DecidableEq, Inhabited
def Ev.cs (e : Ev) : List CVal := [.int .i64 e.at_, .int .i64 e.kind, .int .i64 e.pid, .int .i64 e.a, .int .i64 e.b]
def REv (h : Heap) (v : CVal) (E : List Ev) : Prop :=
 (v = .nilSlice ∧ E = []) ∨ ∃ i o c, v = .slice i o E.length c ∧ E.length ≤ c ∧ i < h.next ∧ (E = [] ∨ ∃ cs wr opn, h.get i = some (.cells cs wr opn) ∧ ∀ j (hj : j < E.length), (cs.drop (o + j * 5)).take 5 = E[j].cs)
def Alike (A B : List Ev) (n : Nat) : Prop := ∀ j, j < n → A[j]? = B[j]?
def cellsE (E : List Ev) : List CVal := E.flatMap Ev.cs
def Own (h₀ h : Heap) (v : CVal) (sz m : Nat) (cs : List CVal) : Prop := IsSl h v sz m cs ∧ ∀ j o l c, v = .slice j o l c → h₀.next ≤ j ∧ j < h.next
def RIn (h : Heap) (v : CVal) (R : List Int) : Prop :=
 (v = .nilSlice ∧ R = []) ∨ ∃ i o c, v = .slice i o R.length c ∧ i < h.next ∧ (R = [] ∨ ∃ cs wr opn, h.get i = some (.cells cs wr opn) ∧ ∀ j (hj : j < R.length), cs[o + j]? = some (.int .i64 R[j]))
end Go.Proofs.YtkjdgdkkepmciaaGreat.Cm
namespace Go.Proofs.YtkjdgdkkepmciaaGreat.Cm
open Go.RowKit Go.ChangeShapes
def Ev.nth (e : Ev) : Nat → Int
 | 0 => e.at_
 | 1 => e.kind
 | 2 => e.pid
 | 3 => e.a
 | _ => e.b
structure IsEvs (w : World) (a : Option Addr) (len cap : Nat) (E : List Ev) : Prop where
 no : a = none → len = 0 ∧ cap = 0
 at_ : ∀ x, a = some x → len ≤ cap ∧ x.spot = none ∧ ∃ C el fz, w.heap[x.block]? = some (.cells C el fz)
 len : E.length = len
 cells : ∀ x, a = some x → ∀ j (hj : j < E.length), ∀ q, q < 5 → w.cell? (x.add (j * 5 + q)) = some (.int .i64 (E[j].nth q))
end Go.Proofs.YtkjdgdkkepmciaaGreat.Cm
namespace Go.Proofs.YtkjdgdkkepmciaaGreat.Cm
open Go.RowKit
theorem Inv.adopt {K : Ctx} {ι : Emb} {h : Heap} {w w' : World} (H : Inv K ι h w) (k : Keeps (fun b => b < w.heap.size) w w') (o : CObj) {A e : Nat} (hA : w.heap.size ≤ A) (hA' : A < w'.heap.size)
  (ho : ObjR (ι.put h.next (A, 0, e)) w' K.glb.mod K.F h.next o) : Inv K (ι.put h.next (A, 0, e)) (h.new o) w' := by
 have H' := H.later k
 have hfr := (H.fresh h.next (Nat.le_refl _)).1
 have hle := ι.le_put h.next (A, 0, e) hfr
 refine ⟨H.hF, H'.keep, fun g hg => hle _ _ (H.glob g hg), ?_, ?_, ?_, ?_, H.hG, ?_, fun i hi => ?_, fun i hi => ?_⟩
 ·intro i oi hi
  rw [Heap.get_new] at hi
  by_cases e1 : i = h.next
  ·subst e1; simp at hi; subst hi; exact ho
  ·rw [if_neg e1] at hi
   exact (H'.obj i oi hi).mono hle fun b β e2 he => rfl
 ·intro i j oi oj b β e1 b' β' e2 hne hi hj hw hbi hbj
  rw [Heap.get_new] at hi hj
  by_cases i1 : i = h.next
  ·subst i1
   rw [Emb.put_same] at hbi; simp at hbi
   rw [Emb.put_ne _ _ _ _ (Ne.symm hne)] at hbj
   have := H.inb _ _ _ _ hbj
   omega
  ·by_cases j1 : j = h.next
   ·subst j1
    rw [Emb.put_same] at hbj; simp at hbj
    rw [Emb.put_ne _ _ _ _ hne] at hbi
    have := H.inb _ _ _ _ hbi
    omega
   ·rw [if_neg i1] at hi; rw [if_neg j1] at hj
    rw [Emb.put_ne _ _ _ _ i1] at hbi; rw [Emb.put_ne _ _ _ _ j1] at hbj
    exact H.excl i j oi oj b β e1 b' β' e2 hne hi hj hw hbi hbj
 ·intro i hi
  simp at hi
  rw [Emb.put_ne _ _ _ _ (by omega), Heap.get_new_ne _ _ _ (by omega)]
  exact H.fresh i (by omega)
 ·intro i b β e1 hb
  by_cases i1 : i = h.next
  ·subst i1; rw [Emb.put_same] at hb; simp at hb; omega
  ·rw [Emb.put_ne _ _ _ _ i1] at hb; have := H'.inb _ _ _ _ hb; omega
 ·intro i oi b β e1 hi hb hg
  rw [Heap.get_new] at hi
  by_cases i1 : i = h.next
  ·subst i1
   rw [Emb.put_same] at hb; simp at hb
   have := H.hF _ (H.hG.1 _ hg); have := H.keep.size; omega
  ·rw [if_neg i1] at hi; rw [Emb.put_ne _ _ _ _ i1] at hb
   exact H.hid i oi b β e1 hi hb hg
 ·obtain ⟨h1, h2⟩ := H.nev i hi
  exact ⟨by simp; omega, by rw [Heap.get_new_ne _ _ _ (by omega)]; exact h2⟩
 ·obtain ⟨h1, h2⟩ := H.nul i hi
  exact ⟨by simp; omega, by rw [Emb.put_ne _ _ _ _ (by omega)]; exact h2⟩
end Go.Proofs.YtkjdgdkkepmciaaGreat.Cm
namespace Go.Proofs.YtkjdgdkkepmciaaGreat.Cm
open Go Go.RowKit Go.Maps Go.WideElems
open Go.ChangeMaps Go.MapKept
theorem sub_filter {α : Type} {p : α → Bool} : ∀ {l' l : List α}, l'.Sublist l → l.Nodup → (∀ x, x ∈ l' ↔ x ∈ l ∧ p x = true) → l' = l.filter p
 | _, _, .slnil, _, _ => rfl
 | l', x :: l, .cons _ s, nd, m => by
  have hx : x ∉ l := (List.nodup_cons.1 nd).1
  have hp : p x = false := by
   cases h : p x
   ·rfl
   ·have := (m x).2 ⟨List.mem_cons_self .., h⟩
    exact absurd (s.subset this) hx
  rw [List.filter_cons_of_neg (by simp [hp])]
  refine sub_filter s (List.nodup_cons.1 nd).2 fun y => ?_
  constructor
  ·intro hy
   exact ⟨s.subset hy, ((m y).1 hy).2⟩
  ·rintro ⟨hy, hpy⟩
   exact (m y).2 ⟨List.mem_cons_of_mem _ hy, hpy⟩
 | x :: l', _ :: l, .cons_cons _ s, nd, m => by
  have hx : x ∉ l := (List.nodup_cons.1 nd).1
  have hp := ((m x).1 (List.mem_cons_self ..)).2
  rw [List.filter_cons_of_pos hp]
  congr 1
  refine sub_filter s (List.nodup_cons.1 nd).2 fun y => ?_
  constructor
  ·intro hy
   exact ⟨s.subset hy, ((m y).1 (List.mem_cons_of_mem _ hy)).2⟩
  ·rintro ⟨hy, hpy⟩
   rcases List.mem_cons.1 ((m y).2 ⟨List.mem_cons_of_mem _ hy, hpy⟩) with h | h
   ·subst h; exact absurd hy hx
   ·exact h
section
variable {H : Type} {P : Program} {k : TypeId} {R : Value → Option (DataW H × List MemPlace)} {w0 w : World} {b r clock : Nat} {E : Array MapEntry} {pd : MapEntry → Bool} {seen : Array Nat}
def Strk (w0 : World) (b r : Nat) (E : Array MapEntry) (clock : Nat) (pd : MapEntry → Bool) (seen : Array Nat) (w : World) : Prop :=
 ∃ E' : Array MapEntry, w.heap[b]? = some (.map E' clock) ∧ E'.toList = E.toList.filter (fun e => !(seen.contains e.born && pd e)) ∧
  (∃ c0, clock ≤ c0 ∧ w.heap[r]? = some (.mapIter (some b) clock seen c0)) ∧ w0.grownBy w (some b)
def Come (w0 : World) (b r : Nat) (E : Array MapEntry) (clock : Nat) (pd : MapEntry → Bool) (seen : Array Nat) (e : MapEntry) (w : World) : Prop :=
 e ∈ E.toList ∧ seen.contains e.born = false ∧ ∃ E' : Array MapEntry, w.heap[b]? = some (.map E' clock) ∧ E'.toList = E.toList.filter (fun e => !(seen.contains e.born && pd e)) ∧
  w.heap[r]? = some (.mapIter (some b) clock (seen.push e.born) clock) ∧ w0.grownBy w (some b)
theorem Strk.start {t e : TypeId} (ht : P.underlying t = some (.map k e)) (hb : w.heap[b]? = some (.map E clock)) :
  ∃ w', (Instr.range t (.map (some b))).run P w = .ok (.pointer (some ⟨w.heap.size, 0, none⟩)) w' ∧ Strk w b w.heap.size E clock pd #[] w' := by
 have hlt : b < w.heap.size := (Array.getElem?_eq_some_iff.1 hb).1
 refine ⟨_, run_range_map w t k e b E clock ht hb, E, ((MapKept.heap_alloc w _).2 b hlt).trans hb, ?_, ⟨clock, Nat.le_refl _, (MapKept.heap_alloc w _).1⟩, (World.grownBy_alloc w _ none).but _⟩
 symm
 exact List.filter_eq_self.2 fun e _ => by simp
theorem Strk.left (h : Strk w0 b r E clock pd seen w) : w.rangeLeft b r = (E.toList.filter fun e => !seen.contains e.born).length := by
 obtain ⟨E', hb, hE, ⟨c0, _, hr⟩, _⟩ := h
 simp only [World.rangeLeft, hb, hr]
 unfold leftOf
 rw [← Array.length_toList, Array.toList_filter, hE, List.filter_filter]
 congr 1
 refine List.filter_congr fun e _ => ?_
 cases seen.contains e.born <;> simp
theorem Strk.next (h : Strk w0 b r E clock pd seen w) (hrb : r ≠ b) (hr0 : w0.heap.size ≤ r) (hold : ∀ x ∈ E.toList, x.born < clock) (ty : TypeId) :
  ((∀ e ∈ E.toList, seen.contains e.born = true) ∧ (Instr.next (.pointer (some ⟨r, 0, none⟩)) false ty).run P w = .ok (.tuple #[.bool false]) w) ∨
  ∃ e w', (Instr.next (.pointer (some ⟨r, 0, none⟩)) false ty).run P w = .ok (.tuple #[.bool true, e.key, e.val]) w' ∧ Come w0 b r E clock pd seen e w' := by
 have hleft := h.left
 obtain ⟨E', hb, hE, ⟨c0, hc, hr⟩, hg⟩ := h
 have hold' : ∀ x ∈ E'.toList, x.born < clock := fun x hx => hold x (by rw [hE] at hx; exact (List.mem_filter.1 hx).1)
 rcases run_next_at (P := P) w ty r b clock c0 seen E' clock hr hb hold' hc with ⟨h0, hrun⟩ | ⟨e, he, w1, hal, hrun⟩
 ·refine .inl ⟨fun e he => ?_, hrun⟩
  simp only [World.rangeLeft, hb, hr] at hleft
  rw [h0] at hleft
  have h2 := List.eq_nil_of_length_eq_zero hleft.symm
  cases hs : seen.contains e.born
  ·have := (List.filter_eq_nil_iff.1 h2) e he
   rw [hs] at this
   simp at this
  ·rfl
 ·obtain ⟨hem, hes⟩ := mem_left he
  have hr1 : w1.heap[r]? = some (.mapIter (some b) clock seen c0) := by rcases hal with rfl | rfl <;> exact hr
  have hb1 : w1.heap[b]? = some (.map E' clock) := by rcases hal with rfl | rfl <;> exact hb
  have hset := heap_set (o' := .mapIter (some b) clock (seen.push e.born) clock) hr1
  rw [hE] at hem
  refine .inr ⟨e, _, hrun, (List.mem_filter.1 hem).1, hes, E', (hset.2 b (fun e1 => hrb e1.symm)).trans hb1, hE, hset.1, ?_⟩
  refine hg.andThen (b' := w) (row' := some r) ?_ (fun j hj => by cases hj; exact .inl hr0)
  rcases hal with rfl | rfl <;> exact ⟨rfl, rfl, rfl, by simp [setBlock], fun i _ hi => hset.2 i (fun e1 => hi (by rw [e1]))⟩
theorem Come.stay {e : MapEntry} (h : Come w0 b r E clock pd seen e w) (hn : (E.toList.map (·.born)).Nodup) (hp : pd e = false) : Strk w0 b r E clock pd (seen.push e.born) w := by
 obtain ⟨hm, hs, E', hb, hE, hr, hg⟩ := h
 refine ⟨E', hb, ?_, ⟨clock, Nat.le_refl _, hr⟩, hg⟩
 rw [hE]
 refine List.filter_congr fun x hx => ?_
 rw [contains_push]
 by_cases hb : x.born = e.born
 ·obtain rfl := born_inj hn hx hm hb
  simp [hp]
 ·have : (x.born == e.born) = false := by simp [hb]
  rw [this, Bool.or_false]
theorem Come.kept {e : MapEntry} {w' : World} (h : Come w0 b r E clock pd seen e w) (hg' : w.grownBy w' none) : Come w0 b r E clock pd seen e w' := by
 obtain ⟨hm, hs, E', hb, hE, hr, hg⟩ := h
 have lb := (Array.getElem?_eq_some_iff.1 hb).1
 have lr := (Array.getElem?_eq_some_iff.1 hr).1
 exact ⟨hm, hs, E', (hg'.block b lb (by simp)).trans hb, hE, (hg'.block r lr (by simp)).trans hr, hg.andThen hg' (fun j hj => by cases hj)⟩
theorem Come.drop {t e : TypeId} {x : MapEntry} (h : Come w0 b r E clock pd seen x w) (hrb : r ≠ b) (K : Keyed P k) (ht : P.underlying t = some (.map k e)) (F : Fit P k R E clock) {kl : Lit} (hkey : keyOf P k x.key = some kl) (hp : pd x = true) (ty : TypeId) :
  ∃ w', (Builtin.delete_ #[t, k] ty #[.map (some b), x.key]).run P w = .ok (.tuple #[]) w' ∧ Strk w0 b r E clock pd (seen.push x.born) w' := by
 obtain ⟨hm, hs, E', hb, hE, hr, hg⟩ := h
 have hst := (MapKept.stamped_iff E clock).1 F.stamped
 have nd : E.toList.Nodup := by
  have := hst.2.1
  exact List.Pairwise.of_map (·.born) (fun a b h e => h (by rw [e])) this
 have F' : Fit P k R E' clock := by
  refine ⟨?_, ?_, fun y hy => F.reads y (by rw [hE] at hy; exact (List.mem_filter.1 hy).1)⟩
  ·have := List.length_filter_le (fun e => !(seen.contains e.born && pd e)) E.toList
   rw [← hE] at this
   have := F.size
   simp at *
   omega
  ·refine (MapKept.stamped_iff E' clock).2 ⟨fun y hy => hst.1 y (by rw [hE] at hy; exact (List.mem_filter.1 hy).1), ?_, ?_⟩
   ·rw [hE]; exact (List.filter_sublist.map _).nodup hst.2.1
   ·rw [hE]; exact hst.2.2.sublist List.filter_sublist
 obtain ⟨E'', hrun, _, _, _, hsub, hwho⟩ := fit_drop_who (ty := ty) K ht hb F' hkey
 refine ⟨_, hrun, E'', heap_setBlock_same hb _, ?_, ⟨clock, Nat.le_refl _, (heap_setBlock_other hb _ hrb).trans hr⟩, ?_⟩
 ·rw [sub_filter (p := fun y => !(y.born == x.born)) hsub (by rw [hE]; exact nd.sublist List.filter_sublist) fun y => ?_, hE, List.filter_filter]
  ·refine List.filter_congr fun y hy => ?_
   rw [contains_push]
   by_cases hb : y.born = x.born
   ·obtain rfl := born_inj hst.2.1 hy hm hb
    simp [hp]
   ·have : (y.born == x.born) = false := by simp [hb]
    rw [this, Bool.or_false]; simp
  ·rw [hwho y]
   refine and_congr_right fun hy => ?_
   have hy' : y ∈ E.toList := by rw [hE] at hy; exact (List.mem_filter.1 hy).1
   by_cases hb : y.born = x.born
   ·obtain rfl := born_inj hst.2.1 hy' hm hb
    simp
   ·simp only [hb, Bool.not_eq_true', beq_eq_false_iff_ne, ne_eq, not_false_eq_true, iff_true]
    intro e1
    exact hb (congrArg MapEntry.born (entry_eq_of_key hst.2.2 hy' hm e1))
 ·exact ⟨hg.os, hg.tape, hg.output, by rw [show (setBlock w b (.map E'' clock)).heap.size = w.heap.size by simp [setBlock]]; exact hg.size, fun i hi hne => by
   rw [heap_setBlock_other hb _ (fun e1 => hne (by rw [e1]))]; exact hg.block i hi hne⟩
theorem Strk.done (h : Strk w0 b r E clock pd seen w) (hall : ∀ e ∈ E.toList, seen.contains e.born = true) : ∃ E' : Array MapEntry, w.heap[b]? = some (.map E' clock) ∧ E'.toList = E.toList.filter (fun e => !pd e) ∧ w0.grownBy w (some b) := by
 obtain ⟨E', hb, hE, _, hg⟩ := h
 exact ⟨E', hb, by rw [hE]; exact List.filter_congr fun e he => by rw [hall e he]; simp, hg⟩
end
end Go.Proofs.YtkjdgdkkepmciaaGreat.Cm
namespace Go.Proofs.YtkjdgdkkepmciaaGreat.Cm
open Go Go.RowKit Go.Maps Go.WideElems
def insI (x : Int) : List Int → List Int
 | [] => [x]
 | y :: l => if x ≤ y then x :: y :: l else y :: insI x l
def isort : List Int → List Int
 | [] => []
 | x :: l => insI x (isort l)
theorem insI_perm (x : Int) : ∀ l, (insI x l).Perm (x :: l)
 | [] => .refl _
 | y :: l => by
  unfold insI
  split
  ·exact .refl _
  ·exact ((insI_perm x l).cons y).trans (.swap x y l)
theorem isort_perm : ∀ l, (isort l).Perm l
 | [] => .refl _
 | x :: l => (insI_perm x _).trans ((isort_perm l).cons x)
theorem insI_sorted (x : Int) : ∀ {l : List Int}, l.Pairwise (· ≤ ·) → (insI x l).Pairwise (· ≤ ·)
 | [], _ => by simp [insI]
 | y :: l, h => by
  obtain ⟨h1, h2⟩ := List.pairwise_cons.1 h
  unfold insI
  split
  ·next hxy =>
   refine List.pairwise_cons.2 ⟨fun z hz => ?_, h⟩
   rcases List.mem_cons.1 hz with rfl | hz
   ·exact hxy
   ·exact Int.le_trans hxy (h1 z hz)
  ·next hxy =>
   refine List.pairwise_cons.2 ⟨fun z hz => ?_, insI_sorted x h2⟩
   rcases List.mem_cons.1 ((insI_perm x l).mem_iff.1 hz) with rfl | hz
   ·omega
   ·exact h1 z hz
theorem isort_sorted : ∀ l, (isort l).Pairwise (· ≤ ·)
 | [] => .nil
 | x :: l => insI_sorted x (isort_sorted l)
theorem isort_length (l : List Int) : (isort l).length = l.length := (isort_perm l).length_eq
theorem isort_merge {ss ks : List Int} (h : ss.Perm ks) : ss.mergeSort (fun x y => decide (x ≤ y)) = isort ks := by
 have tr : ∀ a b c : Int, decide (a ≤ b) = true → decide (b ≤ c) = true → decide (a ≤ c) = true := fun a b c h1 h2 => by simp only [decide_eq_true_eq] at *; omega
 have tot : ∀ a b : Int, (decide (a ≤ b) || decide (b ≤ a)) = true := fun a b => by simp only [Bool.or_eq_true, decide_eq_true_eq]; omega
 refine List.Perm.eq_of_pairwise (le := fun a b => decide (a ≤ b) = true) (fun a b _ _ h1 h2 => ?_) (List.pairwise_mergeSort tr tot ss) ((isort_sorted ks).imp fun h => by simpa using h) (((List.mergeSort_perm ss _).trans h).trans (isort_perm ks).symm)
 simp only [decide_eq_true_eq] at h1 h2
 omega
def intKeysC : List (CVal × CVal) → Option (List Int)
 | [] => some []
 | (.int .i64 n, _) :: es => match intKeysC es with
  | some l => if -9223372036854775808 ≤ n ∧ n ≤ 9223372036854775807 then some (n :: l) else none
  | none => none
 | _ => none
theorem intKeysC_some : ∀ {es : List (CVal × CVal)} {ks : List Int}, intKeysC es = some ks → es.map (·.1) = ks.map (CVal.int .i64) ∧ ∀ n ∈ ks, -9223372036854775808 ≤ n ∧ n ≤ 9223372036854775807
 | [], ks, h => by simp [intKeysC] at h; subst h; exact ⟨rfl, fun n m => by simp at m⟩
 | (k, v) :: es, ks, h => by
  unfold intKeysC at h
  split at h
  ·next heq => simp at heq
  ·next n v' es' heq =>
   simp only [List.cons.injEq, Prod.mk.injEq] at heq
   obtain ⟨⟨rfl, rfl⟩, rfl⟩ := heq
   split at h
   ·next l hl =>
    split at h
    ·next hn =>
     simp only [Option.some.injEq] at h
     subst h
     obtain ⟨h1, h2⟩ := intKeysC_some hl
     exact ⟨by simp [h1], fun m hm => by rcases List.mem_cons.1 hm with rfl | hm; exact hn; exact h2 m hm⟩
    ·simp at h
   ·simp at h
  ·simp at h
def stOk (es : List (CVal × CVal)) (bs : List Nat) (c : Nat) : Bool := decide (bs.length = es.length) && decide (bs.Nodup) && bs.all (fun b => Nat.blt b c) && decide (es.length ≤ 1000000)
theorem stOk_iff {es : List (CVal × CVal)} {bs : List Nat} {c : Nat} : stOk es bs c = true ↔ bs.length = es.length ∧ bs.Nodup ∧ (∀ b ∈ bs, b < c) ∧ es.length ≤ 1000000 := by
 simp only [stOk, Bool.and_eq_true, decide_eq_true_eq, List.all_eq_true, Nat.blt_eq]
 constructor
 ·rintro ⟨⟨⟨a, b⟩, c⟩, d⟩; exact ⟨a, b, c, d⟩
 ·rintro ⟨a, b, c, d⟩; exact ⟨⟨⟨a, b⟩, c⟩, d⟩
def sortedP (g : FuncId) : List CVal → Heap → Option (CVal × Heap)
 | [.func f [] [.ptr i 0]], h => if f = g then match h.get i with
  | some (.kbox (.map m)) => match h.get m with
   | some (.map es _ (some (bs, c))) => match intKeysC es with
    | some ks => if stOk es bs c = true ∧ ks.Nodup then (match ks with
     | [] => some (.nilSlice, h)
     | _ :: _ => some (.slice h.next 0 ks.length ks.length, h.new (.cells ((isort ks).map (.int .i64)) true (some 1)))) else none
    | none => none
   | _ => none
  | _ => none
  else none
 | _, _ => none
theorem ownsMap_ints {P : Program} {k : TypeId} (hk : P.underlying k = some (.int .i64)) {w : World} {b clock : Nat} {E : Array MapEntry} {ks : List Int} (hb : w.heap[b]? = some (.map E clock)) (keys : E.toList.map (·.key) = ks.map (.int .i64))
  (hr : ∀ n ∈ ks, -9223372036854775808 ≤ n ∧ n ≤ 9223372036854775807) (nd : ks.Nodup) (bn : (E.toList.map (·.born)).Nodup) (bc : ∀ x ∈ E.toList, x.born < clock) (hs : ks.length ≤ 1000000) :
  ∃ D : DataW Unit, w.ownsMap P k (fun _ => some (.nil, [])) b E.size D ∧ (intKeys D).Perm ks ∧ Maps.size D = ks.length := by
 have hlen : E.size = ks.length := by
  have := congrArg List.length keys
  simpa using this
 have rd : ∀ x ∈ E.toList, ∃ n : Int, x.key = .int .i64 n ∧ rd (H := Unit) P k (fun _ => some (.nil, [])) x = some (.int .i64 n, .nil) := by
  intro x hx
  have : x.key ∈ ks.map (Value.int .i64) := by rw [← keys]; exact List.mem_map.2 ⟨x, hx, rfl⟩
  obtain ⟨n, hn, e⟩ := List.mem_map.1 this
  have hw : (Lit.int .i64 n).wf = true := by
   have := hr n hn
   show (decide (IntKind.i64.min ≤ n) && decide (n ≤ IntKind.i64.max)) = true
   have e1 : IntKind.i64.min = -9223372036854775808 := by decide
   have e2 : IntKind.i64.max = 9223372036854775807 := by decide
   rw [Bool.and_eq_true, decide_eq_true_eq, decide_eq_true_eq]
   omega
  refine ⟨n, e.symm, ?_⟩
  have hkey := Maps.keyOf_int_mk (k := k) hk hw
  simp only [WideElems.rd, ← e, hkey, Option.bind_some, Option.map_some]
 have L : E.toList.map (fun x => _root_.Go.intOf (rg (H := Unit) P k (fun _ => some (.nil, [])) x).1) = ks := by
  have h1 : (E.toList.map (·.key)).map (fun v => match v with | .int _ n => n | _ => 0) = ks := by rw [keys, List.map_map]; exact (List.map_congr_left (fun _ _ => rfl)).trans (List.map_id ks)
  rw [← h1, List.map_map]
  refine List.map_congr_left fun x hx => ?_
  obtain ⟨n, e1, e2⟩ := rd x hx
  rw [rg_of e2]
  simp [e1, _root_.Go.intOf]
 refine ⟨.map ((E.toList.map (rg P k fun _ => some (.nil, []))).foldr DataW.insert []), ⟨E, clock, hb, ⟨?_, ?_, fun x hx => ?_⟩, Nat.le_refl _, rfl⟩, ?_, ?_⟩
 ·have : (1000000 : Nat) ≤ maxLen := by decide
  omega
 ·refine ⟨bc, bn, ?_⟩
  rw [keys]
  exact List.Pairwise.map _ (fun a b h e => h (by simpa using e)) nd
 ·obtain ⟨n, _, e2⟩ := rd x hx
  exact ⟨_, e2⟩
 ·show (((E.toList.map (rg P k fun _ => some (.nil, []))).foldr DataW.insert []).map fun p => _root_.Go.intOf p.1).Perm ks
  refine ((Go.WideShapes.sorted_perm _).map _).trans ?_
  rw [List.map_map]
  exact L ▸ .refl _
 ·show ((E.toList.map (rg P k fun _ => some (.nil, []))).foldr DataW.insert []).length = _
  rw [(Go.WideShapes.sorted_perm _).length_eq, List.length_map, Array.length_toList, hlen]
theorem Inv.ownInts {K : Ctx} {ι : Emb} {h : Heap} {w w' : World} (H : Inv K ι h w) {T : TypeId} {A cap : Nat} {l : List Int} (hA : w.heap.size ≤ A)
  (o : w'.ownsRow w.heap.size T 1 (.slice (some ⟨A, 0, none⟩) l.length cap) l.length (l.map (Value.int .i64))) (b : Below w.heap.size w w') :
  Inv K (ι.put h.next (A, 0, cap - l.length)) (h.new (.cells (l.map (.int .i64)) true (some 1))) w' ∧ l.length ≤ cap := by
 have hle := ι.le_put h.next (A, 0, cap - l.length) (H.fresh _ (Nat.le_refl _)).1
 obtain ⟨_, o⟩ := o
 rcases o with ⟨o, _⟩ | ⟨g, cap', cur, ev, hg, hc, hcap, _, hsz, ht⟩
 ·simp at o
 ·simp only [Value.slice.injEq, Option.some.injEq, Addr.mk.injEq] at ev
  obtain ⟨⟨rfl, _⟩, _, rfl⟩ := ev
  have hA' := (Array.getElem?_eq_some_iff.1 hc).1
  refine ⟨H.adopt (keeps_of_below b) _ hA hA' ⟨A, 0, cap - l.length, cur, T, 0, 0, Emb.put_same _ _ _, hc, fun j v hv => ?_, fun e => by simp at e, fun _ => ⟨fun hk => ?_, fun j hj => ?_⟩⟩, hcap⟩
  ·rw [List.getElem?_map] at hv
   cases hq : l[j]? with
   | none => rw [hq] at hv; simp at hv
   | some z =>
    rw [hq] at hv
    simp only [Option.map_some, Option.some.injEq] at hv
    subst hv
    refine ⟨rfl, .int .i64 z, ?_, .int _ _⟩
    have h2 : (l.map (Value.int .i64))[j]? = some (.int .i64 z) := by rw [List.getElem?_map, hq]; rfl
    rw [← ht, List.getElem?_take] at h2
    split at h2
    ·simpa using h2
    ·simp at h2
  ·have := H.hF _ hk; have := H.keep.size; omega
  ·simp at hj
   exact ⟨by omega, by omega⟩
theorem VRs.intsL {ι : Emb} : ∀ {l : List Int} {l' : List Value}, VRs ι (l.map (CVal.int .i64)) l' → l' = l.map (Value.int .i64)
 | [], _, .nil => rfl
 | n :: l, _, .cons _ _ _ _ h1 h2 => by
  cases h1
  rw [VRs.intsL h2]; rfl
def keysP (g : FuncId) : List CVal → Heap → Option (CVal × Heap)
 | [.map m], h => some (.func g [] [.ptr h.next 0], h.new (.kbox (.map m)))
 | _, _ => none
theorem keys_ok {P : Program} {glb : Gl} {f g : FuncId} (hb : HasBody P f) {T : TypeId}
  (C : ∀ (b : Nat) (w : World), Calls P f #[.map (some b)] w fun e w' => e = .returned (.func (.func g) #[] #[.pointer (some ⟨w.heap.size, 0, none⟩)]) ∧ w' = w.alloc (.cells #[.map (some b)] T)) : PrimOk P glb f (keysP g) := by
 refine ⟨hb, fun K ι h w args args' v h' hk H R ev => ?_⟩
 obtain ⟨l'⟩ := args'
 simp only at R
 subst hk
 unfold keysP at ev
 split at ev
 ·next m =>
  simp only [Option.some.injEq, Prod.mk.injEq] at ev
  obtain ⟨rfl, rfl⟩ := ev
  cases R with
  | cons _ _ x' r' r1 r2 =>
   cases r2
   cases r1 with
   | map _ bm βm em hm =>
    have hfr := (H.fresh h.next (Nat.le_refl _)).1
    have hle := ι.le_put h.next (w.heap.size, 0, 0) hfr
    refine (C bm w).mono ?_
    rintro e w' ⟨he, rfl⟩
    refine ⟨_, _, hle, he, H.new (.kbox (.map m)) (.cells #[.map (some bm)] T) 0 w.drawn ⟨w.heap.size, 0, .map (some bm), #[.map (some bm)], T, (0, 0), Emb.put_same _ _ _, by simp, rfl, .map _ _ _ _ (hle _ _ hm)⟩, ?_⟩
    refine .func _ _ _ _ _ .nil (.cons _ _ _ _ ?_ .nil)
    exact .ptr h.next 0 w.heap.size 0 0 (Emb.put_same _ _ _)
 ·simp at ev
theorem sorted_ok {P : Program} {glb : Gl} {f g : FuncId} (hb : HasBody P f) {T : TypeId}
  (C : ∀ (A b clock : Nat) (E : Array MapEntry) (ks : List Int) (w : World), w.cell? ⟨A, 0, none⟩ = some (.map (some b)) → w.heap[b]? = some (.map E clock) → E.toList.map (·.key) = ks.map (.int .i64) →
   (∀ n ∈ ks, -9223372036854775808 ≤ n ∧ n ≤ 9223372036854775807) → ks.Nodup → (E.toList.map (·.born)).Nodup → (∀ x ∈ E.toList, x.born < clock) → ks.length ≤ 1000000 →
   Calls P f #[.func (.func g) #[] #[.pointer (some ⟨A, 0, none⟩)]] w fun e w' => ∃ v, e = .returned v ∧ w'.ownsRow w.heap.size T 1 v ks.length ((isort ks).map (Value.int .i64)) ∧ (v = .slice none 0 0 ↔ ks = []) ∧ Below w.heap.size w w') : PrimOk P glb f (sortedP g) := by
 refine ⟨hb, fun K ι h w args args' v h' hk H R ev => ?_⟩
 obtain ⟨l'⟩ := args'
 simp only at R
 subst hk
 unfold sortedP at ev
 split at ev
 ·next f' i =>
  split at ev
  ·next hf =>
   subst hf
   split at ev
   ·next m hgi =>
    split at ev
    ·next es wr bs c hgm =>
     split at ev
     ·next ks hks =>
      split at ev
      ·next hg =>
       obtain ⟨hst, hnd⟩ := hg
       obtain ⟨q1, q2, q3, q4⟩ := stOk_iff.1 hst
       obtain ⟨k1, k2⟩ := intKeysC_some hks
       cases R with
       | cons _ _ x' r' r1 r2 =>
        cases r2
        cases r1 with
        | func f₁ p₁ c₁ p₂ c₂ rp rc =>
         obtain ⟨p₂⟩ := p₂
         obtain ⟨c₂⟩ := c₂
         simp only at rp rc
         cases rp
         cases rc with
         | cons _ _ x2 r3 r4 r5 =>
          cases r5
          cases r4 with
          | ptr i₁ o₁ b₁ β₁ e₁ hi₁ =>
           obtain ⟨bA, eA, mv, CA, elA, fz, g1, g2, g4, g5⟩ := H.obj i _ hgi
           rw [hi₁] at g1
           simp only [Option.some.injEq, Prod.mk.injEq] at g1
           obtain ⟨rfl, rfl, rfl⟩ := g1
           cases g5 with
           | map _ bm βm em hm =>
            obtain ⟨bm', em', E, clock, g6, g7, g8, g9, _⟩ := H.obj m _ hgm
            rw [hm] at g6
            simp only [Option.some.injEq, Prod.mk.injEq] at g6
            obtain ⟨rfl, rfl, rfl⟩ := g6
            obtain ⟨g9, rfl⟩ := g9
            have keys : E.toList.map (·.key) = ks.map (Value.int .i64) := VRs.intsL (k1 ▸ g8.1)
            have hA : w.cell? ⟨b₁, 0, none⟩ = some (.map (some bm)) := by
             unfold World.cell?
             simp only [g2, Option.isSome_none, Bool.false_eq_true, if_false]
             exact g4
            refine (C b₁ bm clock E ks w hA g7 keys k2 hnd (by rw [g9]; exact q2) (fun x hx => q3 _ (by rw [← g9]; exact List.mem_map.2 ⟨x, hx, rfl⟩)) ?_).mono ?_
            ·have := congrArg List.length k1
             simp at this; omega
            ·rintro e w' ⟨v, he, ho, hnil, hbl⟩
             cases ks with
             | nil =>
              simp only [Option.some.injEq, Prod.mk.injEq] at ev
              obtain ⟨rfl, rfl⟩ := ev
              obtain rfl := hnil.2 rfl
              exact ⟨ι, _, Emb.le.refl _, he, H.later (keeps_of_below hbl), .nilSlice⟩
             | cons k₀ ks₀ =>
              simp only [Option.some.injEq, Prod.mk.injEq] at ev
              obtain ⟨rfl, rfl⟩ := ev
              have hne : v ≠ .slice none 0 0 := fun e1 => by simpa using hnil.1 e1
              have ho' := ho
              obtain ⟨_, ho⟩ := ho
              rcases ho with ⟨e1, _⟩ | ⟨A, cap, cur, rfl, hA', _⟩
              ·exact (hne e1).elim
              ·rw [← isort_length] at ho'
               obtain ⟨H', hcap⟩ := H.ownInts hA' ho' hbl
               refine ⟨_, _, ι.le_put h.next _ (H.fresh _ (Nat.le_refl _)).1, he, H', ?_⟩
               rw [isort_length] at hcap ⊢
               have := VR.slice (ι := ι.put h.next (A, 0, cap - (k₀ :: ks₀).length)) h.next 0 (k₀ :: ks₀).length (k₀ :: ks₀).length A 0 (cap - (k₀ :: ks₀).length) ⟨A, 0, none⟩ (Emb.put_same _ _ _) (.inl rfl) (Nat.le_refl _)
               rw [Nat.add_sub_cancel' hcap] at this
               exact this
      ·simp at ev
     ·simp at ev
    ·simp at ev
   ·simp at ev
  ·simp at ev
 ·simp at ev
def pairKeysC : List (CVal × CVal) → Option (List (Int × Int))
 | [] => some []
 | (.agg [.int .i64 p, .int .i64 q], .int .i64 _) :: es => match pairKeysC es with
  | some l => if (-9223372036854775808 ≤ p ∧ p ≤ 9223372036854775807) ∧ -9223372036854775808 ≤ q ∧ q ≤ 9223372036854775807 then some ((p, q) :: l) else none
  | none => none
 | _ => none
def isPid (pid : Int) : CVal → Bool
 | .agg [.int .i64 p, _] => p == pid
 | _ => false
def pdKey (pid : Int) : List Value → Bool
 | [.int .i64 p, _] => p == pid
 | _ => false
def pdPid (pid : Int) (x : MapEntry) : Bool := match x.key with
 | .agg cs => pdKey pid cs.toList
 | _ => false
def strikeC (pid : Int) (es : List (CVal × CVal)) (bs : List Nat) : List ((CVal × CVal) × Nat) := (es.zip bs).filter fun x => !isPid pid x.1.1
def delP (g : FuncId) : List CVal → Heap → Option (CVal × Heap)
 | [.map i, .func f [] [.ptr j o]], h => if f = g then match h.get j with
  | some (.cells vs _ _) => match vs[o]? with
   | some (.int .i64 pid) => match h.get i with
    | some (.map es true (some (bs, c))) => match pairKeysC es with
     | some ks => if stOk es bs c = true ∧ ks.Nodup then some (.un, h.set i (.map ((strikeC pid es bs).map (·.1)) true (some ((strikeC pid es bs).map (·.2), c)))) else none
     | none => none
    | _ => none
   | _ => none
  | _ => none
  else none
 | _, _ => none
def PairE (x : MapEntry) (k : Int × Int) : Prop := x.key = .agg #[.int .i64 k.1, .int .i64 k.2] ∧ ∃ n : Int, x.val = .int .i64 n
def PairsE : List MapEntry → List (Int × Int) → Prop
 | [], [] => True
 | x :: E, k :: ks => PairE x k ∧ PairsE E ks
 | _, _ => False
theorem PairsE.get : ∀ {E : List MapEntry} {ks : List (Int × Int)}, PairsE E ks → E.map (·.key) = ks.map (fun k => Value.agg #[.int .i64 k.1, .int .i64 k.2]) ∧ ∀ x ∈ E, ∃ k ∈ ks, PairE x k
 | [], [], _ => ⟨rfl, fun x m => by simp at m⟩
 | x :: E, k :: ks, h => by
  obtain ⟨h1, h2⟩ := h
  obtain ⟨e1, e2⟩ := PairsE.get h2
  refine ⟨by rw [List.map_cons, List.map_cons, e1, h1.1], fun y hy => ?_⟩
  rcases List.mem_cons.1 hy with rfl | hy
  ·exact ⟨k, List.mem_cons_self .., h1⟩
  ·obtain ⟨k', m, h⟩ := e2 y hy
   exact ⟨k', List.mem_cons_of_mem _ m, h⟩
theorem pairs_rel {ι : Emb} {pid : Int} : ∀ {es : List (CVal × CVal)} {E : List MapEntry} {bs : List Nat} {ks : List (Int × Int)}, pairKeysC es = some ks → EsR ι es E → E.map (·.born) = bs →
  PairsE E ks ∧ (∀ k ∈ ks, (-9223372036854775808 ≤ k.1 ∧ k.1 ≤ 9223372036854775807) ∧ -9223372036854775808 ≤ k.2 ∧ k.2 ≤ 9223372036854775807) ∧
  EsR ι ((strikeC pid es bs).map (·.1)) (E.filter fun x => !pdPid pid x) ∧ (E.filter fun x => !pdPid pid x).map (·.born) = (strikeC pid es bs).map (·.2)
 | [], E, bs, ks, h, R, hb => by
  obtain rfl := R.nil_inv
  subst hb
  simp only [pairKeysC, Option.some.injEq] at h
  subst h
  exact ⟨trivial, fun k m => by simp at m, ⟨.nil, .nil⟩, rfl⟩
 | e :: es, E, bs, ks, h, R, hb => by
  obtain ⟨x, xs, rfl, r1, r2, r3⟩ := R.cons_inv
  subst hb
  unfold pairKeysC at h
  split at h
  ·next heq => simp at heq
  ·next p q n es' heq =>
   simp only [List.cons.injEq] at heq
   obtain ⟨rfl, rfl⟩ := heq
   split at h
   ·next l hl =>
    split at h
    ·next hr =>
     simp only [Option.some.injEq] at h
     subst h
     obtain ⟨i1, i2, i3, i4⟩ := pairs_rel (pid := pid) hl r3 rfl
     have ek : x.key = .agg #[.int .i64 p, .int .i64 q] := by
      generalize x.key = k at r1
      cases r1 with
      | agg _ cs' rr =>
       obtain ⟨l⟩ := cs'
       simp only at rr
       cases rr with
       | cons _ _ _ _ a b =>
        cases a
        cases b with
        | cons _ _ _ _ a b => cases a; cases b; rfl
     have ev : x.val = .int .i64 n := by
      generalize x.val = k at r2
      cases r2; rfl
     have ep : pdPid pid x = (p == pid) := by unfold pdPid; rw [ek]; rfl
     have ec : isPid pid (.agg [.int .i64 p, .int .i64 q]) = (p == pid) := rfl
     refine ⟨⟨⟨ek, n, ev⟩, i1⟩, fun k hk => ?_, ?_⟩
     ·rcases List.mem_cons.1 hk with rfl | hk
      ·exact hr
      ·exact i2 k hk
     ·have es : strikeC pid ((.agg [.int .i64 p, .int .i64 q], .int .i64 n) :: es) ((x :: xs).map (·.born)) = if (p == pid) = true then strikeC pid es (xs.map (·.born)) else ((.agg [.int .i64 p, .int .i64 q], .int .i64 n), x.born) :: strikeC pid es (xs.map (·.born)) := by
       simp only [strikeC, List.map_cons, List.zip_cons_cons, List.filter_cons, ec]
       cases p == pid <;> rfl
      rw [es, List.filter_cons, ep]
      cases hp : p == pid
      ·simp only [Bool.not_false, if_true, Bool.false_eq_true, if_false, List.map_cons]
       exact ⟨⟨.cons _ _ _ _ r1 i3.1, .cons _ _ _ _ r2 i3.2⟩, by rw [i4]⟩
      ·simp only [Bool.not_true, Bool.false_eq_true, if_false, if_true]
       exact ⟨i3, i4⟩
    ·simp at h
   ·simp at h
  ·simp at h
theorem Inv.struck {K : Ctx} {ι : Emb} {h : Heap} {w w' : World} (H : Inv K ι h w) {i : Nat} {es es' : List (CVal × CVal)} {st : Option (List Nat × Nat)} {bs' : List Nat} {clock : Nat} (hget : h.get i = some (.map es true st)) {b ex : Nat} (hi : ι i = some (b, 0, ex)) {E' : Array MapEntry}
  (hb : w'.heap[b]? = some (.map E' clock)) (R : EsR ι es' E'.toList) (hbs : E'.toList.map (·.born) = bs') (hg : w.grownBy w' (some b)) : Inv K ι (h.set i (.map es' true (some (bs', clock)))) w' := by
 obtain ⟨b1, e1, E, c, h1, h2, h3, hst, h4⟩ := H.obj i _ hget
 rw [hi] at h1; simp at h1; obtain ⟨rfl, rfl⟩ := h1
 have hlt := (Array.getElem?_eq_some_iff.1 h2).1
 have hlt' := (Array.getElem?_eq_some_iff.1 hb).1
 have H1 : Inv K ι h { w' with heap := w'.heap.setIfInBounds b (.map E c) } := H.later ⟨hg.os, hg.tape, hg.output, by simp; exact hg.size, fun k hk => by
  show (w'.heap.setIfInBounds b (.map E c))[k]? = _
  by_cases e : b = k
  ·subst e; simp [hlt', h2]
  ·rw [Array.getElem?_setIfInBounds_ne e]
   exact hg.block k hk (fun e' => e (by simpa using e'.symm))⟩
 refine H1.turn (o' := .map es' true (some (bs', clock))) hget rfl hi w' rfl rfl rfl (by simp) (fun k hk => ?_) ⟨b, ex, E', clock, hi, hb, R, ⟨hbs, rfl⟩, fun hw => h4 hw⟩
 show _ = (w'.heap.setIfInBounds b (.map E c))[k]?
 rw [Array.getElem?_setIfInBounds_ne (Ne.symm hk)]
theorem del_ok {P : Program} {glb : Gl} {f g : FuncId} (hb : HasBody P f)
  (C : ∀ (b clock bx o : Nat) (pid : Int) (E : Array MapEntry) (ks : List (Int × Int)) (w : World), w.heap[b]? = some (.map E clock) → PairsE E.toList ks → (∀ k ∈ ks, (-9223372036854775808 ≤ k.1 ∧ k.1 ≤ 9223372036854775807) ∧ -9223372036854775808 ≤ k.2 ∧ k.2 ≤ 9223372036854775807) → ks.Nodup →
   (E.toList.map (·.born)).Nodup → (∀ x ∈ E.toList, x.born < clock) → E.size ≤ 1000000 → w.cell? ⟨bx, o, none⟩ = some (.int .i64 pid) → bx ≠ b →
   Calls P f #[.map (some b), .func (.func g) #[] #[.pointer (some ⟨bx, o, none⟩)]] w fun e w' => e = .returned (.tuple #[]) ∧ ∃ E' : Array MapEntry, w'.heap[b]? = some (.map E' clock) ∧ E'.toList = E.toList.filter (fun x => !pdPid pid x) ∧ w.grownBy w' (some b)) : PrimOk P glb f (delP g) := by
 refine ⟨hb, fun K ι h w args args' v h' hk H R ev => ?_⟩
 obtain ⟨l'⟩ := args'
 simp only at R
 subst hk
 unfold delP at ev
 split at ev
 ·next i f' j o =>
  split at ev
  ·next hf =>
   subst hf
   split at ev
   ·next vs wr opn hgj =>
    split at ev
    ·next pid hvo =>
     split at ev
     ·next es bs c hgi =>
      split at ev
      ·next ks hks =>
       split at ev
       ·next hg =>
        simp only [Option.some.injEq, Prod.mk.injEq] at ev
        obtain ⟨rfl, rfl⟩ := ev
        obtain ⟨hst, hnd⟩ := hg
        obtain ⟨q1, q2, q3, q4⟩ := stOk_iff.1 hst
        cases R with
        | cons _ _ x1 r1 a1 a2 =>
         cases a2 with
         | cons _ _ x2 r2 a3 a4 =>
          cases a4
          cases a1 with
          | map _ bm βm em hm =>
           cases a3 with
           | func f₁ p₁ c₁ p₂ c₂ rp rc =>
            obtain ⟨p₂⟩ := p₂
            obtain ⟨c₂⟩ := c₂
            simp only at rp rc
            cases rp
            cases rc with
            | cons _ _ x3 r3 r4 r5 =>
             cases r5
             cases r4 with
             | ptr i₁ o₁ b₁ β₁ e₁ hi₁ =>
              obtain ⟨bj, βj, ej, Cj, elj, lo, hi, g1, g2, g3, _, _⟩ := H.obj j _ hgj
              rw [hi₁] at g1
              simp only [Option.some.injEq, Prod.mk.injEq] at g1
              obtain ⟨rfl, rfl, rfl⟩ := g1
              obtain ⟨_, pv, g4, g5⟩ := g3 o (.int .i64 pid) hvo
              cases g5
              obtain ⟨bm', em', E, clock, g6, g7, g8, g9, _⟩ := H.obj i _ hgi
              rw [hm] at g6
              simp only [Option.some.injEq, Prod.mk.injEq] at g6
              obtain ⟨rfl, rfl, rfl⟩ := g6
              obtain ⟨g9, rfl⟩ := g9
              obtain ⟨k1, k2, k3, k4⟩ := pairs_rel (pid := pid) hks g8 g9
              have hcell : w.cell? ⟨b₁, β₁ + o, none⟩ = some (.int .i64 pid) := by
               unfold World.cell?
               simp only [g2, Option.isSome_none, Bool.false_eq_true, if_false]
               exact g4
              have hne : b₁ ≠ bm := fun e => by rw [e, g7] at g2; simp at g2
              have hsz : E.size ≤ 1000000 := by
               have := congrArg List.length g9
               simp at this; omega
              refine (C bm clock b₁ (β₁ + o) pid E ks w g7 k1 k2 hnd (by rw [g9]; exact q2) (fun x hx => q3 _ (by rw [← g9]; exact List.mem_map.2 ⟨x, hx, rfl⟩)) hsz hcell hne).mono ?_
              rintro e w' ⟨he, E', hE1, hE2, hgr⟩
              exact ⟨ι, _, Emb.le.refl _, he, H.struck hgi hm hE1 (by rw [hE2]; exact k3) (by rw [hE2]; exact k4) hgr, .tuple _ _ .nil⟩
       ·simp at ev
      ·simp at ev
     ·simp at ev
    ·simp at ev
   ·simp at ev
  ·simp at ev
 ·simp at ev
end Go.Proofs.YtkjdgdkkepmciaaGreat.Cm
namespace Go.Proofs.YtkjdgdkkepmciaaGreat.Cm
open Go.RowKit
structure KeyE {α : Type} [DecidableEq α] (kt : KT) (f : α → CVal) : Prop where
 eq : ∀ a b, keyeq kt (f a) (f b) = some (decide (a = b))
 ok : ∀ a, keyok kt (f a) = true
def keyI (n : Int) : CVal := .int .i64 n
def keyP (p : Int × Int) : CVal := .agg [.int .i64 p.1, .int .i64 p.2]
section
variable {α : Type} [DecidableEq α] {kt : KT} {f : α → CVal}
def mapE (f : α → CVal) (L : List (α × CVal)) : List (CVal × CVal) := L.map fun x => (f x.1, x.2)
def findA (x : α) : List (α × CVal) → Nat → Option (Nat × CVal)
 | [], _ => none
 | e :: L, n => if x = e.1 then some (n, e.2) else findA x L (n + 1)
def lookA (x : α) (L : List (α × CVal)) : Option CVal := (findA x L 0).map (·.2)
def setA (x : α) (z : CVal) (L : List (α × CVal)) : List (α × CVal) := match findA x L 0 with
 | some q => L.set q.1 (x, z)
 | none => L ++ [(x, z)]
def stSet (x : α) (L : List (α × CVal)) (st : Option (List Nat × Nat)) : Option (List Nat × Nat) := match findA x L 0 with
 | .some _ => st
 | .none => stPush st
structure StOk (st : Option (List Nat × Nat)) (n : Nat) : Prop where
 ok : ∃ bs c, st = .some (bs, c) ∧ bs.length = n ∧ bs.Nodup ∧ ∀ b ∈ bs, b < c
end
def growP : List CVal → Heap → Option (CVal × Heap)
 | [.nilSlice, .int .i64 n], h => if n = 0 then some (.nilSlice, h) else if 0 < n ∧ n ≤ 1000000000 then some (.slice h.next 0 0 0, h.new (.cells [] true (some 1))) else none
 | _, _ => none
theorem grow_ok {P : Program} {glb : Gl} {f : FuncId} {T : TypeId} (hb : HasBody P f)
  (C0 : ∀ w : World, Calls P f #[.slice none 0 0, .int .i64 0] w fun e w' => e = .returned (.slice none 0 0) ∧ w' = w)
  (C : ∀ (n : Nat) (w : World), 0 < n → n ≤ 1000000000 → Calls P f #[.slice none 0 0, .int .i64 n] w fun e w' => ∃ (cap : Nat) (cs : Array Value), cs.size = cap ∧ e = .returned (.slice (some ⟨w.heap.size, 0, none⟩) 0 cap) ∧ ∃ d, w' = ({ w with drawn := d } : World).alloc (.cells cs T)) : PrimOk P glb f growP := by
 refine ⟨hb, fun K ι h w args args' v h' hk H R ev => ?_⟩
 obtain ⟨l'⟩ := args'
 simp only at R
 subst hk
 unfold growP at ev
 split at ev
 ·next n =>
  cases R with
  | cons _ _ x1 r1 a1 a2 =>
   cases a2 with
   | cons _ _ x2 r2 a3 a4 =>
    cases a4; cases a1; cases a3
    split at ev
    ·next h0 =>
     subst h0
     simp only [Option.some.injEq, Prod.mk.injEq] at ev
     obtain ⟨rfl, rfl⟩ := ev
     refine (C0 w).mono ?_
     rintro e w' ⟨he, rfl⟩
     exact ⟨ι, _, Emb.le.refl _, he, H, .nilSlice⟩
    ·split at ev
     ·next hn =>
      simp only [Option.some.injEq, Prod.mk.injEq] at ev
      obtain ⟨rfl, rfl⟩ := ev
      obtain ⟨m, rfl⟩ : ∃ m : Nat, n = (m : Int) := ⟨n.toNat, by omega⟩
      refine (C m w (by omega) (by omega)).mono ?_
      rintro e w' ⟨cap, cs, hcs, he, d, rfl⟩
      have hle := ι.le_put h.next (w.heap.size, 0, cap) (H.fresh _ (Nat.le_refl _)).1
      refine ⟨_, _, hle, he, H.new (.cells [] true (some 1)) (.cells cs T) cap d ⟨w.heap.size, 0, cap, cs, T, 0, 0, Emb.put_same _ _ _, by simp, fun j v hv => by simp at hv, fun e => by simp at e, fun _ => ⟨fun hF => by have := H.hF _ hF; have := H.keep.size; omega, fun j hj => ?_⟩⟩, ?_⟩
      ·simp at hj; exact ⟨by omega, by omega⟩
      ·have := VR.slice (ι := ι.put h.next (w.heap.size, 0, cap)) h.next 0 0 0 w.heap.size 0 cap ⟨w.heap.size, 0, none⟩ (Emb.put_same _ _ _) (.inl rfl) (Nat.le_refl _)
       rw [Nat.zero_add] at this
       exact this
     ·simp at ev
 ·simp at ev
end Go.Proofs.YtkjdgdkkepmciaaGreat.Cm
