/-
  The clean machine, part B: the invariant between the clean heap and the model's world; its steps: a new block, a store, a map's new entries.
-/
import Derived.Test.YtmppoknfekdbbaaDoorCmXA
namespace Go.Proofs.YtmppoknfekdbbaaDoor.Cm
open Go.RowKit

def CellsR (ι : Emb) (vs : List CVal) (C : Array Value) (β : Nat) : Prop :=
  ∀ (j : Nat) (v : CVal), vs[j]? = some v → v.one = true ∧ ∃ v', C[β + j]? = some v' ∧ VR ι v v'

/-- A map's entries: key by key, in the order in which they came. -/
def EsR (ι : Emb) (es : List (CVal × CVal)) (E : List MapEntry) : Prop :=
  VRs ι (es.map (·.1)) (E.map (·.key)) ∧ VRs ι (es.map (·.2)) (E.map (·.val))

def CObj.wr : CObj → Bool
  | .cells _ wr _ => wr
  | .map _ wr => wr
  | .iter .. => true

/-- How many package variables there are; what is known of them in each world in which they stand as they were. -/
structure Gl where
  n : Nat
  fact : World → Prop

/-- What a run must leave as it was: the blocks of F, as w₀ had them. The package variables' ids below 'glb' stand for the blocks of those numbers.
    No object lies in a block of G; at the ids of N no object stands; the ids of U stand for nothing. -/
structure Ctx where
  w₀ : World
  F : Nat → Prop
  glb : Gl
  G : Nat → Prop
  N : Nat → Prop
  U : Nat → Prop

structure Keeps (F : Nat → Prop) (w w' : World) : Prop where
  os : w'.os = w.os
  tape : w'.tape = w.tape
  output : w'.output = w.output
  size : w.heap.size ≤ w'.heap.size
  block : ∀ k, F k → w'.heap[k]? = w.heap[k]?

theorem Keeps.over {F F' : Nat → Prop} {w₀ w w' : World} (a : Keeps F w₀ w) (b : Keeps F' w w') (h : ∀ k, F k → F' k) : Keeps F w₀ w' :=
  ⟨b.os.trans a.os, b.tape.trans a.tape, b.output.trans a.output, Nat.le_trans a.size b.size, fun k hk => (b.block k (h k hk)).trans (a.block k hk)⟩

def ObjR (ι : Emb) (w : World) (F : Nat → Prop) (i : Nat) : CObj → Prop
  | .cells vs wr opn => ∃ (b β e : Nat) (C : Array Value) (el : TypeId) (lo hi : Nat), ι i = some (b, β, e) ∧ w.heap[b]? = some (.cells C el (lo, hi)) ∧ CellsR ι vs C β ∧
      (opn = none → e = 0) ∧ (wr = true → ¬ F b ∧ ∀ j, j < vs.length + e * opn.getD 0 → β + j < C.size ∧ ¬ (lo ≤ β + j ∧ β + j < hi))
  | .map es wr => ∃ (b e : Nat) (E : Array MapEntry) (clock : Nat), ι i = some (b, 0, e) ∧ w.heap[b]? = some (.map E clock) ∧ EsR ι es E.toList ∧ (wr = true → ¬ F b)
  | .iter s pos => ∃ (b e : Nat) (s' : ByteArray), ι i = some (b, 0, e) ∧ w.heap[b]? = some (.stringIter s' pos) ∧ s'.data.toList = s ∧ ¬ F b

theorem CellsR.mono {ι ι' : Emb} (hι : ι.le ι') {vs : List CVal} {C : Array Value} {β : Nat} (h : CellsR ι vs C β) : CellsR ι' vs C β := fun j v e =>
  let ⟨h1, v', h2, h3⟩ := h j v e; ⟨h1, v', h2, h3.mono hι⟩

theorem EsR.mono {ι ι' : Emb} (hι : ι.le ι') {es : List (CVal × CVal)} {E : List MapEntry} (h : EsR ι es E) : EsR ι' es E := ⟨h.1.mono hι, h.2.mono hι⟩

theorem ObjR.mono {ι ι' : Emb} {w w' : World} {F : Nat → Prop} {i : Nat} {o : CObj} (hι : ι.le ι') (hw : ∀ b β e, ι i = some (b, β, e) → w'.heap[b]? = w.heap[b]?) (h : ObjR ι w F i o) : ObjR ι' w' F i o := by
  cases o with
  | cells vs wr opn =>
    obtain ⟨b, β, e, C, el, lo, hi, h1, h2, h3, h4, h5⟩ := h
    exact ⟨b, β, e, C, el, lo, hi, hι _ _ h1, (hw _ _ _ h1).trans h2, h3.mono hι, h4, h5⟩
  | map es wr =>
    obtain ⟨b, e, E, c, h1, h2, h3, h4⟩ := h
    exact ⟨b, e, E, c, hι _ _ h1, (hw _ _ _ h1).trans h2, h3.mono hι, h4⟩
  | iter s pos =>
    obtain ⟨b, e, s', h1, h2, h3⟩ := h
    exact ⟨b, e, s', hι _ _ h1, (hw _ _ _ h1).trans h2, h3⟩

theorem ObjR.blk {ι : Emb} {w : World} {F : Nat → Prop} {i : Nat} {o : CObj} (h : ObjR ι w F i o) : ∃ b β e, ι i = some (b, β, e) ∧ b < w.heap.size ∧ (o.wr = true → ¬ F b) := by
  cases o with
  | cells vs wr opn =>
    obtain ⟨b, β, e, C, el, lo, hi, h1, h2, h3, h4, h5⟩ := h
    exact ⟨b, β, e, h1, (Array.getElem?_eq_some_iff.1 h2).1, fun hw => (h5 hw).1⟩
  | map es wr =>
    obtain ⟨b, e, E, c, h1, h2, h3, h4⟩ := h
    exact ⟨b, 0, e, h1, (Array.getElem?_eq_some_iff.1 h2).1, h4⟩
  | iter s pos =>
    obtain ⟨b, e, s', h1, h2, h3, h4⟩ := h
    exact ⟨b, 0, e, h1, (Array.getElem?_eq_some_iff.1 h2).1, fun _ => h4⟩

/-- How the clean heap lies in the world. -/
structure Inv (K : Ctx) (ι : Emb) (h : Heap) (w : World) : Prop where
  hF : ∀ k, K.F k → k < K.w₀.heap.size
  keep : Keeps K.F K.w₀ w
  glob : ∀ g, g < K.glb.n → ι g = some (g, 0, 0)
  obj : ∀ (i : Nat) (o : CObj), h.get i = some o → ObjR ι w K.F i o
  excl : ∀ (i j : Nat) (oi oj : CObj) (b β e b' β' e' : Nat), i ≠ j → h.get i = some oi → h.get j = some oj → oi.wr = true → ι i = some (b, β, e) → ι j = some (b', β', e') → b ≠ b'
  fresh : ∀ i, h.next ≤ i → ι i = none ∧ h.get i = none
  inb : ∀ (i b β e : Nat), ι i = some (b, β, e) → b < w.heap.size
  hG : (∀ b, K.G b → K.F b) ∧ ∀ w', Keeps K.F K.w₀ w' → K.glb.fact w'
  hid : ∀ (i : Nat) (o : CObj) (b β e : Nat), h.get i = some o → ι i = some (b, β, e) → ¬ K.G b
  nev : ∀ i, K.N i → i < h.next ∧ h.get i = none
  nul : ∀ i, K.U i → i < h.next ∧ ι i = none

def Emb.put (ι : Emb) (i : Nat) (x : Nat × Nat × Nat) : Emb := fun j => if j = i then some x else ι j
theorem Emb.put_same (ι : Emb) (i : Nat) (x : Nat × Nat × Nat) : ι.put i x i = some x := by simp [Emb.put]
theorem Emb.put_ne (ι : Emb) (i : Nat) (x : Nat × Nat × Nat) (j : Nat) (h : j ≠ i) : ι.put i x j = ι j := by simp [Emb.put, h]
theorem Emb.le_put (ι : Emb) (i : Nat) (x : Nat × Nat × Nat) (h : ι i = none) : ι.le (ι.put i x) := fun j y e => by
  by_cases hj : j = i
  · subst hj; rw [h] at e; simp at e
  · rw [Emb.put_ne _ _ _ _ hj]; exact e

section
variable {K : Ctx} {ι : Emb} {h : Heap} {w : World}

theorem Inv.base (H : Inv K ι h w) : K.w₀.heap.size ≤ w.heap.size := H.keep.size

/-- The world's count of draws does not matter. -/
theorem Inv.drawn (H : Inv K ι h w) (n : Nat) : Inv K ι h { w with drawn := n } :=
  ⟨H.hF, ⟨H.keep.os, H.keep.tape, H.keep.output, H.keep.size, H.keep.block⟩, H.glob, fun i o e => (H.obj i o e).mono (Emb.le.refl _) (fun _ _ _ _ => rfl), H.excl, H.fresh, H.inb, H.hG, H.hid, H.nev, H.nul⟩

/-- A new block. -/
theorem Inv.new (H : Inv K ι h w) (o : CObj) (O : Obj) (e : Nat) (n : Nat)
    (ho : ObjR (ι.put h.next (w.heap.size, 0, e)) { w with heap := w.heap.push O, drawn := n } K.F h.next o) :
    Inv K (ι.put h.next (w.heap.size, 0, e)) (h.new o) { w with heap := w.heap.push O, drawn := n } := by
  have hfr := (H.fresh h.next (Nat.le_refl _)).1
  have hle := ι.le_put h.next (w.heap.size, 0, e) hfr
  have hold : ∀ b, b < w.heap.size → (w.heap.push O)[b]? = w.heap[b]? := fun b hb => by rw [Array.getElem?_push, if_neg (by omega)]
  refine ⟨H.hF, ⟨H.keep.os, H.keep.tape, H.keep.output, by have := H.keep.size; simp; omega, fun k hk => ?_⟩, fun g hg => hle _ _ (H.glob g hg), ?_, ?_, ?_, ?_, H.hG, ?_, fun i hi => ?_, fun i hi => ?_⟩
  · show (w.heap.push O)[k]? = _
    have := H.keep.size
    have := H.hF k hk
    rw [hold k (by omega)]; exact H.keep.block k hk
  · intro i oi hi
    rw [Heap.get_new] at hi
    by_cases e1 : i = h.next
    · subst e1; simp at hi; subst hi; exact ho
    · rw [if_neg e1] at hi
      exact (H.obj i oi hi).mono hle fun b β e2 he => hold b (H.inb _ _ _ _ he)
  · intro i j oi oj b β e1 b' β' e2 hne hi hj hw hbi hbj
    rw [Heap.get_new] at hi hj
    by_cases i1 : i = h.next
    · subst i1
      rw [Emb.put_same] at hbi; simp at hbi
      rw [Emb.put_ne _ _ _ _ (Ne.symm hne)] at hbj
      have := H.inb _ _ _ _ hbj
      omega
    · by_cases j1 : j = h.next
      · subst j1
        rw [Emb.put_same] at hbj; simp at hbj
        rw [Emb.put_ne _ _ _ _ hne] at hbi
        have := H.inb _ _ _ _ hbi
        omega
      · rw [if_neg i1] at hi; rw [if_neg j1] at hj
        rw [Emb.put_ne _ _ _ _ i1] at hbi; rw [Emb.put_ne _ _ _ _ j1] at hbj
        exact H.excl i j oi oj b β e1 b' β' e2 hne hi hj hw hbi hbj
  · intro i hi
    simp at hi
    rw [Emb.put_ne _ _ _ _ (by omega), Heap.get_new_ne _ _ _ (by omega)]
    exact H.fresh i (by omega)
  · intro i b β e1 hb
    simp
    by_cases i1 : i = h.next
    · subst i1; rw [Emb.put_same] at hb; simp at hb; omega
    · rw [Emb.put_ne _ _ _ _ i1] at hb; have := H.inb _ _ _ _ hb; omega
  · intro i oi b β e1 hi hb hg
    rw [Heap.get_new] at hi
    by_cases i1 : i = h.next
    · subst i1
      rw [Emb.put_same] at hb; simp at hb
      have := H.hF _ (H.hG.1 _ hg); have := H.keep.size; omega
    · rw [if_neg i1] at hi; rw [Emb.put_ne _ _ _ _ i1] at hb
      exact H.hid i oi b β e1 hi hb hg
  · obtain ⟨h1, h2⟩ := H.nev i hi
    exact ⟨by simp; omega, by rw [Heap.get_new_ne _ _ _ (by omega)]; exact h2⟩
  · obtain ⟨h1, h2⟩ := H.nul i hi
    exact ⟨by simp; omega, by rw [Emb.put_ne _ _ _ _ (by omega)]; exact h2⟩

/-- One block is turned, and the one object that lies in it. -/
theorem Inv.turn (H : Inv K ι h w) {i : Nat} {o o' : CObj} (hi : h.get i = some o) (hw : o.wr = true) {b β e : Nat} (hb : ι i = some (b, β, e)) (w' : World)
    (hos : w'.os = w.os) (ht : w'.tape = w.tape) (hout : w'.output = w.output) (hsz : w'.heap.size = w.heap.size)
    (hblk : ∀ k, k ≠ b → w'.heap[k]? = w.heap[k]?) (ho : ObjR ι w' K.F i o') : Inv K ι (h.set i o') w' := by
  have hB : ¬ K.F b := by
    obtain ⟨b1, β1, e1, h1, _, h2⟩ := (H.obj i o hi).blk
    rw [hb] at h1; simp at h1; obtain ⟨rfl, _, _⟩ := h1; exact h2 hw
  refine ⟨H.hF, ⟨hos.trans H.keep.os, ht.trans H.keep.tape, hout.trans H.keep.output, by rw [hsz]; exact H.keep.size, fun k hk => by rw [hblk k (fun e1 => hB (e1 ▸ hk))]; exact H.keep.block k hk⟩, H.glob, ?_, ?_, ?_, ?_, H.hG, ?_, fun j hj => ?_, H.nul⟩
  · intro j oj hj
    rw [Heap.get_set] at hj
    by_cases e1 : j = i
    · subst e1; simp at hj; subst hj; exact ho
    · rw [if_neg e1] at hj
      refine (H.obj j oj hj).mono (Emb.le.refl _) fun b' β' e' hb' => hblk b' fun e2 => ?_
      exact H.excl i j o oj b β e b' β' e' (Ne.symm e1) hi hj hw hb hb' e2.symm
  · intro j k oj ok b1 β1 e1 b2 β2 e2 hne hj hk hwj hb1 hb2
    rw [Heap.get_set] at hj hk
    by_cases j1 : j = i
    · subst j1
      rw [if_neg (Ne.symm hne)] at hk
      exact H.excl j k o ok b1 β1 e1 b2 β2 e2 hne hi hk hw hb1 hb2
    · rw [if_neg j1] at hj
      by_cases k1 : k = i
      · subst k1
        exact H.excl j k oj o b1 β1 e1 b2 β2 e2 hne hj hi hwj hb1 hb2
      · rw [if_neg k1] at hk
        exact H.excl j k oj ok b1 β1 e1 b2 β2 e2 hne hj hk hwj hb1 hb2
  · intro j hj
    have hn := H.fresh j hj
    refine ⟨hn.1, ?_⟩
    rw [Heap.get_set_ne _ _ _ _ (fun e1 => by subst e1; rw [hn.2] at hi; simp at hi)]
    exact hn.2
  · intro j b1 β1 e1 hb1
    rw [hsz]; exact H.inb _ _ _ _ hb1
  · intro j oj b1 β1 e1 hj hb1
    rw [Heap.get_set] at hj
    by_cases j1 : j = i
    · subst j1; exact H.hid j o b1 β1 e1 hi hb1
    · rw [if_neg j1] at hj; exact H.hid j oj b1 β1 e1 hj hb1
  · obtain ⟨h1, h2⟩ := H.nev j hj
    refine ⟨h1, ?_⟩
    rw [Heap.get_set_ne _ _ _ _ (fun e1 => by subst e1; rw [h2] at hi; simp at hi)]
    exact h2

theorem Inv.kill (H : Inv K ι h w) (i : Nat) : Inv K ι (h.kill i) w := by
  refine ⟨H.hF, H.keep, H.glob, fun j o hj => ?_, fun j k oj ok b β e b' β' e' hne hj hk => ?_, fun j hj => ⟨(H.fresh j hj).1, ?_⟩, H.inb, H.hG, fun j oj b β e hj => ?_, fun j hj => ⟨(H.nev j hj).1, ?_⟩, H.nul⟩
  · rw [Heap.get_kill] at hj
    split at hj
    · simp at hj
    · exact H.obj j o hj
  · rw [Heap.get_kill] at hj hk
    split at hj
    · simp at hj
    · split at hk
      · simp at hk
      · exact H.excl j k oj ok b β e b' β' e' hne hj hk
  · rw [Heap.get_kill, (H.fresh j hj).2]; simp
  · rw [Heap.get_kill] at hj
    split at hj
    · simp at hj
    · exact H.hid j oj b β e hj
  · rw [Heap.get_kill, (H.nev j hj).2]; simp

/-! ### Cells -/

theorem Inv.cells (H : Inv K ι h w) {i : Nat} {vs : List CVal} {wr : Bool} {opn : Option Nat} (hi : h.get i = some (.cells vs wr opn)) {b β e : Nat} (hb : ι i = some (b, β, e)) :
    ∃ C el lo hi', w.heap[b]? = some (.cells C el (lo, hi')) ∧ CellsR ι vs C β ∧ (opn = none → e = 0) ∧
      (wr = true → ¬ K.F b ∧ ∀ j, j < vs.length + e * opn.getD 0 → β + j < C.size ∧ ¬ (lo ≤ β + j ∧ β + j < hi')) := by
  obtain ⟨b1, β1, e1, C, el, lo, hi', h1, h2, h3, h4, h5⟩ := H.obj i _ hi
  rw [hb] at h1; simp at h1; obtain ⟨rfl, rfl, rfl⟩ := h1
  exact ⟨C, el, lo, hi', h2, h3, h4, h5⟩

theorem cell?_of (w : World) {b o : Nat} {C : Array Value} {el : TypeId} {fr : Nat × Nat} (hb : w.heap[b]? = some (.cells C el fr)) : w.cell? ⟨b, o, none⟩ = C[o]? := by
  simp [World.cell?, hb]

theorem Inv.load (H : Inv K ι h w) {i o : Nat} {vs : List CVal} {wr : Bool} {opn : Option Nat} {v : CVal} (hi : h.get i = some (.cells vs wr opn)) (hv : vs[o]? = some v) {b β e : Nat} (hb : ι i = some (b, β, e)) :
    ∃ v', w.cell? ⟨b, β + o, none⟩ = some v' ∧ VR ι v v' := by
  obtain ⟨C, el, lo, hi', h1, h2, _, _⟩ := H.cells hi hb
  obtain ⟨_, v', h3, h4⟩ := h2 o v hv
  exact ⟨v', (cell?_of w h1).trans h3, h4⟩

theorem add_addr (b o n : Nat) : (⟨b, o, none⟩ : Addr).add n = ⟨b, o + n, none⟩ := by unfold Addr.add; split <;> simp_all

theorem run_load {P : Program} {w : World} {a : Addr} {v : Value} (hc : w.cell? a = some v) : (load a).run P w = .ok v w := by
  simp [Go.load, Sem.run, hc]

/-- A row of cells read. -/
theorem run_loadCells_of {P : Program} {w : World} (b : Nat) : ∀ (us : List Value) (o i : Nat) (acc : Array Value), (∀ (j : Nat) (u : Value), us[j]? = some u → w.cell? ⟨b, o + i + j, none⟩ = some u) →
    (loadCellsFrom ⟨b, o, none⟩ i us.length acc).run P w = .ok (acc ++ us.toArray) w
  | [], _, _, acc, _ => by simp [loadCellsFrom, Pure.pure]
  | u :: us, o, i, acc, hc => by
    have h0 : w.cell? ⟨b, o + i, none⟩ = some u := by simpa using hc 0 u rfl
    have ih := run_loadCells_of (P := P) b us o (i + 1) (acc.push u) (fun j x hx => by
      have := hc (j + 1) x (by simpa using hx)
      rw [show o + i + (j + 1) = o + (i + 1) + j from by omega] at this
      exact this)
    simp only [List.length_cons, loadCellsFrom, Sem.run_bind, add_addr, run_load h0, Result.andThen]
    rw [ih]
    simp

theorem Inv.loads (H : Inv K ι h w) {P : Program} {i o n : Nat} {vs us : List CVal} {wr : Bool} {opn : Option Nat} (hi : h.get i = some (.cells vs wr opn)) (hus : (vs.drop o).take n = us) (hn : us.length = n) {b β e : Nat} (hb : ι i = some (b, β, e)) :
    ∃ us' : Array Value, (∀ d, (loadCells ⟨b, β + o, none⟩ n).run P { w with drawn := d } = .ok us' { w with drawn := d }) ∧ VRs ι us us'.toList := by
  obtain ⟨C, el, lo, hi', h1, h2, _, _⟩ := H.cells hi hb
  subst hus
  have hl : n ≤ (vs.drop o).length := by simp at hn ⊢; omega
  refine ⟨((C.toList.drop (β + o)).take n).toArray, fun d => ?_, ?_⟩
  · have hlen : ((C.toList.drop (β + o)).take n).length = n := by
      have hCn : ∀ j, j < n → β + o + j < C.size := fun j hj => by
        have hlt : o + j < vs.length := by simp at hl; omega
        obtain ⟨_, v', h3, _⟩ := h2 (o + j) vs[o + j] (by simp [hlt])
        rw [show β + (o + j) = β + o + j from by omega] at h3
        exact (Array.getElem?_eq_some_iff.1 h3).1
      have : n = 0 ∨ β + o + (n - 1) < C.size := by
        by_cases h0 : n = 0
        · exact .inl h0
        · exact .inr (hCn (n - 1) (by omega))
      simp; omega
    have := run_loadCells_of (P := P) (w := { w with drawn := d }) b ((C.toList.drop (β + o)).take n) (β + o) 0 #[] (fun j u hu => by
      rw [cell?_of (C := C) (el := el) (fr := (lo, hi')) { w with drawn := d } h1]
      have hj : j < n := by
        have := (List.getElem?_eq_some_iff.1 hu).1
        omega
      rw [List.getElem?_take_of_lt hj, List.getElem?_drop] at hu
      simpa using hu)
    rw [hlen] at this
    simpa [loadCells] using this
  · refine VRs.of_get ?_ ?_
    · have hCn : n = 0 ∨ β + o + (n - 1) < C.size := by
        by_cases h0 : n = 0
        · exact .inl h0
        · right
          have hlt : o + (n - 1) < vs.length := by simp at hl; omega
          obtain ⟨_, v', h3, _⟩ := h2 (o + (n - 1)) vs[o + (n - 1)] (by simp [hlt])
          rw [show β + (o + (n - 1)) = β + o + (n - 1) from by omega] at h3
          exact (Array.getElem?_eq_some_iff.1 h3).1
      simp at hn ⊢; omega
    · intro j v v' hv hv'
      have hj : j < n := by
        have := (List.getElem?_eq_some_iff.1 hv).1
        omega
      rw [List.getElem?_take_of_lt hj, List.getElem?_drop] at hv
      simp only [List.getElem?_take_of_lt hj, List.getElem?_drop] at hv'
      obtain ⟨_, u, h3, h4⟩ := h2 (o + j) v hv
      rw [show β + (o + j) = β + o + j from by omega] at h3
      have : C[β + o + j]? = some v' := by simpa using hv'
      rw [h3] at this; simp at this; subst this; exact h4

/-- One cell written. -/
theorem Inv.store (H : Inv K ι h w) {P : Program} {i o : Nat} {vs : List CVal} {opn : Option Nat} {v : CVal} {v' : Value} (hi : h.get i = some (.cells vs true opn)) (ho : o < vs.length) (hv : VR ι v v') (h1 : v.one = true)
    {b β e : Nat} (hb : ι i = some (b, β, e)) :
    (Go.store ⟨b, β + o, none⟩ v').run P w = .ok () (w.setCell ⟨b, β + o, none⟩ v') ∧ Inv K ι (h.set i (.cells (vs.set o v) true opn)) (w.setCell ⟨b, β + o, none⟩ v') := by
  obtain ⟨C, el, lo, hi', hC, hR, hop, hwr⟩ := H.cells hi hb
  obtain ⟨hB, hsp⟩ := hwr rfl
  have hlt := (hsp o (by omega)).1
  have hfz := (hsp o (by omega)).2
  have hbl : (w.setCell ⟨b, β + o, none⟩ v').heap[b]? = some (.cells (C.setIfInBounds (β + o) v') el (lo, hi')) := by
    simp [World.setCell, Array.getElem?_modify, hC]
  refine ⟨?_, ?_⟩
  · have h2 : (w.cell? ⟨b, β + o, none⟩) = some C[β + o] := (cell?_of w hC).trans (by simp [hlt])
    have h3 : w.frozen? ⟨b, β + o, none⟩ = false := by
      simp only [World.frozen?, hC]
      simp only [Bool.and_eq_false_iff, decide_eq_false_iff_not]
      omega
    have h4 := hv.one h1
    cases v' <;> first | (simp [oneV] at h4; done) | simp [Go.store, Sem.run, h2, h3]
  · refine H.turn (o' := .cells (vs.set o v) true opn) hi rfl hb _ rfl rfl rfl (by simp [World.setCell]) (fun k hk => by simp [World.setCell, Array.getElem?_modify, Ne.symm hk]) ?_
    refine ⟨b, β, e, _, el, lo, hi', hb, hbl, ?_, hop, fun _ => ⟨hB, fun j hj => ?_⟩⟩
    · intro j u hu
      by_cases e1 : j = o
      · subst e1
        rw [List.getElem?_set_self ho] at hu
        simp at hu; subst hu
        exact ⟨h1, v', by simp [hlt], hv⟩
      · rw [List.getElem?_set_ne (Ne.symm e1)] at hu
        obtain ⟨h5, u', h6, h7⟩ := hR j u hu
        exact ⟨h5, u', by rw [Array.getElem?_setIfInBounds_ne (by omega)]; exact h6, h7⟩
    · have := hsp j (by simpa using hj)
      simpa using this

/-- The cells from o on, one behind the other. -/
def putCells (vs : List CVal) (o : Nat) : List CVal → List CVal
  | [] => vs
  | u :: us => putCells (vs.set o u) (o + 1) us

theorem putCells_length (us : List CVal) : ∀ (vs : List CVal) (o : Nat), (putCells vs o us).length = vs.length := by
  induction us with
  | nil => intro vs o; rfl
  | cons u us ih => intro vs o; rw [putCells, ih]; simp

theorem Inv.ext {h' : Heap} (H : Inv K ι h w) (hg : ∀ j, h'.get j = h.get j) (hn : h'.next = h.next) : Inv K ι h' w :=
  ⟨H.hF, H.keep, H.glob, fun i o e => H.obj i o (hg i ▸ e), fun i j oi oj b β e b' β' e' hne hi hj => H.excl i j oi oj b β e b' β' e' hne (hg i ▸ hi) (hg j ▸ hj), fun i hi => by rw [hg i]; exact H.fresh i (hn ▸ hi), H.inb, H.hG, fun i oi b β e hi => H.hid i oi b β e (hg i ▸ hi), fun i hi => by rw [hg i, hn]; exact H.nev i hi, fun i hi => by rw [hn]; exact H.nul i hi⟩

theorem Inv.stores {P : Program} {i : Nat} {opn : Option Nat} {b β e : Nat} (hb : ι i = some (b, β, e)) : ∀ (us : List CVal) (us' : List Value) (vs : List CVal) (o k : Nat) (h : Heap) (w : World), Inv K ι h w → h.get i = some (.cells vs true opn) → o + k + us.length ≤ vs.length →
    VRs ι us us' → (∀ u ∈ us, u.one = true) → ∃ w', (storeCells ⟨b, β + o, none⟩ us' k).run P w = .ok () w' ∧ Inv K ι (h.set i (.cells (putCells vs (o + k) us) true opn)) w'
  | [], _, vs, o, k, h, w, H, hi, _, .nil, _ => by
    refine ⟨w, rfl, H.ext (fun j => ?_) rfl⟩
    rw [Heap.get_set]
    by_cases e1 : j = i
    · subst e1; simp [hi, putCells]
    · simp [e1]
  | u :: us, u' :: us', vs, o, k, h, w, H, hi, hl, .cons _ _ _ _ hu hus, h1 => by
    simp at hl
    obtain ⟨hr, H'⟩ := H.store (P := P) (o := o + k) hi (by omega) hu (h1 u (by simp)) hb
    obtain ⟨w', hr', H''⟩ := Inv.stores (P := P) (opn := opn) hb us us' (vs.set (o + k) u) o (k + 1) _ _ H' (by simp) (by simp; omega) hus (fun x hx => h1 x (by simp [hx]))
    refine ⟨w', ?_, H''.ext (fun j => ?_) rfl⟩
    · simp only [storeCells, Sem.run_bind, add_addr]
      rw [show β + o + k = β + (o + k) from by omega, hr]
      simp only [Result.andThen]
      exact hr'
    · rw [Heap.get_set, Heap.get_set, Heap.get_set, putCells]
      by_cases e1 : j = i
      · subst e1; simp; rfl
      · simp [e1]

end
end Go.Proofs.YtmppoknfekdbbaaDoor.Cm
