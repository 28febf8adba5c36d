/-
  The clean machine, part YC: arguments that are slices of whole numbers, laid into the clean heap to be read.
-/
import Derived.Test.YtmppoknfekdbbaaDoorCmYB
import Derived.WideShapes
import Derived.ChangeSlices
namespace Go.Proofs.YtmppoknfekdbbaaDoor.Cm
open Go.RowKit Go.ChangeShapes

section
variable {K : Ctx} {ι : Emb} {h : Heap} {w : World}

/-- Nothing may be written. -/
def Ro (h : Heap) : Prop := ∀ i o, h.get i = some o → o.wr = false

theorem Inv.arg (H : Inv K ι h w) (ro : Ro h) {b β : Nat} {cs : List CVal} {C : Array Value} {el : TypeId} {fz : Nat × Nat} (hb : w.heap[b]? = some (.cells C el fz)) (hc : CellsR (ι.put h.next (b, β, 0)) cs C β) (hg : ¬ K.G b) :
    Inv K (ι.put h.next (b, β, 0)) (h.new (.cells cs false none)) w := by
  have hfr := (H.fresh h.next (Nat.le_refl _)).1
  have hle := ι.le_put h.next (b, β, 0) hfr
  have hlt : b < w.heap.size := (Array.getElem?_eq_some_iff.1 hb).1
  have ro' : Ro (h.new (.cells cs false none)) := by
    intro i o e
    rw [Heap.get_new] at e
    split at e
    · simp only [Option.some.injEq] at e; subst e; rfl
    · exact ro i o e
  refine ⟨H.hF, H.keep, fun g hg => hle _ _ (H.glob g hg), fun i o e => ?_, fun i j oi oj b β e b' β' e' _ hi _ hw _ _ => ?_, fun i hi => ?_, fun i b' β' e' hi => ?_, H.hG, fun i o b' β' e' hi hb' => ?_, fun i hi => ?_, fun i hi => ?_⟩
  · rw [Heap.get_new] at e
    split at e
    · next hi =>
      subst hi
      simp only [Option.some.injEq] at e; subst e
      obtain ⟨lo, hi⟩ := fz
      exact ⟨b, β, 0, C, el, lo, hi, Emb.put_same _ _ _, hb, hc, fun _ => rfl, fun hw => by simp at hw⟩
    · exact (H.obj i o e).mono hle fun _ _ _ _ => rfl
  · rw [ro' i oi hi] at hw; simp at hw
  · have hne : i ≠ h.next := by rw [Heap.next_new] at hi; omega
    rw [Emb.put_ne _ _ _ _ hne, Heap.get_new_ne _ _ _ hne]
    exact H.fresh i (by rw [Heap.next_new] at hi; omega)
  · by_cases hne : i = h.next
    · subst hne
      rw [Emb.put_same] at hi
      simp only [Option.some.injEq, Prod.mk.injEq] at hi
      omega
    · rw [Emb.put_ne _ _ _ _ hne] at hi; exact H.inb i _ _ _ hi
  · by_cases hne : i = h.next
    · subst hne
      rw [Emb.put_same] at hb'
      simp only [Option.some.injEq, Prod.mk.injEq] at hb'
      rw [← hb'.1]; exact hg
    · rw [Emb.put_ne _ _ _ _ hne] at hb'
      rw [Heap.get_new_ne _ _ _ hne] at hi
      exact H.hid i o _ _ _ hi hb'
  · obtain ⟨h1, h2⟩ := H.nev i hi
    exact ⟨Nat.lt_succ_of_lt h1, by rw [Heap.get_new_ne _ _ _ (by omega)]; exact h2⟩
  · obtain ⟨h1, h2⟩ := H.nul i hi
    exact ⟨Nat.lt_succ_of_lt h1, by rw [Emb.put_ne _ _ _ _ (by omega)]; exact h2⟩

/-- An id without an object. -/
theorem Inv.argE (H : Inv K ι h w) {b : Nat} (hlt : b < w.heap.size) : Inv K (ι.put h.next (b, 0, 0)) (h.room 1) w := by
  have hfr := (H.fresh h.next (Nat.le_refl _)).1
  have hle := ι.le_put h.next (b, 0, 0) hfr
  have hget : ∀ i, (h.room 1).get i = h.get i := fun i => Heap.room_get rfl
  have hn : (h.room 1).next = h.next + 1 := Heap.nx_room rfl
  have hnone : h.get h.next = none := (H.fresh h.next (Nat.le_refl _)).2
  have hne : ∀ {i o}, h.get i = some o → i ≠ h.next := fun e hi => by rw [hi, hnone] at e; simp at e
  refine ⟨H.hF, H.keep, fun g hg => hle _ _ (H.glob g hg), fun i o e => ?_, fun i j oi oj b β e b' β' e' hij hi hj hw h1 h2 => ?_, fun i hi => ?_, fun i b' β' e' hi => ?_, H.hG, fun i o b' β' e' hi hb' => ?_, fun i hi => ?_, fun i hi => ?_⟩
  · rw [hget] at e
    exact (H.obj i o e).mono hle fun _ _ _ _ => rfl
  · rw [hget] at hi hj
    rw [Emb.put_ne _ _ _ _ (hne hi)] at h1
    rw [Emb.put_ne _ _ _ _ (hne hj)] at h2
    exact H.excl i j oi oj b β e b' β' e' hij hi hj hw h1 h2
  · rw [hn] at hi
    rw [hget, Emb.put_ne _ _ _ _ (by omega)]
    exact H.fresh i (by omega)
  · by_cases hne : i = h.next
    · subst hne
      rw [Emb.put_same] at hi
      simp only [Option.some.injEq, Prod.mk.injEq] at hi
      omega
    · rw [Emb.put_ne _ _ _ _ hne] at hi; exact H.inb i _ _ _ hi
  · rw [hget] at hi
    rw [Emb.put_ne _ _ _ _ (hne hi)] at hb'
    exact H.hid i o _ _ _ hi hb'
  · obtain ⟨h1, h2⟩ := H.nev i hi
    exact ⟨by rw [hn]; omega, by rw [hget]; exact h2⟩
  · obtain ⟨h1, h2⟩ := H.nul i hi
    exact ⟨by rw [hn]; omega, by rw [Emb.put_ne _ _ _ _ (by omega)]; exact h2⟩

/-- A row of whole numbers, as the claim's opening tells it. -/
def IsRow (k : IntKind) (w : World) (a : Option Addr) (len cap : Nat) (zs : List Int) : Prop :=
  (a = none ∧ len = 0 ∧ cap = 0 ∧ zs = []) ∨
  ∃ x, a = some x ∧ x.block < w.heap.size ∧ len ≤ cap ∧ zs.length = cap ∧ (∀ i, i < zs.length → w.cell? (x.add i) = some (.int k (zs.getD i 0))) ∧ ∀ n ∈ zs, (Lit.int k n).wf = true

/-- A slice of whole numbers that may be read: so many, of those (the spare ones behind). -/
def ArgSl (h : Heap) (v : CVal) (k : IntKind) (len : Nat) (zs : List Int) : Prop :=
  len ≤ zs.length ∧ (∀ n ∈ zs, (Lit.int k n).wf = true) ∧ ((v = .nilSlice ∧ zs = []) ∨ ∃ i, v = .slice i 0 len zs.length ∧ i < h.next ∧ (zs = [] ∨ h.get i = some (.cells (zs.map (CVal.int k)) false none)))

theorem ArgSl.exd {h h' : Heap} {v : CVal} {k : IntKind} {len : Nat} {zs : List Int} (s : ArgSl h v k len zs) (e : Exd h h') : ArgSl h' v k len zs := by
  obtain ⟨h1, h2, h3⟩ := s
  refine ⟨h1, h2, ?_⟩
  rcases h3 with h3 | ⟨i, h4, h5, h6⟩
  · exact .inl h3
  · exact .inr ⟨i, h4, Nat.lt_of_lt_of_le h5 e.le, h6.imp id fun g => (e.get i h5).trans g⟩

theorem open_arg (H : Inv K ι h w) (ro : Ro h) (hg : ∀ b, ¬ K.G b) {k : IntKind} {a : Option Addr} {len cap : Nat} {zs : List Int} (r : IsRow k w a len cap zs) :
    ∃ ι' h' v, ι.le ι' ∧ Inv K ι' h' w ∧ Exd h h' ∧ Ro h' ∧ VR ι' v (.slice a len cap) ∧ ArgSl h' v k len zs := by
  rcases r with ⟨rfl, rfl, rfl, rfl⟩ | ⟨x, rfl, hx, hl, hz, hc, hw⟩
  · exact ⟨ι, h, .nilSlice, Emb.le.refl _, H, Exd.refl _, ro, .nilSlice, Nat.le_refl _, fun n m => by simp at m, .inl ⟨rfl, rfl⟩⟩
  · have hle : ∀ β, ι.le (ι.put h.next (x.block, β, 0)) := fun β => ι.le_put h.next _ (H.fresh h.next (Nat.le_refl _)).1
    by_cases h0 : cap = 0
    · subst h0
      obtain rfl : zs = [] := by cases zs; rfl; simp at hz
      obtain rfl : len = 0 := by omega
      refine ⟨_, h.room 1, .slice h.next 0 0 0, hle 0, H.argE hx, ⟨by rw [Heap.nx_room rfl]; omega, fun i _ => Heap.room_get rfl⟩, fun i o e => ro i o (by rw [Heap.room_get rfl] at e; exact e), ?_, Nat.le_refl _, hw, .inr ⟨h.next, rfl, by rw [Heap.nx_room rfl]; omega, .inl rfl⟩⟩
      exact .slice h.next 0 0 0 x.block 0 0 x (Emb.put_same _ _ _) (.inr rfl) (Nat.le_refl _)
    · -- the block
      have c0 := hc 0 (by omega)
      have ha0 : x.add 0 = x := by simp [Addr.add]
      rw [ha0] at c0
      unfold World.cell? at c0
      split at c0
      · next C el fz hb =>
        split at c0
        · simp at c0
        · next hs =>
          have hspot : x.spot = none := by simpa using hs
          have hcell : CellsR (ι.put h.next (x.block, x.off, 0)) (zs.map (CVal.int k)) C x.off := by
            intro j v e
            rw [List.getElem?_map] at e
            cases hq : zs[j]? with
            | none => rw [hq] at e; simp at e
            | some z =>
              rw [hq] at e
              simp only [Option.map_some, Option.some.injEq] at e
              subst e
              have hj : j < zs.length := (List.getElem?_eq_some_iff.1 hq).1
              have c := hc j hj
              have hd : zs.getD j 0 = z := by rw [List.getD_eq_getElem?_getD, hq]; rfl
              rw [hd] at c
              refine ⟨rfl, .int k z, ?_, .int k z⟩
              unfold World.cell? Addr.add at c
              by_cases hj0 : j = 0
              · subst hj0
                simp only [if_true, hb, hspot] at c
                simpa using c
              · simp only [if_neg hj0, hb] at c
                simpa using c
          refine ⟨_, _, .slice h.next 0 len cap, hle x.off, H.arg ro hb hcell (hg _), Exd.new (Exd.refl _), fun i o e => ?_, ?_, by omega, hw, .inr ⟨h.next, by rw [hz], Nat.lt_succ_self _, .inr (h.get_new_same _)⟩⟩
          · rw [Heap.get_new] at e
            split at e
            · simp only [Option.some.injEq] at e; subst e; rfl
            · exact ro i o e
          · refine .slice h.next 0 len cap x.block x.off 0 x (Emb.put_same _ _ _) (.inl ?_) hl
            obtain ⟨bl, of, sp⟩ := x
            simp only at hspot
            subst hspot
            rfl
      · simp at c0
end

theorem ro_empty (glb : Nat) : Ro (Heap.empty glb) := fun i o e => by rw [Heap.get_empty] at e; simp at e

/-- A slice that may come in: its block stands in the memory. -/
theorem okw_slice {P : Program} {w : World} {r : Reach} {base : Nat} {t e : TypeId} {v : Value} (ht : P.underlying t = some (.slice e)) (h : Value.okWide P w r base t v) : v = .slice none 0 0 ∨ ∃ a len cap, v = .slice (some a) len cap ∧ len ≤ cap ∧ a.block < w.heap.size := by
  simp only [Value.okWide, ht, Cell.okWide] at h
  cases v with
  | slice a len cap =>
    cases a with
    | none =>
      left
      cases len <;> cases cap <;> simp_all [Cell.ok]
    | some a =>
      right
      simp only [Cell.ok, ht] at h
      obtain ⟨h1, _, _, _, row, cells, hs, _⟩ := h
      refine ⟨a, len, cap, rfl, h1, ?_⟩
      unfold World.shape? at hs
      split at hs
      · next hb => exact (Array.getElem?_eq_some_iff.1 hb).1
      · simp at hs
  | _ => simp_all [Cell.ok]

theorem row_of {P : Program} {H : Type} {enc : TypeId × Value → H} {w : World} {r : Reach} {base : Nat} {t e : TypeId} {k : IntKind} {v : Value} {x : DataW H × List MemPlace} (ht : P.underlying t = some (.slice e)) (he : P.underlying e = some (.int k)) (hc : P.cellsOf e = 1)
    (hv : Value.okWide P w r base t v) (h : ∃ m, DataW.trod enc P w 0 (fun _ => true) true m t v.cells.toList = some x) : ∃ a len cap zs, v = .slice a len cap ∧ IsRow k w a len cap zs := by
  obtain ⟨m, hf⟩ := h
  rcases okw_slice ht hv with rfl | ⟨a, len, cap, rfl, h1, h2⟩
  · exact ⟨none, 0, 0, [], rfl, .inl ⟨rfl, rfl, rfl, rfl⟩⟩
  · rcases open_ints ht he hc hf with ⟨hcs, _⟩ | ⟨a', l, c, zs, hcs, _, hl, _, hz, _, hcell, hwz⟩
    · simp [Value.cells] at hcs
    · simp [Value.cells] at hcs
      obtain ⟨rfl, rfl, rfl⟩ := hcs
      exact ⟨some a, len, cap, zs, rfl, .inr ⟨a, rfl, h2, hl, by simpa using hz, hcell, hwz⟩⟩
end Go.Proofs.YtmppoknfekdbbaaDoor.Cm
