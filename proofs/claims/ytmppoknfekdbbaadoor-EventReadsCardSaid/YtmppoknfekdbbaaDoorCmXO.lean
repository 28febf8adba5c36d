/-
  The clean machine, part O: objects that are hidden for a while; regions whose order is drawn.
-/
import Derived.Test.YtmppoknfekdbbaaDoorCmXN
namespace Go.Proofs.YtmppoknfekdbbaaDoor.Cm
open Go.RowKit

theorem ObjR.refence {ι : Emb} {w : World} {F F' : Nat → Prop} {i : Nat} {o : CObj} (h : ObjR ι w F i o) (hf : ∀ b β e, o.wr = true → ι i = some (b, β, e) → ¬ F b → ¬ F' b) : ObjR ι w F' i o := by
  cases o with
  | cells vs wr opn =>
    obtain ⟨b, β, e, C, el, lo, hi, h1, h2, h3, h4, h5⟩ := h
    exact ⟨b, β, e, C, el, lo, hi, h1, h2, h3, h4, fun hw => ⟨hf _ _ _ hw h1 (h5 hw).1, (h5 hw).2⟩⟩
  | map es wr =>
    obtain ⟨b, e, E, c, h1, h2, h3, h4⟩ := h
    exact ⟨b, e, E, c, h1, h2, h3, fun hw => hf _ _ _ hw h1 (h4 hw)⟩
  | iter s pos =>
    obtain ⟨b, e, s', h1, h2, h3, h4⟩ := h
    exact ⟨b, e, s', h1, h2, h3, hf _ _ _ rfl h1 h4⟩

section
variable {K : Ctx} {ι : Emb} {h : Heap} {w : World}

/-- The blocks that some ids stand for. -/
def blks (ι : Emb) (S : Nat → Prop) (b : Nat) : Prop := ∃ i β e, S i ∧ ι i = some (b, β, e)

def Ctx.hide (K : Ctx) (ι : Emb) (S : Nat → Prop) (w : World) : Ctx :=
  { w₀ := w, F := fun b => K.F b ∨ blks ι S b, glb := K.glb, G := fun b => K.G b ∨ blks ι S b, N := fun i => K.N i ∨ S i, U := K.U }

theorem Inv.hide (H : Inv K ι h w) {S : Nat → Prop} (hS : ∀ i, S i → ∃ o, h.get i = some o ∧ o.wr = true) {g : Heap} (hg1 : ∀ i, S i → g.get i = none) (hg2 : ∀ i, ¬ S i → g.get i = h.get i) (hn : g.next = h.next) :
    Inv (K.hide ι S w) ι g w := by
  have hin : ∀ i o, g.get i = some o → ¬ S i ∧ h.get i = some o := fun i o e => by
    by_cases hs : S i
    · rw [hg1 i hs] at e; simp at e
    · exact ⟨hs, by rw [← hg2 i hs]; exact e⟩
  have hoff : ∀ i o b β e, g.get i = some o → ι i = some (b, β, e) → ¬ blks ι S b := by
    rintro i o b β e hi hb ⟨j, β', e', hj, hbj⟩
    obtain ⟨hs, hi⟩ := hin i o hi
    obtain ⟨oj, hgj, hwj⟩ := hS j hj
    exact H.excl j i oj o b β' e' b β e (fun e1 => hs (e1 ▸ hj)) hgj hi hwj hbj hb rfl
  refine ⟨?_, ⟨rfl, rfl, rfl, Nat.le_refl _, fun _ _ => rfl⟩, H.glob, fun i o hi => ?_, fun i j oi oj b β e b' β' e' hne hi hj => H.excl i j oi oj b β e b' β' e' hne (hin i oi hi).2 (hin j oj hj).2, fun i hi => ?_, H.inb, ?_, ?_, ?_, ?_⟩
  · rintro k (hk | ⟨i, β, e, _, hb⟩)
    · exact Nat.lt_of_lt_of_le (H.hF k hk) H.keep.size
    · exact H.inb i k β e hb
  · refine (H.obj i o (hin i o hi).2).refence fun b β e _ hb hF => ?_
    rintro (hk | hk)
    · exact hF hk
    · exact hoff i o b β e hi hb hk
  · have := H.fresh i (hn ▸ hi)
    refine ⟨this.1, ?_⟩
    by_cases hs : S i
    · exact hg1 i hs
    · rw [hg2 i hs]; exact this.2
  · refine ⟨?_, fun w' k => H.hG.2 w' (Keeps.over H.keep k fun _ hk => .inl hk)⟩
    rintro b (hb | hb)
    · exact .inl (H.hG.1 b hb)
    · exact .inr hb
  · rintro i o b β e hi hb (hk | hk)
    · exact H.hid i o b β e (hin i o hi).2 hb hk
    · exact hoff i o b β e hi hb hk
  · rintro i (hi | hi)
    · have := H.nev i hi
      refine ⟨by rw [hn]; exact this.1, ?_⟩
      by_cases hs : S i
      · exact hg1 i hs
      · rw [hg2 i hs]; exact this.2
    · refine ⟨?_, hg1 i hi⟩
      obtain ⟨o, ho, _⟩ := hS i hi
      rw [hn]
      rcases Nat.lt_or_ge i h.next with hlt | hge
      · exact hlt
      · rw [(H.fresh i hge).2] at ho; simp at ho
  · intro i hi
    rw [hn]; exact H.nul i hi

theorem Inv.unhide (H : Inv K ι h w) {S : Nat → Prop} {ι' : Emb} {g' : Heap} {w' : World} (hle : ι.le ι') (H' : Inv (K.hide ι S w) ι' g' w') {h' : Heap}
    (hh1 : ∀ i, S i → h'.get i = h.get i) (hh2 : ∀ i, ¬ S i → h'.get i = g'.get i) (hn : h'.next = g'.next) : Inv K ι' h' w' := by
  have hblk : ∀ i o, S i → h.get i = some o → ∃ b β e, ι i = some (b, β, e) ∧ ι' i = some (b, β, e) ∧ blks ι S b := fun i o hs ho => by
    obtain ⟨b, β, e, hb, _⟩ := (H.obj i o ho).blk
    exact ⟨b, β, e, hb, hle _ _ hb, i, β, e, hs, hb⟩
  have hSn : ∀ i, S i → i < g'.next := fun i hs => (H'.nev i (.inr hs)).1
  have hsep : ∀ i o b β e j b' β' e', S i → h.get i = some o → ι' i = some (b, β, e) → ¬ S j → ∀ oj, g'.get j = some oj → ι' j = some (b', β', e') → b ≠ b' := by
    intro i o b β e j b' β' e' hs ho hb _ oj hj hbj e1
    obtain ⟨b1, β1, e1', h1, h2, h3⟩ := hblk i o hs ho
    rw [h2] at hb; simp at hb
    subst e1
    exact H'.hid j oj b β' e' hj hbj (.inr (hb.1 ▸ h3))
  refine ⟨H.hF, ⟨H'.keep.os.trans H.keep.os, H'.keep.tape.trans H.keep.tape, H'.keep.output.trans H.keep.output, Nat.le_trans H.keep.size H'.keep.size, fun k hk => (H'.keep.block k (.inl hk)).trans (H.keep.block k hk)⟩, H'.glob, ?_, ?_, ?_, H'.inb, H.hG, ?_, ?_, ?_⟩
  · intro i o hi
    by_cases hs : S i
    · rw [hh1 i hs] at hi
      refine (H.obj i o hi).mono hle fun b β e hb => H'.keep.block b (.inr ⟨i, β, e, hs, hb⟩)
    · rw [hh2 i hs] at hi
      exact (H'.obj i o hi).refence fun b β e _ _ hF hK => hF (.inl hK)
  · intro i j oi oj b β e b' β' e' hne hi hj hw hb hb'
    by_cases hs : S i
    · rw [hh1 i hs] at hi
      by_cases ht : S j
      · rw [hh1 j ht] at hj
        obtain ⟨b1, β1, e1, h1, h2, _⟩ := hblk i oi hs hi
        obtain ⟨b2, β2, e2, h3, h4, _⟩ := hblk j oj ht hj
        rw [h2] at hb; rw [h4] at hb'; simp at hb hb'
        rw [← hb.1, ← hb'.1]
        exact H.excl i j oi oj b1 β1 e1 b2 β2 e2 hne hi hj hw h1 h3
      · rw [hh2 j ht] at hj
        exact hsep i oi b β e j b' β' e' hs hi hb ht oj hj hb'
    · rw [hh2 i hs] at hi
      by_cases ht : S j
      · rw [hh1 j ht] at hj
        exact Ne.symm (hsep j oj b' β' e' i b β e ht hj hb' hs oi hi hb)
      · rw [hh2 j ht] at hj
        exact H'.excl i j oi oj b β e b' β' e' hne hi hj hw hb hb'
  · intro i hi
    rw [hn] at hi
    have hs : ¬ S i := fun hs => by have := hSn i hs; omega
    rw [hh2 i hs]; exact H'.fresh i hi
  · intro i o b β e hi hb hG
    by_cases hs : S i
    · rw [hh1 i hs] at hi
      obtain ⟨b1, β1, e1, h1, h2, _⟩ := hblk i o hs hi
      rw [h2] at hb; simp at hb
      exact H.hid i o b1 β1 e1 hi h1 (hb.1 ▸ hG)
    · rw [hh2 i hs] at hi
      exact H'.hid i o b β e hi hb (.inl hG)
  · intro i hi
    have := H'.nev i (.inl hi)
    refine ⟨by rw [hn]; exact this.1, ?_⟩
    by_cases hs : S i
    · rw [hh1 i hs]; exact (H.nev i hi).2
    · rw [hh2 i hs]; exact this.2
  · intro i hi
    rw [hn]; exact H'.nul i hi

/-- Fewer ids kept free. -/
theorem Inv.weak {N U N' U' : Nat → Prop} (H : Inv { K with N := N, U := U } ι h w) (hN : ∀ i, N' i → N i) (hU : ∀ i, U' i → U i) : Inv { K with N := N', U := U' } ι h w :=
  ⟨H.hF, H.keep, H.glob, H.obj, H.excl, H.fresh, H.inb, H.hG, H.hid, fun i hi => H.nev i (hN i hi), fun i hi => H.nul i (hU i hi)⟩

/-- Ids set apart. -/
theorem Inv.bump (H : Inv K ι h w) (k : Nat) : Inv { K with N := fun i => K.N i ∨ (h.next ≤ i ∧ i < h.next + k), U := fun i => K.U i ∨ (h.next ≤ i ∧ i < h.next + k) } ι { h with next := h.next + k } w := by
  refine ⟨H.hF, H.keep, H.glob, H.obj, H.excl, fun i hi => H.fresh i (by simp at hi; omega), H.inb, H.hG, H.hid, ?_, ?_⟩
  · rintro i (hi | hi)
    · have := H.nev i hi; exact ⟨by show i < h.next + k; omega, this.2⟩
    · exact ⟨hi.2, (H.fresh i hi.1).2⟩
  · rintro i (hi | hi)
    · have := H.nul i hi; exact ⟨by show i < h.next + k; omega, this.2⟩
    · exact ⟨hi.2, (H.fresh i hi.1).1⟩

/-- An object is made at an id that was set apart. -/
theorem Inv.born {N U : Nat → Prop} (H : Inv { K with N := N, U := U } ι h w) {id : Nat} (hN : N id) (hU : U id) (obj : CObj) (O : Obj)
    (ho : ObjR (ι.put id (w.heap.size, 0, 0)) { w with heap := w.heap.push O } K.F id obj) :
    Inv { K with N := fun i => N i ∧ i ≠ id, U := fun i => U i ∧ i ≠ id } (ι.put id (w.heap.size, 0, 0)) (h.set id obj) { w with heap := w.heap.push O } := by
  have hfr := (H.nul id hU).2
  have hlt := (H.nul id hU).1
  have hnone := (H.nev id hN).2
  have hle := ι.le_put id (w.heap.size, 0, 0) hfr
  have hold : ∀ b, b < w.heap.size → (w.heap.push O)[b]? = w.heap[b]? := fun b hb => by rw [Array.getElem?_push, if_neg (by omega)]
  have hsz : K.w₀.heap.size ≤ w.heap.size := H.keep.size
  refine ⟨H.hF, ⟨H.keep.os, H.keep.tape, H.keep.output, by simp; omega, fun k hk => ?_⟩, fun g hg => hle _ _ (H.glob g hg), ?_, ?_, ?_, ?_, H.hG, ?_, ?_, ?_⟩
  · show (w.heap.push O)[k]? = _
    have : k < K.w₀.heap.size := H.hF k hk
    rw [hold k (by omega)]; exact H.keep.block k hk
  · intro i oi hi
    rw [Heap.get_set] at hi
    by_cases e1 : i = id
    · subst e1; simp at hi; subst hi; exact ho
    · rw [if_neg e1] at hi
      exact (H.obj i oi hi).mono hle fun b β e2 he => hold b (H.inb _ _ _ _ he)
  · intro i j oi oj b β e1 b' β' e2 hne hi hj hw hbi hbj
    rw [Heap.get_set] at hi hj
    by_cases i1 : i = id
    · subst i1
      rw [Emb.put_same] at hbi; simp at hbi
      rw [Emb.put_ne _ _ _ _ (Ne.symm hne)] at hbj
      have := H.inb _ _ _ _ hbj
      omega
    · by_cases j1 : j = id
      · subst j1
        rw [Emb.put_same] at hbj; simp at hbj
        rw [Emb.put_ne _ _ _ _ hne] at hbi
        have := H.inb _ _ _ _ hbi
        omega
      · rw [if_neg i1] at hi; rw [if_neg j1] at hj
        rw [Emb.put_ne _ _ _ _ i1] at hbi; rw [Emb.put_ne _ _ _ _ j1] at hbj
        exact H.excl i j oi oj b β e1 b' β' e2 hne hi hj hw hbi hbj
  · intro i hi
    have hi : h.next ≤ i := hi
    have hne : i ≠ id := by omega
    rw [Emb.put_ne _ _ _ _ hne, Heap.get_set_ne _ _ _ _ hne]
    exact H.fresh i hi
  · intro i b β e1 hb
    simp
    by_cases i1 : i = id
    · subst i1; rw [Emb.put_same] at hb; simp at hb; omega
    · rw [Emb.put_ne _ _ _ _ i1] at hb; have := H.inb _ _ _ _ hb; omega
  · intro i oi b β e1 hi hb hg
    rw [Heap.get_set] at hi
    by_cases i1 : i = id
    · subst i1
      rw [Emb.put_same] at hb; simp at hb
      have : b < K.w₀.heap.size := H.hF _ (H.hG.1 _ hg)
      omega
    · rw [if_neg i1] at hi; rw [Emb.put_ne _ _ _ _ i1] at hb
      exact H.hid i oi b β e1 hi hb hg
  · rintro i ⟨hi, hne⟩
    have := H.nev i hi
    exact ⟨this.1, by rw [Heap.get_set_ne _ _ _ _ hne]; exact this.2⟩
  · rintro i ⟨hi, hne⟩
    have := H.nul i hi
    exact ⟨this.1, by rw [Emb.put_ne _ _ _ _ hne]; exact this.2⟩
end

/-- One heap laid over another. -/
def overlay (d : Heap) : List Nat → Heap → Heap
  | [], g => g
  | i :: is, g => overlay d is (g.put i (d.get i))

theorem overlay_next (d : Heap) : ∀ (is : List Nat) (g : Heap), (overlay d is g).next = g.next
  | [], _ => rfl
  | i :: is, g => by rw [overlay, overlay_next]; rfl

theorem overlay_get (d : Heap) (j : Nat) : ∀ (is : List Nat) (g : Heap), (overlay d is g).get j = if j ∈ is then d.get j else g.get j
  | [], g => by simp [overlay]
  | i :: is, g => by
    rw [overlay, overlay_get d j is, Heap.get_put]
    by_cases h1 : j ∈ is
    · simp [h1]
    · by_cases h2 : j = i
      · subst h2; simp [h1]
      · simp [h1, h2]

theorem exists_overlay (d g : Heap) (n : Nat) (S : Nat → Prop) (hS : ∀ i, S i → i < n) : ∃ h' : Heap, (∀ i, S i → h'.get i = d.get i) ∧ (∀ i, ¬ S i → h'.get i = g.get i) ∧ h'.next = g.next := by
  classical
  refine ⟨overlay d ((List.range n).filter fun i => decide (S i)) g, fun i hi => ?_, fun i hi => ?_, overlay_next _ _ _⟩
  · rw [overlay_get, if_pos (by simp [hi, hS i hi])]
  · rw [overlay_get, if_neg (by simp [hi])]

end Go.Proofs.YtmppoknfekdbbaaDoor.Cm
