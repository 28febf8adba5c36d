/-
  The clean machine, and what the law's functions do in it: part C of this claim's own texts. No conditions.
-/
import Derived.Test.YtkjdgdkkepmciaaGreatCmB
import Derived.Below
namespace Go.Proofs.YtkjdgdkkepmciaaGreat.Cm
open Go.RowKit
theorem ObjR.refence {ι : Emb} {w : World} {M : Mod} {F F' : Nat → Prop} {i : Nat} {o : CObj} (h : ObjR ι w M F i o) (hf : ∀ b β e, o.wr = true → ι i = some (b, β, e) → ¬ F b → ¬ F' b) : ObjR ι w M F' i o := by
 cases o with
 | cells vs wr opn =>
  obtain ⟨b, β, e, C, el, lo, hi, h1, h2, h3, h4, h5⟩ := h
  exact ⟨b, β, e, C, el, lo, hi, h1, h2, h3, h4, fun hw => ⟨hf _ _ _ hw h1 (h5 hw).1, (h5 hw).2⟩⟩
 | map es wr st =>
  obtain ⟨b, e, E, c, h1, h2, h3, hs, h4⟩ := h
  exact ⟨b, e, E, c, h1, h2, h3, hs, fun hw => hf _ _ _ hw h1 (h4 hw)⟩
 | iter s pos =>
  obtain ⟨b, e, s', h1, h2, h3, h4⟩ := h
  exact ⟨b, e, s', h1, h2, h3, hf _ _ _ rfl h1 h4⟩
 | loop st pend fn k np tmps d =>
  obtain ⟨b, e, r, bd, ed, h1, h2, h3, h4⟩ := h
  exact ⟨b, e, r, bd, ed, h1, h2, hf _ _ _ rfl h1 h3, h4⟩
 | dfr =>
  obtain ⟨b, e, h1, h2, h3⟩ := h
  exact ⟨b, e, h1, h2, hf _ _ _ rfl h1 h3⟩
 | kbox v => exact h
section
variable {K : Ctx} {ι : Emb} {h : Heap} {w : World}
def blks (ι : Emb) (S : Nat → Prop) (b : Nat) : Prop := ∃ i β e, S i ∧ ι i = some (b, β, e)
def Ctx.hide (K : Ctx) (ι : Emb) (S : Nat → Prop) (w : World) : Ctx :=
 { w₀ := w, F := fun b => K.F b ∨ blks ι S b, glb := K.glb, G := fun b => K.G b ∨ blks ι S b, N := fun i => K.N i ∨ S i, U := K.U }
theorem Inv.hide (H : Inv K ι h w) {S : Nat → Prop} (hS : ∀ i, S i → ∃ o, h.get i = some o ∧ o.wr = true) {g : Heap} (hg1 : ∀ i, S i → g.get i = none) (hg2 : ∀ i, ¬ S i → g.get i = h.get i) (hn : g.next = h.next) :
  Inv (K.hide ι S w) ι g w := by
 have hin : ∀ i o, g.get i = some o → ¬ S i ∧ h.get i = some o := fun i o e => by
  by_cases hs : S i
  ·rw [hg1 i hs] at e; simp at e
  ·exact ⟨hs, by rw [← hg2 i hs]; exact e⟩
 have hoff : ∀ i o b β e, g.get i = some o → ι i = some (b, β, e) → ¬ blks ι S b := by
  rintro i o b β e hi hb ⟨j, β', e', hj, hbj⟩
  obtain ⟨hs, hi⟩ := hin i o hi
  obtain ⟨oj, hgj, hwj⟩ := hS j hj
  exact H.excl j i oj o b β' e' b β e (fun e1 => hs (e1 ▸ hj)) hgj hi hwj hbj hb rfl
 refine ⟨?_, ⟨rfl, rfl, rfl, Nat.le_refl _, fun _ _ => rfl⟩, H.glob, fun i o hi => ?_, fun i j oi oj b β e b' β' e' hne hi hj => H.excl i j oi oj b β e b' β' e' hne (hin i oi hi).2 (hin j oj hj).2, fun i hi => ?_, H.inb, ?_, ?_, ?_, ?_⟩
 ·rintro k (hk | ⟨i, β, e, _, hb⟩)
  ·exact Nat.lt_of_lt_of_le (H.hF k hk) H.keep.size
  ·exact H.inb i k β e hb
 ·refine (H.obj i o (hin i o hi).2).refence fun b β e _ hb hF => ?_
  rintro (hk | hk)
  ·exact hF hk
  ·exact hoff i o b β e hi hb hk
 ·have := H.fresh i (hn ▸ hi)
  refine ⟨this.1, ?_⟩
  by_cases hs : S i
  ·exact hg1 i hs
  ·rw [hg2 i hs]; exact this.2
 ·refine ⟨?_, fun w' k => H.hG.2 w' (Keeps.over H.keep k fun _ hk => .inl hk)⟩
  rintro b (hb | hb)
  ·exact .inl (H.hG.1 b hb)
  ·exact .inr hb
 ·rintro i o b β e hi hb (hk | hk)
  ·exact H.hid i o b β e (hin i o hi).2 hb hk
  ·exact hoff i o b β e hi hb hk
 ·rintro i (hi | hi)
  ·have := H.nev i hi
   refine ⟨by rw [hn]; exact this.1, ?_⟩
   by_cases hs : S i
   ·exact hg1 i hs
   ·rw [hg2 i hs]; exact this.2
  ·refine ⟨?_, hg1 i hi⟩
   obtain ⟨o, ho, _⟩ := hS i hi
   rw [hn]
   rcases Nat.lt_or_ge i h.next with hlt | hge
   ·exact hlt
   ·rw [(H.fresh i hge).2] at ho; simp at ho
 ·intro i hi
  rw [hn]; exact H.nul i hi
theorem Inv.unhide (H : Inv K ι h w) {S : Nat → Prop} {ι' : Emb} {g' : Heap} {w' : World} (hle : ι.le ι') (H' : Inv (K.hide ι S w) ι' g' w') {h' : Heap}
  (hh1 : ∀ i, S i → h'.get i = h.get i) (hh2 : ∀ i, ¬ S i → h'.get i = g'.get i) (hn : h'.next = g'.next) : Inv K ι' h' w' := by
 have hblk : ∀ i o, S i → h.get i = some o → ∃ b β e, ι i = some (b, β, e) ∧ ι' i = some (b, β, e) ∧ blks ι S b := fun i o hs ho => by
  obtain ⟨b, β, e, hb, _⟩ := (H.obj i o ho).blk
  exact ⟨b, β, e, hb, hle _ _ hb, i, β, e, hs, hb⟩
 have hSn : ∀ i, S i → i < g'.next := fun i hs => (H'.nev i (.inr hs)).1
 have hsep : ∀ i o b β e j b' β' e', S i → h.get i = some o → ι' i = some (b, β, e) → ¬ S j → ∀ oj, g'.get j = some oj → ι' j = some (b', β', e') → b ≠ b' := by
  intro i o b β e j b' β' e' hs ho hb _ oj hj hbj e1
  obtain ⟨b1, β1, e1', h1, h2, h3⟩ := hblk i o hs ho
  rw [h2] at hb; simp at hb
  subst e1
  exact H'.hid j oj b β' e' hj hbj (.inr (hb.1 ▸ h3))
 refine ⟨H.hF, ⟨H'.keep.os.trans H.keep.os, H'.keep.tape.trans H.keep.tape, H'.keep.output.trans H.keep.output, Nat.le_trans H.keep.size H'.keep.size, fun k hk => (H'.keep.block k (.inl hk)).trans (H.keep.block k hk)⟩, H'.glob, ?_, ?_, ?_, H'.inb, H.hG, ?_, ?_, ?_⟩
 ·intro i o hi
  by_cases hs : S i
  ·rw [hh1 i hs] at hi
   refine (H.obj i o hi).mono hle fun b β e hb => H'.keep.block b (.inr ⟨i, β, e, hs, hb⟩)
  ·rw [hh2 i hs] at hi
   exact (H'.obj i o hi).refence fun b β e _ _ hF hK => hF (.inl hK)
 ·intro i j oi oj b β e b' β' e' hne hi hj hw hb hb'
  by_cases hs : S i
  ·rw [hh1 i hs] at hi
   by_cases ht : S j
   ·rw [hh1 j ht] at hj
    obtain ⟨b1, β1, e1, h1, h2, _⟩ := hblk i oi hs hi
    obtain ⟨b2, β2, e2, h3, h4, _⟩ := hblk j oj ht hj
    rw [h2] at hb; rw [h4] at hb'; simp at hb hb'
    rw [← hb.1, ← hb'.1]
    exact H.excl i j oi oj b1 β1 e1 b2 β2 e2 hne hi hj hw h1 h3
   ·rw [hh2 j ht] at hj
    exact hsep i oi b β e j b' β' e' hs hi hb ht oj hj hb'
  ·rw [hh2 i hs] at hi
   by_cases ht : S j
   ·rw [hh1 j ht] at hj
    exact Ne.symm (hsep j oj b' β' e' i b β e ht hj hb' hs oi hi hb)
   ·rw [hh2 j ht] at hj
    exact H'.excl i j oi oj b β e b' β' e' hne hi hj hw hb hb'
 ·intro i hi
  rw [hn] at hi
  have hs : ¬ S i := fun hs => by have := hSn i hs; omega
  rw [hh2 i hs]; exact H'.fresh i hi
 ·intro i o b β e hi hb hG
  by_cases hs : S i
  ·rw [hh1 i hs] at hi
   obtain ⟨b1, β1, e1, h1, h2, _⟩ := hblk i o hs hi
   rw [h2] at hb; simp at hb
   exact H.hid i o b1 β1 e1 hi h1 (hb.1 ▸ hG)
  ·rw [hh2 i hs] at hi
   exact H'.hid i o b β e hi hb (.inl hG)
 ·intro i hi
  have := H'.nev i (.inl hi)
  refine ⟨by rw [hn]; exact this.1, ?_⟩
  by_cases hs : S i
  ·rw [hh1 i hs]; exact (H.nev i hi).2
  ·rw [hh2 i hs]; exact this.2
 ·intro i hi
  rw [hn]; exact H'.nul i hi
theorem Inv.weak {N U N' U' : Nat → Prop} (H : Inv { K with N := N, U := U } ι h w) (hN : ∀ i, N' i → N i) (hU : ∀ i, U' i → U i) : Inv { K with N := N', U := U' } ι h w :=
 ⟨H.hF, H.keep, H.glob, H.obj, H.excl, H.fresh, H.inb, H.hG, H.hid, fun i hi => H.nev i (hN i hi), fun i hi => H.nul i (hU i hi)⟩
theorem Inv.bump (H : Inv K ι h w) (k : Nat) : Inv { K with N := fun i => K.N i ∨ (h.next ≤ i ∧ i < h.next + k), U := fun i => K.U i ∨ (h.next ≤ i ∧ i < h.next + k) } ι { h with next := h.next + k } w := by
 refine ⟨H.hF, H.keep, H.glob, H.obj, H.excl, fun i hi => H.fresh i (by simp at hi; omega), H.inb, H.hG, H.hid, ?_, ?_⟩
 ·rintro i (hi | hi)
  ·have := H.nev i hi; exact ⟨by show i < h.next + k; omega, this.2⟩
  ·exact ⟨hi.2, (H.fresh i hi.1).2⟩
 ·rintro i (hi | hi)
  ·have := H.nul i hi; exact ⟨by show i < h.next + k; omega, this.2⟩
  ·exact ⟨hi.2, (H.fresh i hi.1).1⟩
theorem Inv.born {N U : Nat → Prop} (H : Inv { K with N := N, U := U } ι h w) {id : Nat} (hN : N id) (hU : U id) (obj : CObj) (O : Obj)
  (ho : ObjR (ι.put id (w.heap.size, 0, 0)) { w with heap := w.heap.push O } K.glb.mod K.F id obj) :
  Inv { K with N := fun i => N i ∧ i ≠ id, U := fun i => U i ∧ i ≠ id } (ι.put id (w.heap.size, 0, 0)) (h.set id obj) { w with heap := w.heap.push O } := by
 have hfr := (H.nul id hU).2
 have hlt := (H.nul id hU).1
 have hnone := (H.nev id hN).2
 have hle := ι.le_put id (w.heap.size, 0, 0) hfr
 have hold : ∀ b, b < w.heap.size → (w.heap.push O)[b]? = w.heap[b]? := fun b hb => by rw [Array.getElem?_push, if_neg (by omega)]
 have hsz : K.w₀.heap.size ≤ w.heap.size := H.keep.size
 refine ⟨H.hF, ⟨H.keep.os, H.keep.tape, H.keep.output, by simp; omega, fun k hk => ?_⟩, fun g hg => hle _ _ (H.glob g hg), ?_, ?_, ?_, ?_, H.hG, ?_, ?_, ?_⟩
 ·show (w.heap.push O)[k]? = _
  have : k < K.w₀.heap.size := H.hF k hk
  rw [hold k (by omega)]; exact H.keep.block k hk
 ·intro i oi hi
  rw [Heap.get_set] at hi
  by_cases e1 : i = id
  ·subst e1; simp at hi; subst hi; exact ho
  ·rw [if_neg e1] at hi
   exact (H.obj i oi hi).mono hle fun b β e2 he => hold b (H.inb _ _ _ _ he)
 ·intro i j oi oj b β e1 b' β' e2 hne hi hj hw hbi hbj
  rw [Heap.get_set] at hi hj
  by_cases i1 : i = id
  ·subst i1
   rw [Emb.put_same] at hbi; simp at hbi
   rw [Emb.put_ne _ _ _ _ (Ne.symm hne)] at hbj
   have := H.inb _ _ _ _ hbj
   omega
  ·by_cases j1 : j = id
   ·subst j1
    rw [Emb.put_same] at hbj; simp at hbj
    rw [Emb.put_ne _ _ _ _ hne] at hbi
    have := H.inb _ _ _ _ hbi
    omega
   ·rw [if_neg i1] at hi; rw [if_neg j1] at hj
    rw [Emb.put_ne _ _ _ _ i1] at hbi; rw [Emb.put_ne _ _ _ _ j1] at hbj
    exact H.excl i j oi oj b β e1 b' β' e2 hne hi hj hw hbi hbj
 ·intro i hi
  have hi : h.next ≤ i := hi
  have hne : i ≠ id := by omega
  rw [Emb.put_ne _ _ _ _ hne, Heap.get_set_ne _ _ _ _ hne]
  exact H.fresh i hi
 ·intro i b β e1 hb
  simp
  by_cases i1 : i = id
  ·subst i1; rw [Emb.put_same] at hb; simp at hb; omega
  ·rw [Emb.put_ne _ _ _ _ i1] at hb; have := H.inb _ _ _ _ hb; omega
 ·intro i oi b β e1 hi hb hg
  rw [Heap.get_set] at hi
  by_cases i1 : i = id
  ·subst i1
   rw [Emb.put_same] at hb; simp at hb
   have : b < K.w₀.heap.size := H.hF _ (H.hG.1 _ hg)
   omega
  ·rw [if_neg i1] at hi; rw [Emb.put_ne _ _ _ _ i1] at hb
   exact H.hid i oi b β e1 hi hb hg
 ·rintro i ⟨hi, hne⟩
  have := H.nev i hi
  exact ⟨this.1, by rw [Heap.get_set_ne _ _ _ _ hne]; exact this.2⟩
 ·rintro i ⟨hi, hne⟩
  have := H.nul i hi
  exact ⟨this.1, by rw [Emb.put_ne _ _ _ _ hne]; exact this.2⟩
end
def overlay (d : Heap) : List Nat → Heap → Heap
 | [], g => g
 | i :: is, g => overlay d is (g.put i (d.get i))
theorem overlay_next (d : Heap) : ∀ (is : List Nat) (g : Heap), (overlay d is g).next = g.next
 | [], _ => rfl
 | i :: is, g => by rw [overlay, overlay_next]; rfl
theorem overlay_get (d : Heap) (j : Nat) : ∀ (is : List Nat) (g : Heap), (overlay d is g).get j = if j ∈ is then d.get j else g.get j
 | [], g => by simp [overlay]
 | i :: is, g => by
  rw [overlay, overlay_get d j is, Heap.get_put]
  by_cases h1 : j ∈ is
  ·simp [h1]
  ·by_cases h2 : j = i
   ·subst h2; simp [h1]
   ·simp [h1, h2]
theorem exists_overlay (d g : Heap) (n : Nat) (S : Nat → Prop) (hS : ∀ i, S i → i < n) : ∃ h' : Heap, (∀ i, S i → h'.get i = d.get i) ∧ (∀ i, ¬ S i → h'.get i = g.get i) ∧ h'.next = g.next := by
 classical
 refine ⟨overlay d ((List.range n).filter fun i => decide (S i)) g, fun i hi => ?_, fun i hi => ?_, overlay_next _ _ _⟩
 ·rw [overlay_get, if_pos (by simp [hi, hS i hi])]
 ·rw [overlay_get, if_neg (by simp [hi])]
def edgesOf (o : Oper) : List Nat := (o.after.toList.filter (Region.binds .any)).map (·.on)
def prec (B : List Nat) (i j : Nat) : Bool := (B.getD j 0).testBit i
def maskOf (B : List Nat) : List Nat → Nat
 | [] => 0
 | e :: es => (2 ^ e ||| B.getD e 0) ||| maskOf B es
theorem maskOf_spec (B : List Nat) (i : Nat) : ∀ es : List Nat, (maskOf B es).testBit i = true → ∃ e ∈ es, i = e ∨ prec B i e = true
 | [], h => by simp [maskOf] at h
 | e :: es, h => by
  simp only [maskOf, Nat.testBit_or, Bool.or_eq_true] at h
  rcases h with (h | h) | h
  ·exact ⟨e, by simp, .inl (by simp [Nat.testBit_two_pow] at h; exact h.symm)⟩
  ·exact ⟨e, by simp, .inr h⟩
  ·obtain ⟨e', h1, h2⟩ := maskOf_spec B i es h
   exact ⟨e', by simp [h1], h2⟩
def masksOk (B : List Nat) (ops : Array Oper) : Prop := ∀ j o, ops[j]? = some o → (∀ e ∈ edgesOf o, e < j) ∧ ∀ i, prec B i j = true → ∃ e ∈ edgesOf o, i = e ∨ prec B i e = true
def Closed (ops : Array Oper) (listed : Array Bool) : Prop := ∀ j o, ops[j]? = some o → listed.getD j false = true → ∀ e ∈ edgesOf o, listed.getD e false = true
theorem prec_listed {B : List Nat} {ops : Array Oper} (hB : masksOk B ops) {listed : Array Bool} (hc : Closed ops listed) (hl : listed.size = ops.size) : ∀ (n j : Nat), j < n → ∀ (o : Oper), ops[j]? = some o → (∀ e ∈ edgesOf o, listed.getD e false = true) →
  ∀ i, prec B i j = true → listed.getD i false = true
 | 0, _, hn, _, _, _, _, _ => by omega
 | n + 1, j, hn, o, ho, hall, i, hp => by
  obtain ⟨h1, h2⟩ := hB j o ho
  obtain ⟨e, he, hh⟩ := h2 i hp
  rcases hh with rfl | hh
  ·exact hall _ he
  ·have hel := hall e he
   have hlt : e < listed.size := by
    rcases Nat.lt_or_ge e listed.size with h | h
    ·exact h
    ·simp [Array.getElem?_eq_none h] at hel
   have : ops[e]? = some ops[e] := by rw [Array.getElem?_eq_getElem (by omega)]
   exact prec_listed hB hc hl n e (by have := h1 e he; omega) _ this (hc e _ this hel) i hh
theorem ready_edges {ops : Array Oper} {listed : Array Bool} {j : Nat} (h : j ∈ Region.ready .any ops listed) : listed.getD j true = false ∧ ∃ o, ops[j]? = some o ∧ ∀ e ∈ edgesOf o, listed.getD e false = true := by
 obtain ⟨h0, o, ho, h1⟩ := mem_ready.1 h
 refine ⟨h0, o, ho, fun e he => ?_⟩
 simp only [edgesOf, List.mem_map, List.mem_filter] at he
 obtain ⟨x, ⟨hx, hb⟩, rfl⟩ := he
 exact h1 x (by simpa using hx) hb
theorem ready_nil {B : List Nat} {ops : Array Oper} (hB : masksOk B ops) {listed : Array Bool} (hl : listed.size = ops.size) (h : Region.ready .any ops listed = []) : ∀ (n i : Nat), i < n → i < ops.size → listed.getD i false = true
 | 0, _, hn, _ => by omega
 | n + 1, i, hn, hi => by
  cases hq : listed.getD i false with
  | true => rfl
  | false =>
   have ho : ops[i]? = some ops[i] := Array.getElem?_eq_getElem hi
   have hmem : i ∈ Region.ready .any ops listed := by
    rw [mem_ready]
    refine ⟨?_, ops[i], ho, fun e he hb => ?_⟩
    ·have : i < listed.size := by omega
     simp [Array.getD_eq_getD_getElem?, Array.getElem?_eq_getElem this] at hq ⊢
     exact hq
    ·have hed : e.on ∈ edgesOf ops[i] := by
      simp only [edgesOf, List.mem_map, List.mem_filter]
      exact ⟨e, ⟨by simpa using he, hb⟩, rfl⟩
     have hlt := (hB i _ ho).1 _ hed
     exact ready_nil hB hl h n e.on (by omega) (by omega)
   rw [h] at hmem
   simp at hmem
def left (listed : Array Bool) : Nat → Nat
 | 0 => 0
 | m + 1 => left listed m + (if listed.getD m false then 0 else 1)
theorem left_set {listed : Array Bool} {i : Nat} (hi : i < listed.size) (hf : listed.getD i false = false) : ∀ m, (i < m → left (listed.setIfInBounds i true) m + 1 = left listed m) ∧ (m ≤ i → left (listed.setIfInBounds i true) m = left listed m)
 | 0 => ⟨by omega, fun _ => rfl⟩
 | m + 1 => by
  obtain ⟨h1, h2⟩ := left_set hi hf m
  refine ⟨fun hlt => ?_, fun hle => ?_⟩
  ·by_cases e : i = m
   ·subst e
    have h3 := h2 (Nat.le_refl _)
    have h4 : (listed.setIfInBounds i true).getD i false = true := by simp [hi]
    simp only [left, h4, hf, h3]; simp
   ·have h3 := h1 (by omega)
    simp only [left, getD_set_ne false e]
    omega
  ·have h3 := h2 (by omega)
   simp only [left, getD_set_ne false (show i ≠ m by omega), h3]
theorem left_zero {listed : Array Bool} : ∀ {m : Nat}, left listed m = 0 → ∀ i, i < m → listed.getD i false = true
 | 0, _, i, hi => by omega
 | m + 1, h, i, hi => by
  simp only [left] at h
  have h1 : left listed m = 0 := by omega
  by_cases e : i = m
  ·subst e
   cases hq : listed.getD i false with
   | true => rfl
   | false => simp [hq] at h
  ·exact left_zero h1 i (by omega)
theorem left_rep (n : Nat) : ∀ m, m ≤ n → left (Array.replicate n false) m = m
 | 0, _ => rfl
 | m + 1, h => by
  have : (Array.replicate n false).getD m false = false := by simp [Array.getElem?_replicate]; split <;> rfl
  simp only [left, left_rep n m (by omega), this]; simp
theorem evD_trace {call : CallFn} {base : Nat} : ∀ (its : List DIt) (a : Fr) (h : Heap) (a' : Fr) (h' : Heap) (hs : List (Fr × Heap)), evD call base its a h = some (a', h', hs) →
  ∃ (fr : Nat → Fr) (hp : Nat → Heap), fr 0 = a ∧ hp 0 = h ∧ fr its.length = a' ∧ hp its.length = h' ∧ (∀ p, p ≤ its.length → hs[p]? = some (fr p, hp p)) ∧ (∀ p, its.length < p → hs[p]? = none) ∧
   ∀ (p : Nat) (x : DIt), its[p]? = some x → stepD call base x (fr p) (hp p) = some (fr (p + 1), hp (p + 1))
 | [], a, h, a', h', hs, e => by
  simp only [evD, Option.some.injEq, Prod.mk.injEq] at e; obtain ⟨rfl, rfl, rfl⟩ := e
  refine ⟨fun _ => a, fun _ => h, rfl, rfl, rfl, rfl, fun p hp => ?_, fun p hp => ?_, fun p x hx => by simp at hx⟩
  ·simp at hp; subst hp; rfl
  ·simp at hp; simp; omega
 | it :: its, a, h, a', h', hs, e => by
  simp only [evD] at e
  split at e
  ·next a₁ h₁ he =>
   split at e
   ·next a₂ h₂ hs₂ he₂ =>
    simp only [Option.some.injEq, Prod.mk.injEq] at e; obtain ⟨rfl, rfl, rfl⟩ := e
    obtain ⟨fr, hp, h1, h2, h3, h4, h5, h6, h7⟩ := evD_trace its a₁ h₁ a₂ h₂ hs₂ he₂
    refine ⟨fun p => match p with | 0 => a | p + 1 => fr p, fun p => match p with | 0 => h | p + 1 => hp p, rfl, rfl, h3, h4, ?_, ?_, ?_⟩
    ·intro p hp'
     cases p with
     | zero => rfl
     | succ p => simpa using h5 p (by simpa using hp')
    ·intro p hp'
     cases p with
     | zero => simp at hp'
     | succ p => simpa using h6 p (by simpa using hp')
    ·intro p x hx
     cases p with
     | zero =>
      simp at hx; subst hx
      simp only [h1, h2]; exact he
     | succ p => exact h7 p x (by simpa using hx)
   ·simp at e
  ·simp at e
theorem checkD_spec {out : List CVal} {hs : List (Fr × Heap)} : ∀ {its : List DIt} {ss : List (Fr × Heap)}, checkD out hs its ss = true → ∀ (p : Nat) (x : DIt) (ks : List Nat) (s : Fr × Heap), its[p]? = some x → ss[p]? = some s → x.kind = .quiet ks → ∀ k ∈ ks, checkQ x.c s.1.tmps out hs k = true
 | [], _, _, p, x, ks, _, hx, _, _, _, _ => by simp at hx
 | it :: its, s :: ss, h, p, x, ks, s', hx, hs', hk, k, hm => by
  simp only [checkD, Bool.and_eq_true] at h
  cases p with
  | zero =>
   simp at hx hs'; subst hx; subst hs'
   have := h.1
   rw [hk] at this
   exact List.all_eq_true.1 this k hm
  | succ p => exact checkD_spec h.2 p x ks s' (by simpa using hx) (by simpa using hs') hk k hm
 | _ :: _, [], h, _, _, _, _, _, _, _, _, _ => by simp [checkD] at h
def isEff (its : List DIt) (p : Nat) : Prop := ∃ y, its[p]? = some y ∧ y.kind = .eff
def isAl (its : List DIt) (p : Nat) (x : DIt) (aid : Nat) : Prop := its[p]? = some x ∧ x.kind = .alloc aid
def isStage (its : List DIt) (τ : Nat) : Prop := τ = 0 ∨ ∃ q, τ = q + 1 ∧ isEff its q
structure DrawOk (P : Program) (glb : Gl) (ops : Array Oper) (its : List DIt) (k : Nat) (B : List Nat) : Prop where
 masks : masksOk B ops
 inj : ∀ (p q : Nat) (x y : DIt), its[p]? = some x → its[q]? = some y → x.ix = y.ix → p = q
 sur : ∀ i, i < ops.size → ∃ (p : Nat) (x : DIt), its[p]? = some x ∧ x.ix = i
 rel : ∀ (p : Nat) (x : DIt), its[p]? = some x → ∃ o, ops[x.ix]? = some o ∧ CoperR P glb ops o x.c ∧
  ∀ t, x.c.looks o t → ∀ (q : Nat) (y : DIt), its[q]? = some y → y.c.dst = some t → (q < p ∧ prec B y.ix x.ix = true) ∨ (p ≤ q ∧ (p = q ∨ prec B x.ix y.ix = true))
 dst : ∀ (p q : Nat) (x y : DIt) (t : Nat), its[p]? = some x → its[q]? = some y → x.c.dst = some t → y.c.dst = some t → p = q
 quiet : ∀ (p : Nat) (x : DIt) (ks : List Nat), its[p]? = some x → x.kind = .quiet ks → quietC x.c.op = true ∧ ∀ τ, isStage its τ → τ ≤ its.length → τ ∈ ks ∨
  (∃ (q : Nat) (y : DIt), its[q]? = some y ∧ y.kind = .eff ∧ τ ≤ q ∧ prec B y.ix x.ix = true) ∨ (∃ (q : Nat) (y : DIt), its[q]? = some y ∧ y.kind = .eff ∧ q < τ ∧ prec B x.ix y.ix = true)
 alloc : ∀ (p : Nat) (x : DIt) (aid : Nat), isAl its p x aid → isA x.c.op = true ∧ aid < k ∧ ∀ (q : Nat) (y : DIt), its[q]? = some y → y.kind = .eff → p < q → prec B x.ix y.ix = true
 aid : ∀ (p q : Nat) (x y : DIt) (aid : Nat), isAl its p x aid → isAl its q y aid → p = q
 eff : ∀ (p q : Nat) (x y : DIt), its[p]? = some x → its[q]? = some y → x.kind = .eff → y.kind = .eff → p < q → prec B x.ix y.ix = true
section
variable {call : CallFn} {base : Nat} {x : DIt} {a a' : Fr} {h h' : Heap}
theorem stepD_quiet {ks : List Nat} (hk : x.kind = .quiet ks) (e : stepD call base x a h = some (a', h')) : ∃ v, a' = a.done x.c.dst v [] ∧ h' = h := by
 simp only [stepD, hk] at e
 split at e
 ·next v g he => simp only [Option.some.injEq, Prod.mk.injEq] at e; obtain ⟨rfl, rfl⟩ := e; exact ⟨v, rfl, rfl⟩
 ·simp at e
theorem stepD_alloc {aid : Nat} (hk : x.kind = .alloc aid) (e : stepD call base x a h = some (a', h')) : ∃ v obj, x.c.guard = none ∧ allocC x.c.op a.tmps (base + aid) = some (v, obj) ∧ a' = a.done x.c.dst v [] ∧ h' = h.set (base + aid) obj := by
 simp only [stepD, hk] at e
 split at e
 ·next v obj hg he => simp only [Option.some.injEq, Prod.mk.injEq] at e; obtain ⟨rfl, rfl⟩ := e; exact ⟨v, obj, hg, he, rfl, rfl⟩
 ·simp at e
theorem stepD_eff (hk : x.kind = .eff) (e : stepD call base x a h = some (a', h')) : ∃ v ds, evOp1 call x.c a.tmps h = some (v, ds, h') ∧ a' = a.done x.c.dst v ds := by
 simp only [stepD, hk, evOper] at e
 split at e
 ·next v ds g he => simp only [Option.some.injEq, Prod.mk.injEq] at e; obtain ⟨rfl, rfl⟩ := e; exact ⟨v, ds, he, rfl⟩
 ·simp at e
theorem stepD_any (e : stepD call base x a h = some (a', h')) : ∃ v ds, a' = a.done x.c.dst v ds := by
 cases hk : x.kind with
 | quiet ks => obtain ⟨v, h1, _⟩ := stepD_quiet hk e; exact ⟨v, [], h1⟩
 | alloc aid => obtain ⟨v, o, _, _, h1, _⟩ := stepD_alloc hk e; exact ⟨v, [], h1⟩
 | eff => obtain ⟨v, ds, _, h1⟩ := stepD_eff hk e; exact ⟨v, ds, h1⟩
end
theorem Fr.done_len (a : Fr) (d : Option Nat) (v : CVal) (ds : List (FuncId × List CVal)) : (a.done d v ds).tmps.length = a.tmps.length := by
 cases d <;> simp [Fr.done, Fr.put]
theorem Fr.done_ne (a : Fr) (d : Option Nat) (v : CVal) (ds : List (FuncId × List CVal)) (t : Nat) (h : d ≠ some t) : (a.done d v ds).tmps.getD t .undef = a.tmps.getD t .undef := by
 cases d with
 | none => rfl
 | some d => simp [Fr.done, Fr.put, List.getElem?_set_ne (show d ≠ t by rintro rfl; exact h rfl)]
theorem Fr.done_eq (a : Fr) (t : Nat) (v : CVal) (ds : List (FuncId × List CVal)) (h : t < a.tmps.length) : (a.done (some t) v ds).tmps.getD t .undef = v := by
 simp [Fr.done, Fr.put, h]
theorem Fr.done_defers (a : Fr) (d : Option Nat) (v : CVal) (ds : List (FuncId × List CVal)) : (a.done d v ds).defers = ds ++ a.defers := by
 cases d <;> rfl
theorem tmpR_put_ne {ι : Emb} {a : List CVal} {A : Act} {d : Option Nat} {t : Nat} {v' : Value} (h : d ≠ some t) (R : TmpR ι a A t) (ds : List Deferred) : TmpR ι a ({ A with defers := ds }.put d v') t := by
 cases d with
 | none => exact R
 | some d =>
  have hne : d ≠ t := by rintro rfl; exact h rfl
  simpa [TmpR, Act.put, Array.getElem?_setIfInBounds_ne hne] using R
theorem tmpR_put_eq {ι : Emb} {a : List CVal} {A : Act} {t : Nat} {v' : Value} (hl : A.tmps.size = a.length) (R : t < a.length → VR ι (a.getD t .undef) v') (ds : List Deferred) : TmpR ι a ({ A with defers := ds }.put (some t) v') t := by
 unfold TmpR
 by_cases hlt : t < a.length
 ·have : (A.tmps.setIfInBounds t v').getD t undef = v' := by simp [hl, hlt]
  simp only [Act.put, this]
  exact R hlt
 ·rw [List.getD_eq_getElem?_getD, List.getElem?_eq_none (by omega)]
  exact .undef _
theorem put_size (A : Act) (d : Option Nat) (v : Value) : (A.put d v).tmps.size = A.tmps.size := by
 cases d <;> simp [Act.put]
theorem put_defers' (A : Act) (d : Option Nat) (v : Value) : (A.put d v).defers = A.defers := by
 cases d <;> rfl
section
variable {P : Program} {glb : Gl} {call : CallFn} {ops : Array Oper} {its : List DIt} {k : Nat} {B : List Nat}
variable {base : Nat} {fr : Nat → Fr} {hp : Nat → Heap}
def Run (call : CallFn) (its : List DIt) (base : Nat) (fr : Nat → Fr) (hp : Nat → Heap) : Prop := ∀ (p : Nat) (x : DIt), its[p]? = some x → stepD call base x (fr p) (hp p) = some (fr (p + 1), hp (p + 1))
theorem getIt {p : Nat} (hp : p < its.length) : ∃ x, its[p]? = some x := ⟨its[p], List.getElem?_eq_getElem hp⟩
theorem itLt {p : Nat} {x : DIt} (h : its[p]? = some x) : p < its.length := (List.getElem?_eq_some_iff.1 h).1
theorem Run.len (R : Run call its base fr hp) : ∀ p, p ≤ its.length → (fr p).tmps.length = (fr 0).tmps.length
 | 0, _ => rfl
 | p + 1, h => by
  obtain ⟨x, hx⟩ := getIt (its := its) (p := p) (by omega)
  obtain ⟨v, ds, e⟩ := stepD_any (R p x hx)
  rw [e, Fr.done_len]; exact Run.len R p (by omega)
theorem Run.late (R : Run call its base fr hp) {t : Nat} : ∀ (d p : Nat), its.length - p = d → p ≤ its.length → (∀ (q : Nat) (y : DIt), its[q]? = some y → y.c.dst = some t → q < p) → (fr p).tmps.getD t .undef = (fr its.length).tmps.getD t .undef
 | 0, p, hd, hp', _ => by rw [show p = its.length by omega]
 | d + 1, p, hd, hp', hq => by
  obtain ⟨x, hx⟩ := getIt (its := its) (p := p) (by omega)
  obtain ⟨v, ds, e⟩ := stepD_any (R p x hx)
  rw [← Run.late R d (p + 1) (by omega) (by omega) (fun q y h1 h2 => by have := hq q y h1 h2; omega), e, Fr.done_ne]
  intro h1
  have := hq p x hx h1
  omega
theorem Run.early (R : Run call its base fr hp) {t : Nat} : ∀ (p : Nat), p ≤ its.length → (∀ (q : Nat) (y : DIt), its[q]? = some y → y.c.dst = some t → p ≤ q) → (fr p).tmps.getD t .undef = (fr 0).tmps.getD t .undef
 | 0, _, _ => rfl
 | p + 1, hp', hq => by
  obtain ⟨x, hx⟩ := getIt (its := its) (p := p) (by omega)
  obtain ⟨v, ds, e⟩ := stepD_any (R p x hx)
  rw [e, Fr.done_ne]
  ·exact Run.early R p (by omega) (fun q y h1 h2 => by have := hq q y h1 h2; omega)
  ·intro h1
   have := hq p x hx h1
   omega
theorem Run.value (R : Run call its base fr hp) (hdst : ∀ (p q : Nat) (x y : DIt) (t : Nat), its[p]? = some x → its[q]? = some y → x.c.dst = some t → y.c.dst = some t → p = q) {p : Nat} {x : DIt} (hx : its[p]? = some x) {t : Nat} (ht : x.c.dst = some t)
  {v : CVal} {ds : List (FuncId × List CVal)} (e : fr (p + 1) = (fr p).done x.c.dst v ds) (hlt : t < (fr 0).tmps.length) : (fr its.length).tmps.getD t .undef = v := by
 have hp' := itLt hx
 rw [← R.late (t := t) _ (p + 1) rfl (by omega) (fun q y h1 h2 => by have := hdst q p y x t h1 hx h2 ht; omega), e, ht]
 exact Fr.done_eq _ _ _ _ (by rw [R.len p (by omega)]; exact hlt)
theorem Run.calm (R : Run call its base fr hp) {τ : Nat} : ∀ (d q : Nat), q = τ + d → q ≤ its.length → (∀ r, τ ≤ r → r < q → ¬ isEff its r) →
  (hp q).next = (hp τ).next ∧ (fr q).defers = (fr τ).defers ∧ (∀ i, (∀ (r : Nat) (y : DIt) (aid : Nat), τ ≤ r → r < q → isAl its r y aid → i ≠ base + aid) → (hp q).get i = (hp τ).get i)
 | 0, q, hq, _, _ => by subst hq; exact ⟨rfl, rfl, fun _ _ => rfl⟩
 | d + 1, q, hq, hle, he => by
  obtain ⟨h1, h2, h3⟩ := Run.calm R d (τ + d) rfl (by omega) (fun r hr hr' => he r hr (by omega))
  obtain ⟨x, hx⟩ := getIt (its := its) (p := τ + d) (by omega)
  have hs := R _ x hx
  have hqe : q = τ + d + 1 := by omega
  subst hqe
  cases hk : x.kind with
  | quiet ks =>
   obtain ⟨v, e1, e2⟩ := stepD_quiet hk hs
   refine ⟨by rw [e2]; exact h1, by rw [e1, Fr.done_defers]; exact h2, fun i hi => ?_⟩
   rw [e2]; exact h3 i fun r y aid hr hr' => hi r y aid hr (by omega)
  | alloc aid =>
   obtain ⟨v, obj, _, _, e1, e2⟩ := stepD_alloc hk hs
   refine ⟨by rw [e2]; exact h1, by rw [e1, Fr.done_defers]; exact h2, fun i hi => ?_⟩
   rw [e2, Heap.get_set_ne _ _ _ _ (hi (τ + d) x aid (by omega) (by omega) ⟨hx, hk⟩)]
   exact h3 i fun r y aid hr hr' => hi r y aid hr (by omega)
  | eff => exact absurd ⟨x, hx, hk⟩ (he (τ + d) (by omega) (by omega))
theorem Run.calm_in (R : Run call its base fr hp) (haid : ∀ (p q : Nat) (x y : DIt) (aid : Nat), isAl its p x aid → isAl its q y aid → p = q) {τ q : Nat} (hle : q ≤ its.length) (he : ∀ r, τ ≤ r → r < q → ¬ isEff its r)
  {r : Nat} {y : DIt} {aid : Nat} (hr : τ ≤ r) (hr' : r < q) (ha : isAl its r y aid) {v : CVal} {obj : CObj} (hal : allocC y.c.op (fr r).tmps (base + aid) = some (v, obj)) : (hp q).get (base + aid) = some obj := by
 obtain ⟨v', obj', _, e1, _, e2⟩ := stepD_alloc ha.2 (R r y ha.1)
 rw [hal] at e1
 simp only [Option.some.injEq, Prod.mk.injEq] at e1
 obtain ⟨rfl, rfl⟩ := e1
 have h3 := (R.calm (τ := r + 1) (q - (r + 1)) q (by omega) hle (fun r' h1 h2 => he r' (by omega) h2)).2.2 (base + aid) (fun r' y' aid' h1 h2 h4 e => by
  have : aid = aid' := by omega
  subst this
  have := haid r r' y y' aid ha h4
  omega)
 rw [h3, e2, Heap.get_set]; simp
def Unborn (its : List DIt) (base : Nat) (listed : Array Bool) (i : Nat) : Prop := ∃ (q : Nat) (y : DIt) (aid : Nat), isAl its q y aid ∧ i = base + aid ∧ listed.getD y.ix false = false
def Ctx.wait (K : Ctx) (its : List DIt) (base : Nat) (listed : Array Bool) : Ctx := { K with N := fun i => K.N i ∨ Unborn its base listed i, U := fun i => K.U i ∨ Unborn its base listed i }
structure St (ops : Array Oper) (its : List DIt) (base : Nat) (fr : Nat → Fr) (hp : Nat → Heap) (K : Ctx) (ι₀ : Emb) (listed : Array Bool) (A : Act) (w : World) (ι : Emb) (τ : Nat) (hD : Heap) : Prop where
 le : ι₀.le ι
 tn : τ ≤ its.length
 stage : isStage its τ
 effs : ∀ (q : Nat) (y : DIt), its[q]? = some y → y.kind = .eff → (listed.getD y.ix false = true ↔ q < τ)
 closed : Closed ops listed
 size : listed.size = ops.size
 inv : Inv (K.wait its base listed) ι hD w
 pend : ∀ (q : Nat) (y : DIt) (aid : Nat) (v : CVal) (obj : CObj), isAl its q y aid → τ ≤ q → listed.getD y.ix false = true → allocC y.c.op (fr q).tmps (base + aid) = some (v, obj) → hD.get (base + aid) = some obj ∧ obj.wr = true
 same : ∀ i, (∀ (q : Nat) (y : DIt) (aid : Nat), isAl its q y aid → τ ≤ q → listed.getD y.ix false = true → i ≠ base + aid) → hD.get i = (hp τ).get i
 next : hD.next = (hp τ).next
 none : ∀ (q : Nat) (y : DIt) (aid : Nat), isAl its q y aid → τ ≤ q → (hp τ).get (base + aid) = none
 len : A.tmps.size = (fr 0).tmps.length
 slots : ∀ t, (∀ (q : Nat) (y : DIt), its[q]? = some y → y.c.dst = some t → listed.getD y.ix false = true) → TmpR ι (fr its.length).tmps A t
 slots₀ : ∀ t, (∀ (q : Nat) (y : DIt), its[q]? = some y → y.c.dst = some t → listed.getD y.ix false = false) → TmpR ι (fr 0).tmps A t
 defers : DRs ι (fr τ).defers A.defers
variable {K : Ctx} {ι₀ ι : Emb} {listed : Array Bool} {A : Act} {w : World} {τ : Nat} {hD : Heap}
structure Ripe (ops : Array Oper) (its : List DIt) (listed : Array Bool) (p : Nat) (x : DIt) (o : Oper) : Prop where
 it : its[p]? = some x
 op : ops[x.ix]? = some o
 not : listed.getD x.ix false = false
 edges : ∀ e ∈ edgesOf o, listed.getD e false = true
theorem Ripe.prec {p : Nat} {x : DIt} {o : Oper} (D : DrawOk P glb ops its k B) (S : St ops its base fr hp K ι₀ listed A w ι τ hD) (r : Ripe ops its listed p x o) {i : Nat} (h : prec B i x.ix = true) : listed.getD i false = true :=
 prec_listed D.masks S.closed S.size _ _ (Nat.lt_succ_self _) o r.op r.edges i h
theorem Ripe.slots' {p : Nat} {x : DIt} {o : Oper} (R : Run call its base fr hp) (D : DrawOk P glb ops its k B) (S : St ops its base fr hp K ι₀ listed A w ι τ hD) (r : Ripe ops its listed p x o) {t : Nat} (ht : x.c.looks o t) : TmpR ι (fr p).tmps A t := by
 obtain ⟨o', ho', _, hl⟩ := D.rel p x r.it
 rw [r.op] at ho'; simp at ho'; subst ho'
 have hpl := itLt r.it
 classical
 by_cases hw : ∃ (q : Nat) (y : DIt), its[q]? = some y ∧ y.c.dst = some t ∧ q < p
 ·obtain ⟨q, y, hy, hd, hq⟩ := hw
  have huniq : ∀ (q' : Nat) (y' : DIt), its[q']? = some y' → y'.c.dst = some t → q' = q ∧ y' = y := fun q' y' hy' hd' => by
   have := D.dst q' q y' y t hy' hy hd' hd
   subst this
   rw [hy] at hy'; simp at hy'; exact ⟨rfl, hy'.symm⟩
  have hyl : listed.getD y.ix false = true := by
   rcases hl t ht q y hy hd with h | h
   ·exact r.prec D S h.2
   ·omega
  have h := S.slots t fun q' y' hy' hd' => by rw [(huniq q' y' hy' hd').2]; exact hyl
  unfold TmpR at h ⊢
  rw [R.late (t := t) _ p rfl (Nat.le_of_lt hpl) (fun q' y' hy' hd' => by rw [(huniq q' y' hy' hd').1]; exact hq)]
  exact h
 ·have hge : ∀ (q : Nat) (y : DIt), its[q]? = some y → y.c.dst = some t → p ≤ q := fun q y hy hd => by
   rcases Nat.lt_or_ge q p with h | h
   ·exact absurd ⟨q, y, hy, hd, h⟩ hw
   ·exact h
  have h := S.slots₀ t fun q y hy hd => by
   rcases hl t ht q y hy hd with h | ⟨_, h | h⟩
   ·have := hge q y hy hd; omega
   ·subst h
    rw [r.it] at hy; simp at hy; subst hy
    exact r.not
   ·cases hq : listed.getD y.ix false with
    | false => rfl
    | true =>
     obtain ⟨oy, hoy, _⟩ := D.rel q y hy
     have := prec_listed D.masks S.closed S.size _ _ (Nat.lt_succ_self _) oy hoy (S.closed _ _ hoy hq) x.ix h
     rw [r.not] at this; simp at this
  unfold TmpR at h ⊢
  rw [R.early (t := t) p (Nat.le_of_lt hpl) hge]
  exact h
theorem Ripe.set_self {p : Nat} {x : DIt} {o : Oper} (S : St ops its base fr hp K ι₀ listed A w ι τ hD) (r : Ripe ops its listed p x o) : (listed.setIfInBounds x.ix true).getD x.ix false = true := by
 have := (Array.getElem?_eq_some_iff.1 r.op).1
 have h2 := S.size
 simp [show x.ix < listed.size by omega]
theorem Ripe.closed {p : Nat} {x : DIt} {o : Oper} (S : St ops its base fr hp K ι₀ listed A w ι τ hD) (r : Ripe ops its listed p x o) : Closed ops (listed.setIfInBounds x.ix true) := by
 intro j o' ho' hl e he
 by_cases hj : x.ix = j
 ·subst hj
  rw [r.op] at ho'; simp at ho'; subst ho'
  exact getD_set_true (r.edges e he)
 ·rw [getD_set_ne false hj] at hl
  exact getD_set_true (S.closed j o' ho' hl e he)
theorem Ripe.slotsAfter {p : Nat} {x : DIt} {o : Oper} (D : DrawOk P glb ops its k B) (S : St ops its base fr hp K ι₀ listed A w ι τ hD) (Rn : Run call its base fr hp) (r : Ripe ops its listed p x o) {v : CVal} {ds : List (FuncId × List CVal)}
  (e : fr (p + 1) = (fr p).done x.c.dst v ds) {ι' : Emb} (hle : ι.le ι') {v' : Value} (hv : VR ι' v v') (ds' : List Deferred) (t : Nat) (ht : ∀ (q : Nat) (y : DIt), its[q]? = some y → y.c.dst = some t → (listed.setIfInBounds x.ix true).getD y.ix false = true) :
  TmpR ι' (fr its.length).tmps ({ A with defers := ds' }.put x.c.dst v') t := by
 by_cases hd : x.c.dst = some t
 ·rw [hd]
  have hlen := Rn.len its.length (Nat.le_refl _)
  refine tmpR_put_eq (by rw [S.len, hlen]) (fun hlt => ?_) ds'
  rw [Rn.value D.dst r.it hd e (by rw [hlen] at hlt; exact hlt)]
  exact hv
 ·refine tmpR_put_ne hd ?_ ds'
  refine VR.mono hle (S.slots t fun q y hy hyd => ?_)
  have h1 := ht q y hy hyd
  by_cases hi : x.ix = y.ix
  ·have := D.inj p q x y r.it hy hi
   subst this
   rw [r.it] at hy; simp at hy; subst hy
   exact absurd hyd hd
  ·rw [getD_set_ne false hi] at h1; exact h1
theorem Ripe.slotsAfter₀ {p : Nat} {x : DIt} {o : Oper} (S : St ops its base fr hp K ι₀ listed A w ι τ hD) (r : Ripe ops its listed p x o) {ι' : Emb} (hle : ι.le ι') {v' : Value} (ds' : List Deferred) (t : Nat)
  (ht : ∀ (q : Nat) (y : DIt), its[q]? = some y → y.c.dst = some t → (listed.setIfInBounds x.ix true).getD y.ix false = false) : TmpR ι' (fr 0).tmps ({ A with defers := ds' }.put x.c.dst v') t := by
 have hd : x.c.dst ≠ some t := fun hd => by
  have := ht p x r.it hd
  rw [r.set_self S] at this; simp at this
 refine tmpR_put_ne hd (VR.mono hle (S.slots₀ t fun q y hy hyd => ?_)) ds'
 cases hq : listed.getD y.ix false with
 | false => rfl
 | true => have := ht q y hy hyd; rw [getD_set_true hq] at this; simp at this
theorem Unborn.anti {i j : Nat} (h : Unborn its base (listed.setIfInBounds j true) i) : Unborn its base listed i := by
 obtain ⟨q, y, aid, h1, h2, h3⟩ := h
 refine ⟨q, y, aid, h1, h2, ?_⟩
 cases hq : listed.getD y.ix false with
 | false => rfl
 | true => rw [getD_set_true hq] at h3; simp at h3
theorem Ripe.stage {p : Nat} {x : DIt} {o : Oper} {ks : List Nat} (D : DrawOk P glb ops its k B) (S : St ops its base fr hp K ι₀ listed A w ι τ hD) (r : Ripe ops its listed p x o) (hk : x.kind = .quiet ks) : τ ∈ ks := by
 rcases (D.quiet p x ks r.it hk).2 τ S.stage S.tn with h | ⟨q, y, hy, hye, hq, hb⟩ | ⟨q, y, hy, hye, hq, hb⟩
 ·exact h
 ·have := (S.effs q y hy hye).1 (r.prec D S hb)
  omega
 ·have h1 := (S.effs q y hy hye).2 hq
  obtain ⟨oy, hoy, _⟩ := D.rel q y hy
  have := prec_listed D.masks S.closed S.size _ _ (Nat.lt_succ_self _) oy hoy (S.closed _ _ hoy h1) x.ix hb
  rw [r.not] at this; simp at this
def Early (its : List DIt) (base τ : Nat) (listed : Array Bool) (i : Nat) : Prop := ∃ (q : Nat) (y : DIt) (aid : Nat), isAl its q y aid ∧ τ ≤ q ∧ listed.getD y.ix false = true ∧ i = base + aid
theorem St.early (Rn : Run call its base fr hp) (S : St ops its base fr hp K ι₀ listed A w ι τ hD) {τ' : Nat} (hle : τ ≤ τ') {i : Nat} (h : Early its base τ' listed i) : ∃ o, hD.get i = some o ∧ o.wr = true := by
 obtain ⟨q, y, aid, h1, h2, h3, rfl⟩ := h
 obtain ⟨v, obj, _, ha, _⟩ := stepD_alloc h1.2 (Rn q y h1.1)
 exact ⟨obj, S.pend q y aid v obj h1 (by omega) h3 ha⟩
theorem quiet_step {p : Nat} {x : DIt} {o : Oper} {ks : List Nat} (D : DrawOk P glb ops its k B) (Rn : Run call its base fr hp) (S : St ops its base fr hp K ι₀ listed A w ι τ hD) (hk : K.glb = glb) (r : Ripe ops its listed p x o) (hq : x.kind = .quiet ks)
  {hs : List (Fr × Heap)} (hhs : ∀ p, p ≤ its.length → hs[p]? = some (fr p, hp p)) (hch : ∀ k ∈ ks, checkQ x.c (fr p).tmps (fr its.length).tmps hs k = true) {N : Act → World → Prop} {Q : Exit → Act → World → Prop}
  (next : ∀ A', St ops its base fr hp K ι₀ (listed.setIfInBounds x.ix true) A' w ι τ hD → N A' w) {rr : Option Nat} (hrr : rr.isSome = true → noDefO ops = true) : wpOpIn (Wd rr) 0 P ops Q x.ix N A w := by
 have hsem := semAt_wd (A := A) (fun z => noDefO_at (hrr z) r.op)
 have hc := hch τ (r.stage D S hq)
 simp only [checkQ, hhs τ S.tn] at hc
 obtain ⟨o', ho', R, hl⟩ := D.rel p x r.it
 rw [r.op] at ho'; simp at ho'; subst ho'
 obtain ⟨v₁, e₁, e₂⟩ := stepD_quiet hq (Rn p x r.it)
 have fin : ∀ (v : CVal) (v' : Value), (∀ d, x.c.dst = some d → v = (fr its.length).tmps.getD d .undef) → VR ι v v' → N (A.put x.c.dst v') w := by
  intro v v' hval hv
  refine next _ ?_
  have hne : ∀ (q : Nat) (y : DIt), its[q]? = some y → (¬ ∃ ks, y.kind = .quiet ks) → (listed.setIfInBounds x.ix true).getD y.ix false = listed.getD y.ix false := by
   intro q y hy hny
   refine getD_set_ne false fun hi => hny ?_
   have := D.inj p q x y r.it hy hi
   subst this
   rw [r.it] at hy; simp at hy; subst hy
   exact ⟨ks, hq⟩
  have hal : ∀ (q : Nat) (y : DIt) (aid : Nat), isAl its q y aid → (listed.setIfInBounds x.ix true).getD y.ix false = listed.getD y.ix false := fun q y aid h => hne q y h.1 (by rintro ⟨ks, hk⟩; rw [h.2] at hk; simp at hk)
  refine ⟨S.le, S.tn, S.stage, fun q y hy hye => ?_, r.closed S, by simp [S.size], ?_, fun q y aid v obj h1 h2 h3 => ?_, fun i hi => ?_, S.next, S.none, by rw [put_size]; exact S.len, fun t ht => ?_, fun t ht => r.slotsAfter₀ S (Emb.le.refl _) A.defers t ht, by rw [put_defers']; exact S.defers⟩
  ·rw [hne q y hy (by rintro ⟨ks, hk⟩; rw [hye] at hk; simp at hk)]; exact S.effs q y hy hye
  ·exact Inv.weak S.inv (fun i hi => hi.imp id Unborn.anti) (fun i hi => hi.imp id Unborn.anti)
  ·rw [hal q y aid h1] at h3; exact S.pend q y aid v obj h1 h2 h3
  ·exact S.same i fun q y aid h1 h2 h3 => hi q y aid h1 h2 (by rw [hal q y aid h1]; exact h3)
  ·by_cases hd : x.c.dst = some t
   ·rw [hd]
    have hlen := Rn.len its.length (Nat.le_refl _)
    refine tmpR_put_eq (A := A) (by rw [S.len, hlen]) (fun _ => ?_) A.defers
    rw [← hval t hd]; exact hv
   ·refine tmpR_put_ne (A := A) hd (S.slots t fun q y hy hyd => ?_) A.defers
    have h1 := ht q y hy hyd
    by_cases hi : x.ix = y.ix
    ·have := D.inj p q x y r.it hy hi
     subst this
     rw [r.it] at hy; simp at hy; subst hy
     exact absurd hyd hd
    ·rw [getD_set_ne false hi] at h1; exact h1
 have hS : ∀ i, Early its base τ listed i → ∃ o, hD.get i = some o ∧ o.wr = true := fun i h => S.early Rn (Nat.le_refl _) h
 have H' : Inv ((K.wait its base listed).hide ι (Early its base τ listed) w) ι (hp τ) w := by
  refine S.inv.hide hS (fun i => ?_) (fun i hi => ?_) S.next.symm
  ·rintro ⟨q, y, aid, h1, h2, h3, rfl⟩
   exact S.none q y aid h1 h2
  ·exact (S.same i fun q y aid h1 h2 h3 e => hi ⟨q, y, aid, h1, h2, h3, e⟩).symm
 split at hc
 ·next v g he =>
  have hval : ∀ d, x.c.dst = some d → v = (fr its.length).tmps.getD d .undef := by
   intro d hd
   rw [hd] at hc
   exact CVal.beq_eq hc
  unfold evOp1 at he
  simp only [wpOpIn, r.op]
  split at he
  ·simp at he
  ·next hw =>
   simp only [Option.some.injEq, Prod.mk.injEq] at he
   obtain ⟨rfl, _, _⟩ := he
   simp only [wanted_sim R (fun t ht => r.slots' Rn D S ht) hw, Bool.false_eq_true, if_false, ← R.dst]
   exact ⟨about_wd (r := rr), fin _ _ hval (VR.un ι)⟩
  ·next hw =>
   simp only [wanted_sim R (fun t ht => r.slots' Rn D S ht) hw, if_true]
   refine ⟨about_wd (r := rr), ?_⟩
   show o.uponIn (Wd rr) 0 P A N Q ((o.semAt rr A.eval).run P w)
   rw [hsem]
   have good := R.good.quiet (D.quiet p x ks r.it hq).1 _ ι (hp τ) w _ A (show ((K.wait its base listed).hide ι (Early its base τ listed) w).glb = glb from hk) H' (fun t ht => r.slots' Rn D S (.inl ht))
   split at he
   ·simp at he
   ·next v₂ h₂ hcop =>
    simp only [Option.some.injEq, Prod.mk.injEq] at he
    obtain ⟨rfl, _, _⟩ := he
    obtain ⟨v₃, v', e3, e4, hrun, hv⟩ := good _ _ hcop
    cases e3
    simp only [hrun, Oper.uponIn, ← R.dst]
    exact fin _ _ hval hv
   ·next f args h₂ hcop =>
    obtain ⟨v₃, v', e3, _⟩ := good _ _ hcop
    simp at e3
   ·next f args h₂ hcop =>
    obtain ⟨v₃, v', e3, _⟩ := good _ _ hcop
    simp at e3
   ·next i args h₂ hcop =>
    obtain ⟨v₃, v', e3, _⟩ := good _ _ hcop
    simp at e3
 ·simp at hc
end
section
variable {P : Program} {glb : Gl} {call : CallFn} {ops : Array Oper} {its : List DIt} {k : Nat} {B : List Nat}
variable {base : Nat} {fr : Nat → Fr} {hp : Nat → Heap}
variable {K : Ctx} {ι₀ ι : Emb} {listed : Array Bool} {A : Act} {w : World} {τ : Nat} {hD : Heap}
theorem Ripe.other {p : Nat} {x : DIt} {o : Oper} (D : DrawOk P glb ops its k B) (r : Ripe ops its listed p x o) {q : Nat} {y : DIt} (hy : its[q]? = some y) (hne : q ≠ p) :
  (listed.setIfInBounds x.ix true).getD y.ix false = listed.getD y.ix false :=
 getD_set_ne false fun hi => hne (D.inj p q x y r.it hy hi).symm
theorem alloc_step {p : Nat} {x : DIt} {o : Oper} {aid : Nat} (D : DrawOk P glb ops its k B) (Rn : Run call its base fr hp) (S : St ops its base fr hp K ι₀ listed A w ι τ hD) (hk : K.glb = glb)
  (hKN : ∀ i, K.N i → i < base) (hKU : ∀ i, K.U i → i < base) (r : Ripe ops its listed p x o) (hq : x.kind = .alloc aid) {N : Act → World → Prop} {Q : Exit → Act → World → Prop}
  (next : ∀ A' w' ι' hD', St ops its base fr hp K ι₀ (listed.setIfInBounds x.ix true) A' w' ι' τ hD' → N A' w') {rr : Option Nat} (hrr : rr.isSome = true → noDefO ops = true) : wpOpIn (Wd rr) 0 P ops Q x.ix N A w := by
 have hsem := semAt_wd (A := A) (fun z => noDefO_at (hrr z) r.op)
 have hax : isAl its p x aid := ⟨r.it, hq⟩
 obtain ⟨hA, haid, hae⟩ := D.alloc p x aid hax
 obtain ⟨o', ho', R, hl⟩ := D.rel p x r.it
 rw [r.op] at ho'; simp at ho'; subst ho'
 obtain ⟨v, obj, hguard, hal, e1, e2⟩ := stepD_alloc hq (Rn p x r.it)
 have hwant : Region.wanted o (yielded ops A.tmps) = true := wanted_sim R (a := (fr p).tmps) (fun t ht => r.slots' Rn D S ht) (by rw [hguard]; rfl)
 simp only [wpOpIn, r.op, hwant, if_true]
 refine ⟨about_wd (r := rr), ?_⟩
 show o.uponIn (Wd rr) 0 P A N Q ((o.semAt rr A.eval).run P w)
 rw [hsem]
 obtain ⟨hwr, O, v', hrun, hnew⟩ := R.good.alloc hA _ ι hD w (fr p).tmps A (show (K.wait its base listed).glb = glb from hk) S.inv (fun t ht => r.slots' Rn D S (.inl ht)) (base + aid) v obj hal
 simp only [hrun, Oper.uponIn, ← R.dst]
 have hub : Unborn its base listed (base + aid) := ⟨p, x, aid, hax, rfl, r.not⟩
 have hfr : ι (base + aid) = none := (S.inv.nul _ (.inr hub)).2
 have hle := ι.le_put (base + aid) (w.heap.size, 0, 0) hfr
 obtain ⟨hv, hobj⟩ := hnew _ hle (Emb.put_same _ _ _)
 have H' := Inv.born (K := K) (N := (K.wait its base listed).N) (U := (K.wait its base listed).U) S.inv (.inr hub) (.inr hub) obj O hobj
 have hself := r.set_self S
 have hpt : τ ≤ p := by
  rcases Nat.lt_or_ge p τ with hlt | hge
  ·exfalso
   rcases S.stage with h0 | ⟨q, hq', y, hy, hye⟩
   ·omega
   ·have hpq : p < q := by
     rcases Nat.lt_or_ge p q with h | h
     ·exact h
     ·exfalso
      have hpe : p = q := by omega
      subst hpe
      rw [r.it] at hy; simp at hy; subst hy
      rw [hye] at hq; simp at hq
    have h1 := (S.effs q y hy hye).2 (by omega)
    obtain ⟨oy, hoy, _⟩ := D.rel q y hy
    have := prec_listed D.masks S.closed S.size _ _ (Nat.lt_succ_self _) oy hoy (S.closed _ _ hoy h1) x.ix (hae q y hy hye hpq)
    rw [r.not] at this; simp at this
  ·exact hge
 have hdrop : ∀ i, Unborn its base (listed.setIfInBounds x.ix true) i → Unborn its base listed i ∧ i ≠ base + aid := by
  intro i hi
  refine ⟨hi.anti, ?_⟩
  rintro rfl
  obtain ⟨q, y, aid', h1, h2, h3⟩ := hi
  have : aid = aid' := by omega
  subst this
  have := D.aid p q x y aid hax h1
  subst this
  have h5 := h1.1
  rw [r.it] at h5; simp at h5; subst h5
  rw [hself] at h3; simp at h3
 refine next _ _ _ (hD.set (base + aid) obj) ⟨S.le.trans hle, S.tn, S.stage, fun q y hy hye => ?_, r.closed S, by simp [S.size], ?_, fun q y aid' v₁ obj₁ h1 h2 h3 h4 => ?_, fun i hi => ?_, S.next, S.none,
  by rw [put_size]; exact S.len, fun t ht => r.slotsAfter D S Rn e1 hle hv A.defers t ht, fun t ht => r.slotsAfter₀ S hle A.defers t ht, by rw [put_defers']; exact S.defers.mono hle⟩
 ·rw [r.other D hy (fun e => by subst e; rw [r.it] at hy; simp at hy; subst hy; rw [hye] at hq; simp at hq)]
  exact S.effs q y hy hye
 ·refine Inv.weak H' (fun i hi => ?_) (fun i hi => ?_)
  ·rcases hi with hi | hi
   ·exact ⟨.inl hi, by have := hKN i hi; omega⟩
   ·exact ⟨.inr (hdrop i hi).1, (hdrop i hi).2⟩
  ·rcases hi with hi | hi
   ·exact ⟨.inl hi, by have := hKU i hi; omega⟩
   ·exact ⟨.inr (hdrop i hi).1, (hdrop i hi).2⟩
 ·by_cases hqp : q = p
  ·subst hqp
   have h5 := h1.1
   rw [r.it] at h5; simp at h5; subst h5
   have h6 := h1.2
   rw [hq] at h6; simp at h6; subst h6
   rw [hal] at h4; simp at h4; obtain ⟨rfl, rfl⟩ := h4
   exact ⟨by rw [Heap.get_set]; simp, hwr⟩
  ·rw [r.other D h1.1 hqp] at h3
   have := S.pend q y aid' v₁ obj₁ h1 h2 h3 h4
   refine ⟨?_, this.2⟩
   rw [Heap.get_set_ne _ _ _ _ (fun e => hqp ?_)]
   ·exact this.1
   ·have : aid' = aid := by omega
    subst this
    exact D.aid q p y x aid' h1 hax
 ·have hne : i ≠ base + aid := hi p x aid hax hpt hself
  rw [Heap.get_set_ne _ _ _ _ hne]
  exact S.same i fun q y aid' h1 h2 h3 => hi q y aid' h1 h2 (getD_set_true h3)
theorem eff_step {p : Nat} {x : DIt} {o : Oper} (hc : CallOk P glb call) (D : DrawOk P glb ops its k B) (Rn : Run call its base fr hp) (S : St ops its base fr hp K ι₀ listed A w ι τ hD) (hk : K.glb = glb)
  (r : Ripe ops its listed p x o) (hq : x.kind = .eff) {N : Act → World → Prop} {Q : Exit → Act → World → Prop}
  (next : ∀ A' w' ι' τ' hD', St ops its base fr hp K ι₀ (listed.setIfInBounds x.ix true) A' w' ι' τ' hD' → N A' w') {rr : Option Nat} (hrr : rr.isSome = true → noDefO ops = true) : wpOpIn (Wd rr) 0 P ops Q x.ix N A w := by
 obtain ⟨o', ho', R, hl⟩ := D.rel p x r.it
 rw [r.op] at ho'; simp at ho'; subst ho'
 obtain ⟨v, ds, he, e1⟩ := stepD_eff hq (Rn p x r.it)
 have hpl := itLt r.it
 have hpt : τ ≤ p := by
  rcases Nat.lt_or_ge p τ with hlt | hge
  ·have := (S.effs p x r.it hq).2 hlt
   rw [r.not] at this; simp at this
  ·exact hge
 have hcalm : ∀ q, τ ≤ q → q < p → ¬ isEff its q := by
  rintro q h1 h2 ⟨y, hy, hye⟩
  have := (S.effs q y hy hye).1 (r.prec D S (D.eff q p y x hy r.it hye hq h2))
  omega
 obtain ⟨c1, c2, c3⟩ := Rn.calm (τ := τ) (p - τ) p (by omega) (by omega) hcalm
 have hmade : ∀ (q : Nat) (y : DIt) (aid : Nat), isAl its q y aid → q < p → listed.getD y.ix false = true := fun q y aid ha hlt =>
  r.prec D S ((D.alloc q y aid ha).2.2 p x r.it hq hlt)
 have hS : ∀ i, Early its base (p + 1) listed i → ∃ o, hD.get i = some o ∧ o.wr = true := fun i h => S.early Rn (by omega) h
 have H' : Inv ((K.wait its base listed).hide ι (Early its base (p + 1) listed) w) ι (hp p) w := by
  refine S.inv.hide hS (fun i => ?_) (fun i hi => ?_) (c1.trans S.next.symm)
  ·rintro ⟨q, y, aid, h1, h2, h3, rfl⟩
   rw [c3 (base + aid) (fun r' y' aid' h4 h5 h6 e => ?_)]
   ·exact S.none q y aid h1 (by omega)
   ·have : aid = aid' := by omega
    subst this
    have := D.aid q r' y y' aid h1 h6
    omega
  ·classical
   by_cases hin : ∃ (q : Nat) (y : DIt) (aid : Nat), isAl its q y aid ∧ τ ≤ q ∧ q < p ∧ i = base + aid
   ·obtain ⟨q, y, aid, h1, h2, h3, rfl⟩ := hin
    obtain ⟨v₁, obj, _, ha, _⟩ := stepD_alloc h1.2 (Rn q y h1.1)
    rw [Rn.calm_in D.aid (by omega) hcalm h2 h3 h1 ha, (S.pend q y aid v₁ obj h1 h2 (hmade q y aid h1 h3) ha).1]
   ·rw [c3 i (fun r' y' aid' h4 h5 h6 e => hin ⟨r', y', aid', h6, h4, h5, e⟩)]
    refine (S.same i fun q y aid h1 h2 h3 e => ?_).symm
    by_cases hlt : q < p
    ·exact hin ⟨q, y, aid, h1, h2, hlt, e⟩
    ·refine hi ⟨q, y, aid, h1, ?_, h3, e⟩
     rcases Nat.lt_or_ge p q with h | h
     ·exact h
     ·exfalso
      have : q = p := by omega
      subst this
      have h5 := h1.1
      rw [r.it] at h5; simp at h5; subst h5
      have h6 := h1.2
      rw [hq] at h6; simp at h6
 refine oper_sim₁ hc R he (show ((K.wait its base listed).hide ι (Early its base (p + 1) listed) w).glb = glb from hk) H' (fun t ht => r.slots' Rn D S ht) (fun ι' v' ds' w' hle H₁ hv hds => ?_) r.op (fun z => noDefO_at (hrr z) r.op)
 obtain ⟨h', hh1, hh2, hh3⟩ := exists_overlay hD (hp (p + 1)) (base + k) (Early its base (p + 1) listed) (by
  rintro i ⟨q, y, aid, h1, _, _, rfl⟩
  have := (D.alloc q y aid h1).2.1
  omega)
 have H₂ := S.inv.unhide hle H₁ hh1 hh2 hh3
 have hother : ∀ (q : Nat) (y : DIt) (aid : Nat), isAl its q y aid → (listed.setIfInBounds x.ix true).getD y.ix false = listed.getD y.ix false := fun q y aid h => by
  refine r.other D h.1 fun e => ?_
  subst e
  have h5 := h.1
  rw [r.it] at h5; simp at h5; subst h5
  have h6 := h.2
  rw [hq] at h6; simp at h6
 refine next _ _ ι' (p + 1) h' ⟨S.le.trans hle, by omega, .inr ⟨p, rfl, x, r.it, hq⟩, fun q y hy hye => ?_, r.closed S, by simp [S.size], ?_, fun q y aid v₁ obj₁ h1 h2 h3 h4 => ?_, fun i hi => ?_, hh3, fun q y aid h1 h2 => ?_,
  by rw [put_size]; exact S.len, fun t ht => r.slotsAfter D S Rn e1 hle hv _ t ht, fun t ht => r.slotsAfter₀ S hle _ t ht, ?_⟩
 ·by_cases hqp : q = p
  ·subst hqp
   rw [r.it] at hy; simp at hy; subst hy
   exact ⟨fun _ => by omega, fun _ => r.set_self S⟩
  ·rw [r.other D hy hqp, S.effs q y hy hye]
   refine ⟨fun h => by omega, fun h => ?_⟩
   rcases Nat.lt_or_ge q τ with h1 | h1
   ·exact h1
   ·exact absurd ⟨y, hy, hye⟩ (hcalm q h1 (by omega))
 ·exact Inv.weak H₂ (fun i hi => hi.imp id Unborn.anti) (fun i hi => hi.imp id Unborn.anti)
 ·rw [hother q y aid h1] at h3
  have := S.pend q y aid v₁ obj₁ h1 (by omega) h3 h4
  exact ⟨by rw [hh1 _ ⟨q, y, aid, h1, h2, h3, rfl⟩]; exact this.1, this.2⟩
 ·exact hh2 i fun ⟨q, y, aid, h1, h2, h3, e⟩ => hi q y aid h1 h2 (by rw [hother q y aid h1]; exact h3) e
 ·refine (H₁.nev (base + aid) ?_).2
  cases hq' : listed.getD y.ix false with
  | true => exact .inr ⟨q, y, aid, h1, h2, hq', rfl⟩
  | false => exact .inl (.inr ⟨q, y, aid, h1, rfl, hq'⟩)
 ·rw [e1, Fr.done_defers, put_defers', c2]
  exact hds.append (S.defers.mono hle)
theorem St.finish (D : DrawOk P glb ops its k B) (Rn : Run call its base fr hp) (S : St ops its base fr hp K ι₀ listed A w ι τ hD) (hall : ∀ i, i < ops.size → listed.getD i false = true) :
  Post K ι₀ .normal (fr its.length) (hp its.length) .normal A w := by
 have hdone : ∀ (q : Nat) (y : DIt), its[q]? = some y → listed.getD y.ix false = true := fun q y hy => by
  obtain ⟨o, ho, _⟩ := D.rel q y hy
  exact hall _ (Array.getElem?_eq_some_iff.1 ho).1
 have hcalm : ∀ q, τ ≤ q → q < its.length → ¬ isEff its q := by
  rintro q h1 h2 ⟨y, hy, hye⟩
  have := (S.effs q y hy hye).1 (hdone q y hy)
  omega
 obtain ⟨c1, c2, c3⟩ := Rn.calm (τ := τ) (its.length - τ) its.length (by have := S.tn; omega) (Nat.le_refl _) hcalm
 refine ⟨trivial, ι, S.le, ?_, ?_, ?_⟩
 ·have H' : Inv K ι hD w := Inv.weak (K := K) (N' := K.N) (U' := K.U) S.inv (fun i hi => .inl hi) (fun i hi => .inl hi)
  refine H'.ext (fun i => ?_) (c1.trans S.next.symm)
  classical
  by_cases hin : ∃ (q : Nat) (y : DIt) (aid : Nat), isAl its q y aid ∧ τ ≤ q ∧ i = base + aid
  ·obtain ⟨q, y, aid, h1, h2, rfl⟩ := hin
   obtain ⟨v₁, obj, _, ha, _⟩ := stepD_alloc h1.2 (Rn q y h1.1)
   rw [Rn.calm_in D.aid (Nat.le_refl _) hcalm h2 (itLt h1.1) h1 ha, (S.pend q y aid v₁ obj h1 h2 (hdone q y h1.1) ha).1]
  ·rw [c3 i (fun r' y' aid' h4 h5 h6 e => hin ⟨r', y', aid', h6, h4, e⟩), S.same i fun q y aid h1 h2 h3 e => hin ⟨q, y, aid, h1, h2, e⟩]
 ·have hlen := Rn.len its.length (Nat.le_refl _)
  refine VRs.of_get (by rw [hlen, Array.length_toList, S.len]) fun j v v' hv hv' => ?_
  have := S.slots j fun q y hy _ => hdone q y hy
  unfold TmpR at this
  simp only [Array.getElem?_toList] at hv'
  rw [List.getD_eq_getElem?_getD, hv, Array.getD_eq_getD_getElem?, hv'] at this
  exact this
 ·rw [c2]; exact S.defers
theorem any_sim (hc : CallOk P glb call) (D : DrawOk P glb ops its k B) (Rn : Run call its base fr hp) (hk : K.glb = glb) (hKN : ∀ i, K.N i → i < base) (hKU : ∀ i, K.U i → i < base)
  {hs : List (Fr × Heap)} (hhs : ∀ p, p ≤ its.length → hs[p]? = some (fr p, hp p)) (hch : checkD (fr its.length).tmps hs its hs = true) {rr : Option Nat} (hrr : rr.isSome = true → noDefO ops = true) :
  ∀ (fuel : Nat) (listed : Array Bool) (A : Act) (w : World) (ι : Emb) (τ : Nat) (hD : Heap), St ops its base fr hp K ι₀ listed A w ι τ hD → left listed ops.size ≤ fuel →
   wpAnyIn (Wd rr) 0 P .any ops (Post K ι₀ .normal (fr its.length) (hp its.length)) fuel listed A w
 | 0, listed, A, w, ι, τ, hD, S, hf => by
  have hall : ∀ i, i < ops.size → listed.getD i false = true := left_zero (by omega)
  refine ⟨?_, S.finish D Rn hall⟩
  cases hr : Region.ready .any ops listed with
  | nil => rfl
  | cons j js =>
   obtain ⟨h0, o, ho, _⟩ := ready_edges (j := j) (by rw [hr]; simp)
   have hlt := (Array.getElem?_eq_some_iff.1 ho).1
   have := hall j hlt
   have hl : j < listed.size := by rw [S.size]; exact hlt
   simp [hl] at this h0
   rw [this] at h0; simp at h0
 | fuel + 1, listed, A, w, ι, τ, hD, S, hf => by
  refine ⟨fun hr => S.finish D Rn fun i hi => ready_nil D.masks S.size hr (i + 1) i (by omega) hi, fun i hi => ?_⟩
  obtain ⟨h0, o, ho, hed⟩ := ready_edges hi
  have hlt := (Array.getElem?_eq_some_iff.1 ho).1
  have hl : i < listed.size := by rw [S.size]; exact hlt
  have h0' : listed.getD i false = false := by simp [hl] at h0 ⊢; exact h0
  obtain ⟨p, x, hx, rfl⟩ := D.sur i hlt
  have r : Ripe ops its listed p x o := ⟨hx, ho, h0', hed⟩
  have hleft := (left_set hl h0' ops.size).1 hlt
  cases hq : x.kind with
  | quiet ks =>
   exact quiet_step D Rn S hk r hq hhs (fun k' hk' => checkD_spec hch p x ks _ hx (hhs p (Nat.le_of_lt (itLt hx))) hq k' hk') (fun A' S' => any_sim hc D Rn hk hKN hKU hhs hch hrr fuel _ A' w ι τ hD S' (by omega)) hrr
  | alloc aid =>
   exact alloc_step D Rn S hk hKN hKU r hq (fun A' w' ι' hD' S' => any_sim hc D Rn hk hKN hKU hhs hch hrr fuel _ A' w' ι' τ hD' S' (by omega)) hrr
  | eff =>
   exact eff_step hc D Rn S hk r hq (fun A' w' ι' τ' hD' S' => any_sim hc D Rn hk hKN hKU hhs hch hrr fuel _ A' w' ι' τ' hD' S' (by omega)) hrr
end
theorem Sim.draw {P : Program} {glb : Gl} (hm : P.follows .mixedOrders = true) {id : Nat} {ops : Array Oper} {its : List DIt} {k : Nat} {B : List Nat} (D : DrawOk P glb ops its k B) : Sim P glb (.region id ops true) (.draw its k) := by
 intro call hc n a h x a' h' e K ι A w hk H F rr hrr
 cases n with
 | zero => simp [evCode] at e
 | succ n =>
  simp only [evCode] at e
  split at e
  ·next a₁ h₁ hs he =>
   split at e
   ·next hch =>
    simp only [Option.some.injEq, Prod.mk.injEq] at e; obtain ⟨rfl, rfl, rfl⟩ := e
    obtain ⟨fr, hp, f0, g0, f1, g1, hhs, _, Rn⟩ := evD_trace its _ _ _ _ _ he
    subst f1; subst g1
    refine wpIn_region_any hm (any_sim (base := h.next) hc D Rn hk (fun i hi => (H.nev i hi).1) (fun i hi => (H.nul i hi).1) hhs hch hrr ops.size _ A _ ι 0 { h with next := h.next + k } ?_ ?_)
    ·have hun : ∀ i, Unborn its h.next (Array.replicate ops.size false) i → h.next ≤ i ∧ i < h.next + k := by
      rintro i ⟨q, y, aid, h1, rfl, _⟩
      have := (D.alloc q y aid h1).2.1
      omega
     have hno : ∀ i, (Array.replicate ops.size false).getD i false = false := fun i => by simp [Array.getElem?_replicate]; split <;> rfl
     refine ⟨Emb.le.refl _, Nat.zero_le _, .inl rfl, fun q y _ _ => ?_, fun j o _ hl => ?_, by simp, ?_, fun q y aid v obj _ _ hl => ?_, fun i _ => by rw [g0], by rw [g0], fun q y aid h1 _ => ?_, ?_, fun t ht => ?_, fun t _ => by rw [f0]; exact F.tmps.tmp t, ?_⟩
     ·rw [hno]; simp
     ·rw [hno] at hl; simp at hl
     ·exact Inv.weak (K := K) ((H.bump k).drawn _) (fun i hi => hi.imp (fun z => z) (hun i)) (fun i hi => hi.imp (fun z => z) (hun i))
     ·rw [hno] at hl; simp at hl
     ·rw [g0]
      exact (H.fresh (h.next + aid) (by omega)).2
     ·rw [f0]; have := F.tmps.length; simpa using this.symm
     ·have hl := Run.late Rn (t := t) its.length 0 rfl (Nat.zero_le _) (fun q y hy hd => by have := ht q y hy hd; rw [hno] at this; simp at this)
      unfold TmpR
      rw [← hl, f0]
      exact F.tmps.tmp t
     ·rw [f0]; exact F.defers
    ·rw [left_rep _ _ (Nat.le_refl _)]; exact Nat.le_refl _
   ·simp at e
  ·simp at e
structure Plan where
 items : List (Nat × DK)
 k : Nat
 B : List Nat
 deriving Inhabited
def compGuard (ops : Array Oper) : Option (Nat × Bool) → Option (Option (Nat × Bool))
 | none => some none
 | some (j, want) => match (ops[j]?).bind (·.dst) with
  | some t => some (some (t, want))
  | none => none
def compOper (P : Program) (glb : Gl) (ops : Array Oper) (o : Oper) : Option COper :=
 match compOp P glb o.op, compGuard ops o.guard with
 | some co, some g => some ⟨o.dst, co, g⟩
 | none, some g => some ⟨o.dst, .dead, g⟩
 | _, none => none
theorem dead_good {P : Program} {glb : Gl} {o : Oper} : Good P glb o .dead := Sound.good (fun K ι h w a A hk H F r h' e _ => by simp [cop] at e) rfl
theorem compOper_R {P : Program} {glb : Gl} {ops : Array Oper} {o : Oper} {c : COper} (h : compOper P glb ops o = some c) : CoperR P glb ops o c := by
 unfold compOper at h
 split at h
 ·next co g hco hg =>
  simp only [Option.some.injEq] at h; subst h
  refine ⟨rfl, compOp_good hco, ?_⟩
  unfold compGuard at hg
  split at hg
  ·next ho => simp only [Option.some.injEq] at hg; subst hg; rw [ho]; trivial
  ·next j want ho =>
   split at hg
   ·next t ht => simp only [Option.some.injEq] at hg; subst hg; rw [ho]; exact ⟨rfl, ht⟩
   ·simp at hg
 ·next g hco hg =>
  simp only [Option.some.injEq] at h; subst h
  refine ⟨rfl, dead_good, ?_⟩
  unfold compGuard at hg
  split at hg
  ·next ho => simp only [Option.some.injEq] at hg; subst hg; rw [ho]; trivial
  ·next j want ho =>
   split at hg
   ·next t ht => simp only [Option.some.injEq] at hg; subst hg; rw [ho]; exact ⟨rfl, ht⟩
   ·simp at hg
 ·simp at h
def compOpers (P : Program) (glb : Gl) (ops : Array Oper) : List Oper → Option (List COper)
 | [] => some []
 | o :: os => match compOper P glb ops o, compOpers P glb ops os with
  | some c, some cs => some (c :: cs)
  | _, _ => none
theorem compOpers_R {P : Program} {glb : Gl} {ops : Array Oper} : ∀ {os : List Oper} {cs : List COper}, compOpers P glb ops os = some cs → cs.length = os.length ∧ ∀ (j : Nat) (c : COper), cs[j]? = some c → ∃ o, os[j]? = some o ∧ CoperR P glb ops o c
 | [], cs, h => by simp only [compOpers, Option.some.injEq] at h; subst h; exact ⟨rfl, fun j c hc => by simp at hc⟩
 | o :: os, cs, h => by
  simp only [compOpers] at h
  split at h
  ·next c cs' hc hcs =>
   simp only [Option.some.injEq] at h; subst h
   obtain ⟨h1, h2⟩ := compOpers_R hcs
   refine ⟨by simp [h1], fun j c' hj => ?_⟩
   cases j with
   | zero => simp at hj; subst hj; exact ⟨o, rfl, compOper_R hc⟩
   | succ j => simpa using h2 j c' (by simpa using hj)
  ·simp at h
def compIts (P : Program) (glb : Gl) (ops : Array Oper) : List (Nat × DK) → Option (List DIt)
 | [] => some []
 | (i, kd) :: is => match ops[i]? with
  | some o => match compOper P glb ops o, compIts P glb ops is with
   | some c, some its => some (⟨i, c, kd⟩ :: its)
   | _, _ => none
  | none => none
theorem compIts_R {P : Program} {glb : Gl} {ops : Array Oper} : ∀ {is : List (Nat × DK)} {its : List DIt}, compIts P glb ops is = some its → ∀ (p : Nat) (x : DIt), its[p]? = some x → ∃ o, ops[x.ix]? = some o ∧ CoperR P glb ops o x.c
 | [], its, h, p, x, hx => by simp only [compIts, Option.some.injEq] at h; subst h; simp at hx
 | (i, kd) :: is, its, h, p, x, hx => by
  simp only [compIts] at h
  split at h
  ·next o ho =>
   split at h
   ·next c its' hc hits =>
    simp only [Option.some.injEq] at h; subst h
    cases p with
    | zero => simp at hx; subst hx; exact ⟨o, ho, compOper_R hc⟩
    | succ p => exact compIts_R hits p x (by simpa using hx)
   ·simp at h
  ·simp at h
theorem ble_lt {a b : Nat} (h : Nat.ble a b = true) : a ≤ b := by simpa using h
theorem blt_lt {a b : Nat} (h : Nat.blt a b = true) : a < b := Nat.blt_eq.mp h
theorem lt_blt {a b : Nat} (h : a < b) : Nat.blt a b = true := Nat.blt_eq.mpr h
def allIt (f : Nat → DIt → Bool) : Nat → List DIt → Bool
 | _, [] => true
 | p, x :: xs => f p x && allIt f (p + 1) xs
theorem allIt_spec {f : Nat → DIt → Bool} : ∀ {its : List DIt} {p : Nat}, allIt f p its = true → ∀ (i : Nat) (x : DIt), its[i]? = some x → f (p + i) x = true
 | [], _, _, i, x, hx => by simp at hx
 | y :: ys, p, h, i, x, hx => by
  simp only [allIt, Bool.and_eq_true] at h
  cases i with
  | zero => simp at hx; subst hx; exact h.1
  | succ i =>
   have := allIt_spec h.2 i x (by simpa using hx)
   rwa [show p + 1 + i = p + (i + 1) by omega] at this
def anyIt (f : Nat → DIt → Bool) : Nat → List DIt → Bool
 | _, [] => false
 | p, x :: xs => f p x || anyIt f (p + 1) xs
theorem anyIt_spec {f : Nat → DIt → Bool} : ∀ {its : List DIt} {p : Nat}, anyIt f p its = true → ∃ (i : Nat) (x : DIt), its[i]? = some x ∧ f (p + i) x = true
 | [], _, h => by simp [anyIt] at h
 | y :: ys, p, h => by
  simp only [anyIt, Bool.or_eq_true] at h
  rcases h with h | h
  ·exact ⟨0, y, rfl, h⟩
  ·obtain ⟨i, x, h1, h2⟩ := anyIt_spec h
   exact ⟨i + 1, x, by simpa using h1, by rwa [show p + (i + 1) = p + 1 + i by omega]⟩
def DK.isEff : DK → Bool
 | .eff => true
 | _ => false
def tmpsOf : List Operand → List Nat
 | [] => []
 | .tmp t :: xs => t :: tmpsOf xs
 | _ :: xs => tmpsOf xs
theorem mem_tmpsOf {t : Nat} : ∀ {xs : List Operand}, Operand.tmp t ∈ xs → t ∈ tmpsOf xs
 | .tmp u :: xs, h => by
  simp only [List.mem_cons, Operand.tmp.injEq] at h
  rcases h with rfl | h
  ·simp [tmpsOf]
  ·simp [tmpsOf, mem_tmpsOf h]
 | .const v :: xs, h => by simp only [List.mem_cons, reduceCtorEq, false_or] at h; exact mem_tmpsOf (xs := xs) h
 | .global g :: xs, h => by simp only [List.mem_cons, reduceCtorEq, false_or] at h; exact mem_tmpsOf (xs := xs) h
 | .func f :: xs, h => by simp only [List.mem_cons, reduceCtorEq, false_or] at h; exact mem_tmpsOf (xs := xs) h
def looksL (ops : Array Oper) (x : DIt) : List Nat :=
 (match x.c.guard with | some (t, _) => [t] | none => []) ++ (match ops[x.ix]? with | some o => tmpsOf o.op.operands.toList | none => [])
theorem mem_looksL {ops : Array Oper} {x : DIt} {o : Oper} (ho : ops[x.ix]? = some o) {t : Nat} (h : x.c.looks o t) : t ∈ looksL ops x := by
 unfold looksL
 rw [ho]
 rcases h with h | ⟨b, h⟩
 ·simp [mem_tmpsOf h]
 ·simp [h]
def dstIs (x : DIt) (t : Nat) : Bool := match x.c.dst with
 | some d => d == t
 | none => false
def pairB (B : List Nat) (L : List Nat) (p : Nat) (x : DIt) (q : Nat) (y : DIt) : Bool :=
 (p == q || (!(x.ix == y.ix) && (match x.c.dst with | some t => !dstIs y t | none => true) && (match x.kind, y.kind with
  | .alloc a, .alloc b => !(a == b)
  | .alloc _, .eff => !(Nat.blt p q) || prec B x.ix y.ix
  | .eff, .eff => !(Nat.blt p q) || prec B x.ix y.ix
  | _, _ => true))) &&
 (match y.c.dst with | some t => !L.contains t || (Nat.blt q p && prec B y.ix x.ix) || (Nat.ble p q && (p == q || prec B x.ix y.ix)) | none => true)
def stageB (B : List Nat) (its : List DIt) (x : DIt) (ks : List Nat) (τ : Nat) : Bool :=
 ks.contains τ || anyIt (fun q y => y.kind.isEff && Nat.ble τ q && prec B y.ix x.ix) 0 its || anyIt (fun q y => y.kind.isEff && Nat.blt q τ && prec B x.ix y.ix) 0 its
def itB (B : List Nat) (ops : Array Oper) (its : List DIt) (k : Nat) (p : Nat) (x : DIt) : Bool :=
 allIt (pairB B (looksL ops x) p x) 0 its && (match x.kind with
  | .quiet ks => quietC x.c.op && stageB B its x ks 0 && allIt (fun q y => !y.kind.isEff || stageB B its x ks (q + 1)) 0 its
  | .alloc aid => isA x.c.op && Nat.blt aid k
  | .eff => true)
def maskB (B : List Nat) : Nat → List Oper → Bool
 | _, [] => true
 | j, o :: os => (edgesOf o).all (fun e => Nat.blt e j) && (B.getD j 0 ||| maskOf B (edgesOf o)) == maskOf B (edgesOf o) && maskB B (j + 1) os
theorem maskB_spec {B : List Nat} : ∀ {os : List Oper} {j : Nat}, maskB B j os = true → ∀ (i : Nat) (o : Oper), os[i]? = some o → (∀ e ∈ edgesOf o, e < j + i) ∧ ∀ b, prec B b (j + i) = true → ∃ e ∈ edgesOf o, b = e ∨ prec B b e = true
 | [], _, _, i, o, ho => by simp at ho
 | o' :: os, j, h, i, o, ho => by
  simp only [maskB, Bool.and_eq_true] at h
  cases i with
  | zero =>
   simp at ho; subst ho
   refine ⟨fun e he => by have := List.all_eq_true.1 h.1.1 e he; simpa [Nat.blt_eq] using this, fun b hb => maskOf_spec B b _ ?_⟩
   have h2 := h.1.2
   simp only [beq_iff_eq] at h2
   rw [← h2, Nat.testBit_or]
   simp only [prec, Nat.add_zero] at hb
   rw [hb, Bool.true_or]
  | succ i =>
   have := maskB_spec h.2 i o (by simpa using ho)
   rwa [show j + 1 + i = j + (i + 1) by omega] at this
def drawB (B : List Nat) (ops : Array Oper) (its : List DIt) (k : Nat) : Bool :=
 maskB B 0 ops.toList && its.length == ops.size && (List.range ops.size).all (fun i => anyIt (fun _ x => x.ix == i) 0 its) && allIt (itB B ops its k) 0 its
theorem drawB_ok {P : Program} {glb : Gl} {ops : Array Oper} {its : List DIt} {k : Nat} {B : List Nat} (hr : ∀ (p : Nat) (x : DIt), its[p]? = some x → ∃ o, ops[x.ix]? = some o ∧ CoperR P glb ops o x.c) (h : drawB B ops its k = true) : DrawOk P glb ops its k B := by
 simp only [drawB, Bool.and_eq_true] at h
 obtain ⟨⟨⟨h1, h2⟩, h3⟩, h4⟩ := h
 have hit : ∀ (p : Nat) (x : DIt), its[p]? = some x → itB B ops its k p x = true := fun p x hx => by have := allIt_spec h4 p x hx; rwa [Nat.zero_add] at this
 have hpair : ∀ (p q : Nat) (x y : DIt), its[p]? = some x → its[q]? = some y → pairB B (looksL ops x) p x q y = true := fun p q x y hx hy => by
  have := hit p x hx
  simp only [itB, Bool.and_eq_true] at this
  have := allIt_spec this.1 q y hy
  rwa [Nat.zero_add] at this
 have hne : ∀ (p q : Nat) (x y : DIt), its[p]? = some x → its[q]? = some y → p ≠ q → x.ix ≠ y.ix ∧ (∀ t, x.c.dst = some t → y.c.dst ≠ some t) ∧ (match x.kind, y.kind with
  | .alloc a, .alloc b => !(a == b)
  | .alloc _, .eff => !(Nat.blt p q) || prec B x.ix y.ix
  | .eff, .eff => !(Nat.blt p q) || prec B x.ix y.ix
  | _, _ => true) = true := by
  intro p q x y hx hy hpq
  have := hpair p q x y hx hy
  simp only [pairB, Bool.and_eq_true, Bool.or_eq_true, beq_iff_eq, hpq, false_or, Bool.not_eq_true', beq_eq_false_iff_ne] at this
  refine ⟨this.1.1.1, fun t ht hy' => ?_, this.1.2⟩
  have h5 := this.1.1.2
  rw [ht] at h5
  simp [dstIs, hy'] at h5
 refine ⟨fun j o ho => ?_, fun p q x y hx hy he => ?_, fun i hi => ?_, fun p x hx => ?_, fun p q x y t hx hy htx hty => ?_, fun p x ks hx hk => ?_, fun p x aid ha => ?_, fun p q x y aid hx hy => ?_, fun p q x y hx hy hxe hye hlt => ?_⟩
 ·have := maskB_spec h1 j o (by simpa using ho)
  simpa using this
 ·rcases Nat.decEq p q with hpq | hpq
  ·exact absurd he (hne p q x y hx hy hpq).1
  ·exact hpq
 ·have := List.all_eq_true.1 h3 i (by simpa using hi)
  obtain ⟨p, x, hx, hxi⟩ := anyIt_spec this
  exact ⟨p, x, hx, by simpa using hxi⟩
 ·obtain ⟨o, ho, hR⟩ := hr p x hx
  refine ⟨o, ho, hR, fun t ht q y hy hd => ?_⟩
  have := hpair p q x y hx hy
  simp only [pairB, Bool.and_eq_true, hd, Bool.or_eq_true, Bool.not_eq_true'] at this
  have hc : (looksL ops x).contains t = true := by simpa using mem_looksL ho ht
  rcases this.2 with (h5 | h5) | h5
  ·rw [hc] at h5; simp at h5
  ·exact .inl ⟨blt_lt h5.1, h5.2⟩
  ·exact .inr ⟨ble_lt h5.1, by simpa using h5.2⟩
 ·rcases Nat.decEq p q with hpq | hpq
  ·exact absurd hty ((hne p q x y hx hy hpq).2.1 t htx)
  ·exact hpq
 ·have := hit p x hx
  simp only [itB, hk, Bool.and_eq_true] at this
  refine ⟨this.2.1.1, fun τ hst _ => ?_⟩
  have hs : stageB B its x ks τ = true := by
   rcases hst with rfl | ⟨q, rfl, y, hy, hye⟩
   ·exact this.2.1.2
   ·have h5 := allIt_spec this.2.2 q y hy
    simpa [hye, DK.isEff] using h5
  simp only [stageB, Bool.or_eq_true] at hs
  have hie : ∀ {kd : DK}, kd.isEff = true → kd = .eff := fun {kd} h => by cases kd <;> simp [DK.isEff] at h; rfl
  rcases hs with (hs | hs) | hs
  ·exact .inl (by simpa using hs)
  ·obtain ⟨q, y, hy, h5⟩ := anyIt_spec hs
   simp only [Nat.zero_add, Bool.and_eq_true] at h5
   exact .inr (.inl ⟨q, y, hy, hie h5.1.1, ble_lt h5.1.2, h5.2⟩)
  ·obtain ⟨q, y, hy, h5⟩ := anyIt_spec hs
   simp only [Nat.zero_add, Bool.and_eq_true] at h5
   exact .inr (.inr ⟨q, y, hy, hie h5.1.1, blt_lt h5.1.2, h5.2⟩)
 ·have := hit p x ha.1
  simp only [itB, ha.2, Bool.and_eq_true] at this
  refine ⟨this.2.1, blt_lt this.2.2, fun q y hy hye hlt => ?_⟩
  have h5 := (hne p q x y ha.1 hy (by omega)).2.2
  rw [ha.2, hye] at h5
  simpa [lt_blt hlt] using h5
 ·rcases Nat.decEq p q with hpq | hpq
  ·have h5 := (hne p q x y hx.1 hy.1 hpq).2.2
   rw [hx.2, hy.2] at h5
   simp at h5
  ·exact hpq
 ·have h5 := (hne p q x y hx hy (by omega)).2.2
  rw [hxe, hye] at h5
  simpa [lt_blt hlt] using h5
def labelsOf : Code → List Nat
 | .seq a b => labelsOf a ++ labelsOf b
 | .label l => [l]
 | _ => []
abbrev RF := Array Tmp × Code × Code
mutual
def rfs : Nat → Code → List RF
 | 0, _ => []
 | n + 1, code => match code with
  | .seq a b => rfs n a ++ rfs n b
  | .cond _ a b => rfs n a ++ rfs n b
  | .block _ a => rfs n a
  | .loop a => rfs n a
  | .scope a => rfs n a ++ rfsL n a (labelsOf a)
  | .rangeFunc _ ps asg body => [(ps, asg, body)]
  | _ => []
def rfsL : Nat → Code → List Nat → List RF
 | 0, _, _ => []
 | _ + 1, _, [] => []
 | n + 1, a, l :: ls => (match findLabel a l with
  | some q => rfs n q
  | none => []) ++ rfsL n a ls
end
def modOf (P : Program) (f k : Nat) : Option RF := match P.funcs[f]? with
 | some fn => match fn.body with
  | some code => (rfs 1000 code)[k]?
  | none => none
 | none => none
abbrev PS := List Plan × Nat
mutual
def compCode (P : Program) (glb : Gl) (fn : Nat) : Nat → Code → PS → Option (CCode × PS)
 | 0, _, _ => none
 | n + 1, code, ps => match code with
  | .skip => some (.skip, ps)
  | .label _ => some (.skip, ps)
  | .region _ ops false => match compOpers P glb ops ops.toList with
   | some cs => some (.region cs, ps)
   | none => none
  | .region _ ops true => match ps.1 with
   | p :: pl => match compIts P glb ops p.items with
    | some its => if drawB p.B ops its p.k then some (.draw its p.k, (pl, ps.2)) else none
    | none => none
   | [] => none
  | .seq a b => match compCode P glb fn n a ps with
   | some (c, ps) => match compCode P glb fn n b ps with
    | some (d, ps) => some (.seq c d, ps)
    | none => none
   | none => none
  | .cond x a b => match compG glb x, compCode P glb fn n a ps with
   | some x, some (c, ps) => match compCode P glb fn n b ps with
    | some (d, ps) => some (.cond x c d, ps)
    | none => none
   | _, _ => none
  | .block id a => match compCode P glb fn n a ps with
   | some (c, ps) => some (.block id c, ps)
   | none => none
  | .loop a => match compCode P glb fn n a ps with
   | some (c, ps) => some (.loop c, ps)
   | none => none
  | .exit id => some (.exit id, ps)
  | .goto l => some (.goto l, ps)
  | .scope a => match compCode P glb fn n a ps with
   | some (c, ps) => match compRests P glb fn n a (labelsOf a) ps with
    | some (rs, ps) => some (.scope c rs, ps)
    | none => none
   | none => none
  | .ret => some (.ret, ps)
  | .rangeFunc f params _ _ => match compG glb f with
   | some fx => some (.rangeF fn ps.2 params.size fx, (ps.1, ps.2 + 1))
   | none => some (.region [⟨none, .dead, none⟩], (ps.1, ps.2 + 1))
  | _ => some (.region [⟨none, .dead, none⟩], ps)
def compRests (P : Program) (glb : Gl) (fn : Nat) : Nat → Code → List Nat → PS → Option (List (Nat × CCode) × PS)
 | 0, _, _, _ => none
 | _ + 1, _, [], ps => some ([], ps)
 | n + 1, a, l :: ls, ps => match findLabel a l with
  | some q => match compCode P glb fn n q ps with
   | some (r, ps) => match compRests P glb fn n a ls ps with
    | some (rs, ps) => some ((l, r) :: rs, ps)
    | none => none
   | none => none
  | none => none
end
theorem Sim.dead {P : Program} {glb : Gl} {code : Code} : Sim P glb code (.region [⟨none, .dead, none⟩]) := by
 intro call hc n a h x a' h' e
 cases n with
 | zero => simp [evCode] at e
 | succ n => simp [evCode, evOps, evOper, evOp1, wantC, cop] at e
def At (M : Mod) (fn o : Nat) (l : List RF) : Prop := ∀ j m, l[j]? = some m → M fn (o + j) = some m
theorem At.left {M : Mod} {fn o : Nat} {l l' : List RF} (h : At M fn o (l ++ l')) : At M fn o l := fun j m e => h j m (by rw [List.getElem?_append_left (List.getElem?_eq_some_iff.1 e).1]; exact e)
theorem At.right {M : Mod} {fn o : Nat} {l l' : List RF} (h : At M fn o (l ++ l')) : At M fn (o + l.length) l' := fun j m e => by
 have := h (l.length + j) m (by rw [List.getElem?_append_right (by omega)]; simpa using e)
 rw [← Nat.add_assoc] at this; exact this
theorem compCode_both {P : Program} {glb : Gl} (hm : P.follows .mixedOrders = true) {fn : Nat} : ∀ (n : Nat),
  (∀ (code : Code) (ps : PS) (c : CCode) (ps' : PS), compCode P glb fn n code ps = some (c, ps') → At glb.mod fn ps.2 (rfs n code) → Sim P glb code c ∧ ps'.2 = ps.2 + (rfs n code).length) ∧
  (∀ (a : Code) (ls : List Nat) (ps : PS) (rs : List (Nat × CCode)) (ps' : PS), compRests P glb fn n a ls ps = some (rs, ps') → At glb.mod fn ps.2 (rfsL n a ls) → (∀ l r, findRest l rs = some r → ∃ q, findLabel a l = some q ∧ Sim P glb q r) ∧ ps'.2 = ps.2 + (rfsL n a ls).length)
 | 0 => ⟨fun _ _ _ _ h => by simp [compCode] at h, fun _ _ _ _ _ h => by simp [compRests] at h⟩
 | n + 1 => by
  obtain ⟨ih1, ih2⟩ := compCode_both hm (fn := fn) n
  refine ⟨fun code ps c ps' h hA => ?_, fun a ls ps rs ps' h hA => ?_⟩
  ·cases code with
   | skip => simp only [compCode, Option.some.injEq, Prod.mk.injEq] at h; obtain ⟨rfl, rfl⟩ := h; exact ⟨Sim.skip, rfl⟩
   | label l => simp only [compCode, Option.some.injEq, Prod.mk.injEq] at h; obtain ⟨rfl, rfl⟩ := h; exact ⟨Sim.label, rfl⟩
   | exit id => simp only [compCode, Option.some.injEq, Prod.mk.injEq] at h; obtain ⟨rfl, rfl⟩ := h; exact ⟨Sim.exit, rfl⟩
   | goto l => simp only [compCode, Option.some.injEq, Prod.mk.injEq] at h; obtain ⟨rfl, rfl⟩ := h; exact ⟨Sim.goto, rfl⟩
   | ret => simp only [compCode, Option.some.injEq, Prod.mk.injEq] at h; obtain ⟨rfl, rfl⟩ := h; exact ⟨Sim.ret, rfl⟩
   | region id ops draw =>
    cases draw with
    | false =>
     simp only [compCode] at h
     split at h
     ·next cs hcs =>
      simp only [Option.some.injEq, Prod.mk.injEq] at h; obtain ⟨rfl, rfl⟩ := h
      obtain ⟨h1, h2⟩ := compOpers_R hcs
      exact ⟨Sim.region ⟨by simpa using h1, fun j c hj => by simpa using h2 j c hj⟩, rfl⟩
     ·simp at h
    | true =>
     simp only [compCode] at h
     split at h
     ·next p pl hp =>
      split at h
      ·next its hits =>
       split at h
       ·next hd =>
        simp only [Option.some.injEq, Prod.mk.injEq] at h; obtain ⟨rfl, rfl⟩ := h
        exact ⟨Sim.draw hm (drawB_ok (compIts_R hits) hd), rfl⟩
       ·simp at h
      ·simp at h
     ·simp at h
   | seq a b =>
    have hA : At glb.mod fn ps.2 (rfs n a ++ rfs n b) := hA
    simp only [compCode] at h
    split at h
    ·next c₁ ps₁ h1 =>
     obtain ⟨s1, o1⟩ := ih1 _ _ _ _ h1 hA.left
     split at h
     ·next d₁ ps₂ h2 =>
      simp only [Option.some.injEq, Prod.mk.injEq] at h; obtain ⟨rfl, rfl⟩ := h
      obtain ⟨s2, o2⟩ := ih1 _ _ _ _ h2 (by rw [o1]; exact hA.right)
      exact ⟨Sim.seq s1 s2, by rw [o2, o1]; show _ = ps.2 + (rfs n a ++ rfs n b).length; rw [List.length_append]; omega⟩
     ·simp at h
    ·simp at h
   | cond x a b =>
    have hA : At glb.mod fn ps.2 (rfs n a ++ rfs n b) := hA
    simp only [compCode] at h
    split at h
    ·next x' c₁ ps₁ hx h1 =>
     obtain ⟨s1, o1⟩ := ih1 _ _ _ _ h1 hA.left
     split at h
     ·next d₁ ps₂ h2 =>
      simp only [Option.some.injEq, Prod.mk.injEq] at h; obtain ⟨rfl, rfl⟩ := h
      obtain ⟨s2, o2⟩ := ih1 _ _ _ _ h2 (by rw [o1]; exact hA.right)
      exact ⟨Sim.cond hx s1 s2, by rw [o2, o1]; show _ = ps.2 + (rfs n a ++ rfs n b).length; rw [List.length_append]; omega⟩
     ·simp at h
    ·simp at h
   | block id a =>
    simp only [compCode] at h
    split at h
    ·next c₁ ps₁ h1 =>
     simp only [Option.some.injEq, Prod.mk.injEq] at h; obtain ⟨rfl, rfl⟩ := h
     obtain ⟨s1, o1⟩ := ih1 _ _ _ _ h1 hA
     exact ⟨Sim.block s1, o1⟩
    ·simp at h
   | loop a =>
    simp only [compCode] at h
    split at h
    ·next c₁ ps₁ h1 =>
     simp only [Option.some.injEq, Prod.mk.injEq] at h; obtain ⟨rfl, rfl⟩ := h
     obtain ⟨s1, o1⟩ := ih1 _ _ _ _ h1 hA
     exact ⟨Sim.loop s1, o1⟩
    ·simp at h
   | scope a =>
    have hA : At glb.mod fn ps.2 (rfs n a ++ rfsL n a (labelsOf a)) := hA
    simp only [compCode] at h
    split at h
    ·next c₁ ps₁ h1 =>
     obtain ⟨s1, o1⟩ := ih1 _ _ _ _ h1 hA.left
     split at h
     ·next rs ps₂ h2 =>
      simp only [Option.some.injEq, Prod.mk.injEq] at h; obtain ⟨rfl, rfl⟩ := h
      obtain ⟨s2, o2⟩ := ih2 _ _ _ _ _ h2 (by rw [o1]; exact hA.right)
      exact ⟨Sim.scope s1 s2, by rw [o2, o1]; show _ = ps.2 + (rfs n a ++ rfsL n a (labelsOf a)).length; rw [List.length_append]; omega⟩
     ·simp at h
    ·simp at h
   | rangeFunc f params assign body =>
    have hA0 : glb.mod fn ps.2 = some (params, assign, body) := hA 0 _ rfl
    simp only [compCode] at h
    split at h
    ·next fx hf =>
     simp only [Option.some.injEq, Prod.mk.injEq] at h; obtain ⟨rfl, rfl⟩ := h
     exact ⟨Sim.rangeF hf hA0 rfl, rfl⟩
    ·simp only [Option.some.injEq, Prod.mk.injEq] at h; obtain ⟨rfl, rfl⟩ := h
     exact ⟨Sim.dead, rfl⟩
   | refuse why => simp only [compCode, Option.some.injEq, Prod.mk.injEq] at h; obtain ⟨rfl, rfl⟩ := h; exact ⟨Sim.dead, rfl⟩
  ·cases ls with
   | nil =>
    simp only [compRests, Option.some.injEq, Prod.mk.injEq] at h; obtain ⟨rfl, rfl⟩ := h
    exact ⟨fun l r hl => by simp [findRest] at hl, rfl⟩
   | cons l ls =>
    simp only [compRests] at h
    split at h
    ·next q hq =>
     have er : rfsL (n + 1) a (l :: ls) = rfs n q ++ rfsL n a ls := by simp only [rfsL, hq]
     rw [er] at hA ⊢
     split at h
     ·next r₁ ps₁ h1 =>
      obtain ⟨s1, o1⟩ := ih1 _ _ _ _ h1 hA.left
      split at h
      ·next rs₁ ps₂ h2 =>
       simp only [Option.some.injEq, Prod.mk.injEq] at h; obtain ⟨rfl, rfl⟩ := h
       obtain ⟨s2, o2⟩ := ih2 _ _ _ _ _ h2 (by rw [o1]; exact hA.right)
       refine ⟨fun l' r hl => ?_, by rw [o2, o1, List.length_append]; omega⟩
       simp only [findRest] at hl
       split at hl
       ·next e =>
        simp only [Option.some.injEq] at hl; subst hl
        simp at e; subst e
        exact ⟨q, hq, s1⟩
       ·exact s2 l' r hl
      ·simp at h
     ·simp at h
    ·simp at h
theorem rfs_nil : ∀ (n : Nat), (∀ code : Code, noDef code = true → rfs n code = []) ∧ (∀ (a : Code) (ls : List Nat), noDef a = true → rfsL n a ls = [])
 | 0 => ⟨fun _ _ => rfl, fun _ _ _ => rfl⟩
 | n + 1 => by
  obtain ⟨ih1, ih2⟩ := rfs_nil n
  refine ⟨fun code hd => ?_, fun a ls hd => ?_⟩
  ·cases code with
   | seq a b => show rfs n a ++ rfs n b = []; rw [ih1 a (and1 hd), ih1 b (and2 hd)]; rfl
   | cond x a b => show rfs n a ++ rfs n b = []; rw [ih1 a (and1 hd), ih1 b (and2 hd)]; rfl
   | block id a => exact ih1 a hd
   | loop a => exact ih1 a hd
   | scope a => show rfs n a ++ rfsL n a _ = []; rw [ih1 a hd, ih2 a _ hd]; rfl
   | rangeFunc => simp [noDef] at hd
   | _ => rfl
  ·cases ls with
   | nil => rfl
   | cons l ls =>
    simp only [rfsL, ih2 a ls hd, List.append_nil]
    split
    ·next q hq => exact ih1 q (noDef_label hq hd)
    ·rfl
theorem compCode_sim {P : Program} {glb : Gl} (hm : P.follows .mixedOrders = true) {fn n : Nat} {code : Code} {ps : PS} {c : CCode} {ps' : PS} (h : compCode P glb fn n code ps = some (c, ps')) (hA : At glb.mod fn ps.2 (rfs n code)) : Sim P glb code c :=
 ((compCode_both hm n).1 code ps c ps' h hA).1
def compRV (P : Program) : List ResultVar → Option (List CRV)
 | [] => some []
 | .tmp t :: rs => (compRV P rs).map (.tmp t :: ·)
 | .cell a ty :: rs => match tyAgg P ty, tySize P ty, compRV P rs with
  | some agg, some n, some cs => some (.cell a agg n :: cs)
  | _, _, _ => none
theorem compRV_R {P : Program} : ∀ {rs : List ResultVar} {cs : List CRV}, compRV P rs = some cs → CRVRs P rs cs
 | [], cs, h => by simp only [compRV, Option.some.injEq] at h; subst h; exact .nil
 | .tmp t :: rs, cs, h => by
  simp only [compRV] at h
  obtain ⟨cs', h1, rfl⟩ := Option.map_eq_some_iff.1 h
  exact .cons rfl (compRV_R h1)
 | .cell a ty :: rs, cs, h => by
  simp only [compRV] at h
  split at h
  ·next agg n cs' h1 h2 h3 =>
   simp only [Option.some.injEq] at h; subst h
   exact .cons ⟨rfl, h1, h2⟩ (compRV_R h3)
  ·simp at h
def compFunc (P : Program) (glb : Gl) (f : FuncId) (ps : List Plan) : Option CFunc :=
 match P.funcs[f]? with
 | some fn => match fn.body with
  | some code => if fn.name == "runtime.NumGoroutine" then none else
   match compCode P glb f 1000 code (ps, 0), compRV P fn.results.toList with
   | some (c, _), some rs => some ⟨fn.ntmps, rs, c⟩
   | _, _ => none
  | none => none
 | none => none
theorem compFunc_R {P : Program} {glb : Gl} (hm : P.follows .mixedOrders = true) (hmod : glb.mod = modOf P) {f : FuncId} {ps : List Plan} {cf : CFunc} (h : compFunc P glb f ps = some cf) : FuncR P glb f cf := by
 unfold compFunc at h
 split at h
 ·next fn hf =>
  split at h
  ·next code hb =>
   split at h
   ·simp at h
   ·next hn =>
    split at h
    ·next c ps' rs h1 h2 =>
     simp only [Option.some.injEq] at h; subst h
     exact ⟨fn, code, hf, hb, by simpa using hn, rfl, compRV_R h2, compCode_sim hm h1 fun j m hj => by rw [hmod, Nat.zero_add]; simp only [modOf, hf, hb]; exact hj⟩
    ·simp at h
  ·simp at h
 ·simp at h
def compCodeD (P : Program) (glb : Gl) (fn n : Nat) : Code → PS → Option (CCode × PS)
 | .seq a b, ps => match compCodeD P glb fn n a ps with
  | some (c, ps) => if (rfs n b).isEmpty then (match compCode P glb fn n b ps with
   | some (d, ps) => some (.seq c d, ps)
   | none => none) else none
  | none => none
 | .region _ ops false, ps => match ops.toList with
  | o :: os => if isRecover o then (match compOpers P glb ops os with
   | some cs => some (.region (⟨o.dst, .move (.c .nilIface), none⟩ :: cs), ps)
   | none => none) else none
  | [] => none
 | _, _ => none
theorem compCodeD_sim {P : Program} {glb : Gl} (hm : P.follows .mixedOrders = true) {fn n : Nat} : ∀ {code : Code} {ps : PS} {c : CCode} {ps' : PS}, compCodeD P glb fn n code ps = some (c, ps') → SimS P glb code c := by
 intro code
 induction code with
 | seq a b iha ihb =>
  intro ps c ps' h
  simp only [compCodeD] at h
  split at h
  ·next ca ps₁ h1 =>
   split at h
   ·next hr =>
    split at h
    ·next cb ps₂ h2 =>
     simp only [Option.some.injEq, Prod.mk.injEq] at h; obtain ⟨rfl, rfl⟩ := h
     refine SimS.seq (iha h1) (compCode_sim hm h2 fun j m hj => ?_).simS
     rw [List.isEmpty_iff.1 hr] at hj; simp at hj
    ·simp at h
   ·simp at h
  ·simp at h
 | region id ops draw =>
  intro ps c ps' h
  cases draw with
  | true => simp [compCodeD] at h
  | false =>
   simp only [compCodeD] at h
   split at h
   ·next o os ho =>
    split at h
    ·next hrec =>
     split at h
     ·next cs hcs =>
      simp only [Option.some.injEq, Prod.mk.injEq] at h; obtain ⟨rfl, rfl⟩ := h
      obtain ⟨hl, hR⟩ := compOpers_R hcs
      refine SimS.region (by rw [← Array.getElem?_toList, ho]; rfl) hrec ?_ fun j c hj => ?_
      ·rw [← Array.length_toList, ho, hl]; rfl
      ·obtain ⟨o', h1, h2⟩ := hR j c hj
       exact ⟨o', by rw [← Array.getElem?_toList, ho]; exact h1, h2⟩
     ·simp at h
    ·simp at h
   ·simp at h
 | _ => intro ps c ps' h; simp [compCodeD] at h
def compFuncD (P : Program) (glb : Gl) (f : FuncId) (ps : List Plan) : Option CFunc :=
 match P.funcs[f]? with
 | some fn => match fn.body with
  | some code => if fn.name == "runtime.NumGoroutine" then none else
   match compCodeD P glb f 1000 code (ps, 0), compRV P fn.results.toList with
   | some (c, _), some rs => some ⟨fn.ntmps, rs, c⟩
   | _, _ => none
  | none => none
 | none => none
theorem compFuncD_R {P : Program} {glb : Gl} (hm : P.follows .mixedOrders = true) {f : FuncId} {ps : List Plan} {cf : CFunc} (h : compFuncD P glb f ps = some cf) : FuncRD P glb f cf := by
 unfold compFuncD at h
 split at h
 ·next fn hf =>
  split at h
  ·next code hb =>
   split at h
   ·simp at h
   ·next hn =>
    split at h
    ·next c ps' rs h1 h2 =>
     simp only [Option.some.injEq] at h; subst h
     exact ⟨fn, code, hf, hb, by simpa using hn, rfl, compRV_R h2, compCodeD_sim hm h1⟩
    ·simp at h
  ·simp at h
 ·simp at h
def findD : List (Nat × CFunc) → Nat → Option CFunc
 | [], _ => none
 | (f, c) :: l, g => if f == g then some c else findD l g
def DOk (P : Program) (glb : Gl) : List (Nat × CFunc) → Prop
 | [] => True
 | (f, c) :: l => FuncRD P glb f c ∧ DOk P glb l
theorem findD_ok {P : Program} {glb : Gl} : ∀ {l : List (Nat × CFunc)}, DOk P glb l → ∀ {f : Nat} {c : CFunc}, findD l f = some c → FuncRD P glb f c
 | [], _, _, _, e => by simp [findD] at e
 | (f, c) :: l, h, g, d, e => by
  simp only [findD] at e
  split at e
  ·next he => obtain rfl := eq_of_beq he; simp only [Option.some.injEq] at e; subst e; exact h.1
  ·exact findD_ok h.2 e
def compRound (P : Program) (glb : Gl) (fn k : Nat) (ps : List Plan) : Option RoundC := match modOf P fn k with
 | some (prm, asg, body) => if noDef asg && noDef body then (match compCode P glb fn 1000 asg (ps, 0) with
  | some (ca, st) => match compCode P glb fn 1000 body (st.1, 0) with
   | some (cb, _) => some ⟨prm.toList, ca, cb⟩
   | none => none
  | none => none) else none
 | none => none
theorem compRound_R {P : Program} {glb : Gl} (hm : P.follows .mixedOrders = true) (hmod : glb.mod = modOf P) {fn k : Nat} {ps : List Plan} {rc : RoundC} (h : compRound P glb fn k ps = some rc) : RoundCR P glb fn k rc := by
 unfold compRound at h
 split at h
 ·next prm asg body hmd =>
  split at h
  ·next hd =>
   split at h
   ·next ca st h1 =>
    split at h
    ·next cb st' h2 =>
     simp only [Option.some.injEq] at h; subst h
     exact ⟨prm, asg, body, by rw [hmod]; exact hmd, rfl, and1 hd, and2 hd, compCode_sim hm h1 fun j m hj => by rw [(rfs_nil _).1 _ (and1 hd)] at hj; simp at hj, compCode_sim hm h2 fun j m hj => by rw [(rfs_nil _).1 _ (and2 hd)] at hj; simp at hj⟩
    ·simp at h
   ·simp at h
  ·simp at h
 ·simp at h
def findRound : List (Nat × Nat × RoundC) → Nat → Nat → Option RoundC
 | [], _, _ => none
 | (f, k, rc) :: l, g, j => if f == g && k == j then some rc else findRound l g j
def RoundsOk (P : Program) (glb : Gl) : List (Nat × Nat × RoundC) → Prop
 | [] => True
 | (f, k, rc) :: l => RoundCR P glb f k rc ∧ RoundsOk P glb l
theorem findRound_ok {P : Program} {glb : Gl} : ∀ {l : List (Nat × Nat × RoundC)}, RoundsOk P glb l → ∀ {f k : Nat} {rc : RoundC}, findRound l f k = some rc → RoundCR P glb f k rc
 | [], _, f, k, rc, h => by simp [findRound] at h
 | (g, j, r) :: l, ⟨h1, h2⟩, f, k, rc, h => by
  simp only [findRound] at h
  split at h
  ·next e =>
   simp only [Bool.and_eq_true, beq_iff_eq] at e
   obtain ⟨rfl, rfl⟩ := e
   simp only [Option.some.injEq] at h; subst h; exact h1
  ·exact findRound_ok h2 h
inductive FT where
 | leaf
 | node (f : Nat) (cf : CFunc) (l r : FT)
def FT.get : FT → Nat → Option CFunc
 | .leaf, _ => none
 | .node f cf l r, g => if g == f then some cf else if Nat.blt g f then l.get g else r.get g
def FT.Ok (P : Program) (glb : Gl) : FT → Prop
 | .leaf => True
 | .node f cf l r => FuncR P glb f cf ∧ l.Ok P glb ∧ r.Ok P glb
theorem FT.get_ok {P : Program} {glb : Gl} : ∀ {t : FT}, t.Ok P glb → ∀ {f : Nat} {cf : CFunc}, t.get f = some cf → FuncR P glb f cf
 | .leaf, _, f, cf, h => by simp [FT.get] at h
 | .node g cg l r, ⟨h1, h2, h3⟩, f, cf, h => by
  simp only [FT.get] at h
  split at h
  ·next e => simp only [Option.some.injEq] at h; subst h; simp at e; subst e; exact h1
  ·split at h
   ·exact FT.get_ok h2 h
   ·exact FT.get_ok h3 h
def FT.tab (t : FT) : Tab := { code := t.get, prim := fun _ => none }
def FT.tabR (t : FT) (l : List (Nat × Nat × RoundC)) : Tab := { code := t.get, prim := fun _ => none, rounds := findRound l }
theorem FT.tabR_ok {P : Program} {glb : Gl} {t : FT} (h : t.Ok P glb) {l : List (Nat × Nat × RoundC)} (hl : RoundsOk P glb l) : TabOk P glb (t.tabR l) := { code := fun _ _ e => FT.get_ok h e, prim := fun _ _ e => by simp [FT.tabR] at e, rounds := fun _ _ _ e => findRound_ok hl e }
theorem Inv.later {K : Ctx} {ι : Emb} {h : Heap} {w w' : World} (H : Inv K ι h w) (k : Keeps (fun b => b < w.heap.size) w w') : Inv K ι h w' := by
 refine ⟨H.hF, ⟨k.os.trans H.keep.os, k.tape.trans H.keep.tape, k.output.trans H.keep.output, Nat.le_trans H.keep.size k.size, fun b hb => ?_⟩, H.glob, fun i o hi => ?_, H.excl, H.fresh, fun i b β e hb => Nat.lt_of_lt_of_le (H.inb i b β e hb) k.size, H.hG, H.hid, H.nev, H.nul⟩
 ·rw [k.block b (Nat.lt_of_lt_of_le (H.hF b hb) H.keep.size)]; exact H.keep.block b hb
 ·exact (H.obj i o hi).mono (Emb.le.refl _) fun b β e hb => k.block b (H.inb i b β e hb)
def Ctx.all (w : World) (glb : Gl) : Ctx := { w₀ := w, F := fun b => b < w.heap.size, glb := glb, G := fun _ => False, N := fun _ => False, U := fun _ => False }
def Emb.globs (glb : Nat) : Emb := fun i => if i < glb then some (i, 0, 0) else none
def Heap.empty (glb : Nat) : Heap := ⟨glb, .nil⟩
theorem Heap.get_empty (glb i : Nat) : (Heap.empty glb).get i = none := Tr.get_nil i
theorem Inv.start {w : World} {glb : Gl} (hg : glb.n ≤ w.heap.size) (hf : ∀ w', Keeps (fun b => b < w.heap.size) w w' → glb.fact w') : Inv (Ctx.all w glb) (Emb.globs glb.n) (Heap.empty glb.n) w := by
 refine ⟨fun _ h => h, ⟨rfl, rfl, rfl, Nat.le_refl _, fun _ _ => rfl⟩, fun g h => by simp [Emb.globs, show g < glb.n from h], fun i o h => by rw [Heap.get_empty] at h; simp at h, fun i j oi oj b β e b' β' e' _ h => by rw [Heap.get_empty] at h; simp at h,
  fun i h => ⟨by simp [Emb.globs, show ¬ i < glb.n from Nat.not_lt.2 h], Heap.get_empty _ _⟩, fun i b β e h => ?_, ⟨fun _ h => h.elim, hf⟩, fun i o b β e h => by rw [Heap.get_empty] at h; simp at h, fun _ h => h.elim, fun _ h => h.elim⟩
 unfold Emb.globs at h
 split at h
 ·simp at h; omega
 ·simp at h
def closedP (v : CVal) : List CVal → Heap → Option (CVal × Heap)
 | [], h => some (v, h)
 | _ :: _, _ => none
theorem law_walk {P : Program} {glb : Gl} {call : CallFn} (hc : CallOk P glb call) {f : FuncId} {args : List CVal} {args' : Array Value} {h h₁ : Heap} {w : World} {ι : Emb} (H : Inv (Ctx.all w glb) ι h w) (R : VRs ι args args'.toList)
  (e : call (fId f) args h = some (.bool true, h₁)) : Calls P f args' w fun e w' => e = .returned (.bool true) ∧ Below w.heap.size w w' := by
 refine (hc.calls _ ι h w f args args' (.bool true) h₁ rfl H R e).mono ?_
 rintro e' w' ⟨ι', v', _, rfl, H', hv⟩
 cases hv
 refine ⟨rfl, ?_⟩
 have k := H'.keep
 exact ⟨k.os, k.tape, k.output, k.size, fun b hb => k.block b hb⟩
def Tab.with (T : Tab) (f : FuncId) (p : List CVal → Heap → Option (CVal × Heap)) : Tab := { T with prim := fun g => if g == f then some p else T.prim g }
theorem TabOk.with {P : Program} {glb : Gl} {T : Tab} (h : TabOk P glb T) {f : FuncId} {p : List CVal → Heap → Option (CVal × Heap)} (hp : PrimOk P glb f p) : TabOk P glb (T.with f p) := by
 refine ⟨h.code, fun g q e => ?_, h.rounds, h.dcode⟩
 simp only [Tab.with] at e
 split at e
 ·next hg => simp only [Option.some.injEq] at e; subst e; simp at hg; subst hg; exact hp
 ·exact h.prim g q e
def CallLe (c c' : CallFn) : Prop := ∀ f args h r, c f args h = some r → c' f args h = some r
section
variable {c c' : CallFn}
theorem runDefers_mono (hc : CallLe c c') : ∀ {ds : List (FuncId × List CVal)} {h h' : Heap}, runDefers c ds h = some h' → runDefers c' ds h = some h'
 | [], _, _, e => e
 | x :: ds, h, h', e => by
  simp only [runDefers] at *
  split at e
  ·split at e
   ·exact runDefers_mono hc e
   ·simp at e
  ·split at e
   ·next h1 => rw [hc _ _ _ _ h1]; exact runDefers_mono hc e
   ·simp at e
end
def Cal (T : Tab) (f : FuncId) (args : List CVal) (h : Heap) (Q : CVal → Heap → Prop) : Prop := ∃ n v h', callF T n (fId f) args h = some (v, h') ∧ Q v h'
def CalR (T : Tab) (i : Nat) (args : List CVal) (h : Heap) (Q : CVal → Heap → Prop) : Prop := ∃ n v h', callF T n (yId i) args h = some (v, h') ∧ Q v h'
def WP (T : Tab) (c : CCode) (a : Fr) (h : Heap) (Q : CExit → Fr → Heap → Prop) : Prop := ∃ n x a' h', evCode (callF T n) n c a h = some (x, a', h') ∧ Q x a' h'
abbrev Env := Nat → CVal
def Env.put (ρ : Env) (t : Nat) (v : CVal) : Env := fun s => if s = t then v else ρ s
def envL (N : Nat) (ρ : Env) : List CVal := (List.range N).map ρ
section
variable {T : Tab} {a : Fr} {h : Heap} {Q : CExit → Fr → Heap → Prop}
def thenQ (K : Fr → Heap → Prop) (Q : CExit → Fr → Heap → Prop) : CExit → Fr → Heap → Prop
 | .normal, a, h => K a h
 | x, a, h => Q x a h
def blockQ (id : Nat) (Q : CExit → Fr → Heap → Prop) : CExit → Fr → Heap → Prop
 | .exit id', a, h => if id' = id then Q .normal a h else Q (.exit id') a h
 | x, a, h => Q x a h
def WPO (T : Tab) (os : List COper) (a : Fr) (h : Heap) (K : Fr → Heap → Prop) : Prop := ∃ n a' h', evOps (callF T n) os a h = some (a', h') ∧ K a' h'
variable {K : Fr → Heap → Prop} {os : List COper} {o : COper}
end
def CalD (T : Tab) (f : FuncId) (args : List CVal) (h : Heap) (K : Heap → Prop) : Prop := ∃ n v h', (match T.dcod f with | some gn => evBodyD (callF T n) n gn args h | none => none) = some (v, h') ∧ K h'
def DefP (T : Tab) : List (FuncId × List CVal) → Heap → (Heap → Prop) → Prop
 | [], h, K => K h
 | x :: ds, h, K => match isMark x with
  | some d => h.get d = some .dfr ∧ DefP T ds (h.kill d) K
  | none => CalD T x.1 x.2 h fun h' => DefP T ds h' K
def calldF (T : Tab) (n : Nat) : CallFn := fun g as h => match T.dcod g with | some gn => evBodyD (callF T n) n gn as h | none => none
def endQ (results : List CRV) (Q : CVal → Heap → Prop) : CExit → Fr → Heap → Prop
 | .normal, a, h | .ret, a, h => a.defers = [] ∧ ∃ vs, resultsC a.tmps h results = some vs ∧ Q (packC vs) h
 | _, _, _ => False
def argsE (args : List CVal) : Env := fun s => args.getD s .un
end Go.Proofs.YtkjdgdkkepmciaaGreat.Cm
namespace Go.Proofs.YtkjdgdkkepmciaaGreat.Cm
open Go.RowKit
def CX.on (N : Nat) (ρ : Env) : CX → CVal
 | .t n => if Nat.blt n N = true then ρ n else .undef
 | .c v => v
def Env.putO (ρ : Env) : Option Nat → CVal → Env
 | some t, v => ρ.put t v
 | none, _ => ρ
namespace O
end O
end Go.Proofs.YtkjdgdkkepmciaaGreat.Cm
