/-
  The clean machine, part YB: slices that grow by append.
-/
import Derived.Test.YtlggkknkbbhooaaGreatCmD
import Derived.WideShapes
import Derived.ChangeSlices
import Derived.OpenShut
import GoSem.ClaimJoined
import Derived.Lib.Join
import Derived.Below
import Derived.Lib.ItoaNum
import Derived.Lib.ParseIntB
import Derived.Lib.LaidTab
import Derived.Lib.ConvBytes
import Derived.Lib.AtoiErrMem
import Derived.Sort.Grow
import Derived.Deep.Draws
import Derived.ChangeArms
import Derived.Lib.TrimUEq
import Derived.Lib.Split
import Derived.Lib.CountLaws
import Derived.Lib.IndexLaws
import Derived.Lib.IndexBytes
import Derived.Lib.AtoiAll
import Derived.Lib.Fields
import Derived.Lib.Bytealg
import Derived.Shelf.Strings.FieldsAny
import Derived.Maps.RangeWalk
import Derived.Maps.RangeRun
import Derived.Maps.Range
import Derived.Lib.SlKeysI
namespace Go.Proofs.YtlggkknkbbhooaaGreat.Cm
open Go.RowKit

/-- A slice of m elements of so many cells each, that nobody else shares. -/
def IsSl (h : Heap) (v : CVal) (sz m : Nat) (cs : List CVal) : Prop :=
  (v = .nilSlice ∧ m = 0 ∧ cs = []) ∨ ∃ b wr opn, v = .slice b 0 m m ∧ cs.length = m * sz ∧ h.get b = some (.cells cs wr opn) ∧ (opn = none ∨ (opn = some sz ∧ wr = true))
/-- Its block is not below. -/
def vlo (lo : Nat) (v : CVal) : Prop := ∀ j o l c, v = .slice j o l c → lo ≤ j
/-- Its block is not that one. -/
def vne (j : Nat) (v : CVal) : Prop := ∀ o l c, v ≠ .slice j o l c
theorem vlo.ne {lo j : Nat} {v : CVal} (h : vlo lo v) (hj : j < lo) : vne j v := fun o l c e => Nat.not_lt.2 (h j o l c e) hj
theorem vlo_nil (lo : Nat) : vlo lo .nilSlice := fun _ _ _ _ e => by simp at e
theorem vlo_slice {lo b o l c : Nat} (h : lo ≤ b) : vlo lo (.slice b o l c) := fun _ _ _ _ e => by simp only [CVal.slice.injEq] at e; obtain ⟨rfl, _⟩ := e; exact h
theorem vlo.mono {lo lo' : Nat} {v : CVal} (h : vlo lo v) (hl : lo' ≤ lo) : vlo lo' v := fun j o l c e => Nat.le_trans hl (h j o l c e)
theorem IsSl.nil {h : Heap} {sz : Nat} : IsSl h .nilSlice sz 0 [] := .inl ⟨rfl, rfl, rfl⟩
theorem IsSl.len {h : Heap} {v : CVal} {sz m : Nat} {cs : List CVal} (s : IsSl h v sz m cs) : cs.length = m * sz := by
  rcases s with ⟨_, rfl, rfl⟩ | ⟨_, _, _, _, e, _⟩
  · simp
  · exact e
theorem IsSl.frame {h h' : Heap} {v : CVal} {sz m : Nat} {cs : List CVal} (s : IsSl h v sz m cs) (e : ∀ j, ¬ vne j v → h'.get j = h.get j) : IsSl h' v sz m cs := by
  rcases s with s | ⟨b, wr, opn, rfl, e1, e2, e3⟩
  · exact .inl s
  · exact .inr ⟨b, wr, opn, rfl, e1, (e b fun n => n _ _ _ rfl).trans e2, e3⟩
theorem IsSl.exd {h h' : Heap} {v : CVal} {sz m : Nat} {cs : List CVal} (s : IsSl h v sz m cs) (e : Exd h h') (hl : ∀ j o l c, v = .slice j o l c → j < h.next) : IsSl h' v sz m cs :=
  s.frame fun j hj => e.get j (Classical.byContradiction fun hn => hj fun o l c hv => hn (hl j o l c hv))

theorem srcC_one {h : Heap} {sz j n : Nat} {us : List CVal} {wr : Bool} {opn : Option Nat} (g : h.get j = some (.cells us wr opn)) (hl : us.length = n * sz) (hn : 0 < n) : srcC h sz (.slice j 0 n n) = some (n, us) := by
  have e : ((us.drop 0).take (n * sz)) = us := by rw [List.drop_zero, ← hl, List.take_length]
  simp only [srcC, g, if_neg (Nat.ne_of_gt hn)]
  rw [e, if_pos hl]

theorem appendC_sl {h : Heap} {v x : CVal} {sz bytes m n : Nat} {cs new : List CVal} (hv : IsSl h v sz m cs) (hx : srcC h sz x = some (n, new)) (hn : 0 < n) (ho : new.all CVal.one = true) (hb : (m + n) * bytes ≤ 1099511627776) :
    ∃ h', appendC h sz bytes v x = some (.slice h.next 0 (m + n) (m + n), h') ∧ h'.next = h.next + 1 ∧ h'.get h.next = some (.cells (cs ++ new) true (some sz)) ∧ ∀ j, j < h.next → vne j v → h'.get j = h.get j := by
  unfold appendC
  simp only [hx, ho, if_true]
  rcases hv with ⟨rfl, rfl, rfl⟩ | ⟨b, wr, opn, rfl, e1, e2, e3⟩
  · refine ⟨h.new (.cells new true (some sz)), ?_, rfl, ?_, fun j hj _ => h.get_new_ne j _ (Nat.ne_of_lt hj)⟩
    · simp only [if_neg (Nat.ne_of_gt hn), Nat.zero_add] at hb ⊢
      rw [if_pos hb]
    · rw [List.nil_append]; exact h.get_new_same _
  · have t : ((cs.drop 0).take (m * sz)) = cs := by rw [List.drop_zero, ← e1, List.take_length]
    simp only [if_neg (Nat.ne_of_gt hn), e2]
    rw [if_neg (by omega), if_pos ⟨hb, by rw [t]; exact e1⟩, t]
    rcases e3 with rfl | ⟨rfl, rfl⟩
    · exact ⟨_, rfl, rfl, h.get_new_same _, fun j hj _ => h.get_new_ne j _ (Nat.ne_of_lt hj)⟩
    · simp only
      rw [if_pos ⟨trivial, trivial, by omega⟩]
      refine ⟨_, rfl, rfl, (h.kill b).get_new_same _, fun j hj hne => ?_⟩
      rw [Heap.get_new_ne (h.kill b) j _ (Nat.ne_of_lt hj), Heap.get_kill_ne _ _ _ (fun e => hne _ _ _ (by rw [e]))]

theorem bounds2 {len cap p q : Nat} {a b : Int} {k k' : IntKind} (ha : a = p) (hb : b = q) (h : p ≤ q) (h' : q ≤ cap) : boundsC len cap (some (.int k a)) (some (.int k' b)) none = some (p, q, cap) := by
  subst ha; subst hb
  have hq : asNat (.int k' (q : Int)) = some q := by rw [asNat, if_pos (Int.natCast_nonneg q), Int.toNat_natCast]
  have hp : asNat (.int k (p : Int)) = some p := by rw [asNat, if_pos (Int.natCast_nonneg p), Int.toNat_natCast]
  delta boundsC
  simp only [hq, hp]
  rw [if_pos (Nat.le_refl cap), if_pos h', if_pos h]
end Go.Proofs.YtlggkknkbbhooaaGreat.Cm

/-
  The clean machine, part YC: arguments that are slices of whole numbers, laid into the clean heap to be read.
-/
namespace Go.Proofs.YtlggkknkbbhooaaGreat.Cm
open Go.RowKit Go.ChangeShapes

section
variable {K : Ctx} {ι : Emb} {h : Heap} {w : World}

/-- Nothing may be written. -/
def Ro (h : Heap) : Prop := ∀ i o, h.get i = some o → o.wr = false

theorem Inv.arg (H : Inv K ι h w) (ro : Ro h) {b β : Nat} {cs : List CVal} {C : Array Value} {el : TypeId} {fz : Nat × Nat} (hb : w.heap[b]? = some (.cells C el fz)) (hc : CellsR (ι.put h.next (b, β, 0)) cs C β) (hg : ¬ K.G b) :
    Inv K (ι.put h.next (b, β, 0)) (h.new (.cells cs false none)) w := by
  have hfr := (H.fresh h.next (Nat.le_refl _)).1
  have hle := ι.le_put h.next (b, β, 0) hfr
  have hlt : b < w.heap.size := (Array.getElem?_eq_some_iff.1 hb).1
  have ro' : Ro (h.new (.cells cs false none)) := by
    intro i o e
    rw [Heap.get_new] at e
    split at e
    · simp only [Option.some.injEq] at e; subst e; rfl
    · exact ro i o e
  refine ⟨H.hF, H.keep, fun g hg => hle _ _ (H.glob g hg), fun i o e => ?_, fun i j oi oj b β e b' β' e' _ hi _ hw _ _ => ?_, fun i hi => ?_, fun i b' β' e' hi => ?_, H.hG, fun i o b' β' e' hi hb' => ?_, fun i hi => ?_, fun i hi => ?_⟩
  · rw [Heap.get_new] at e
    split at e
    · next hi =>
      subst hi
      simp only [Option.some.injEq] at e; subst e
      obtain ⟨lo, hi⟩ := fz
      exact ⟨b, β, 0, C, el, lo, hi, Emb.put_same _ _ _, hb, hc, fun _ => rfl, fun hw => by simp at hw⟩
    · exact (H.obj i o e).mono hle fun _ _ _ _ => rfl
  · rw [ro' i oi hi] at hw; simp at hw
  · have hne : i ≠ h.next := by rw [Heap.next_new] at hi; omega
    rw [Emb.put_ne _ _ _ _ hne, Heap.get_new_ne _ _ _ hne]
    exact H.fresh i (by rw [Heap.next_new] at hi; omega)
  · by_cases hne : i = h.next
    · subst hne
      rw [Emb.put_same] at hi
      simp only [Option.some.injEq, Prod.mk.injEq] at hi
      omega
    · rw [Emb.put_ne _ _ _ _ hne] at hi; exact H.inb i _ _ _ hi
  · by_cases hne : i = h.next
    · subst hne
      rw [Emb.put_same] at hb'
      simp only [Option.some.injEq, Prod.mk.injEq] at hb'
      rw [← hb'.1]; exact hg
    · rw [Emb.put_ne _ _ _ _ hne] at hb'
      rw [Heap.get_new_ne _ _ _ hne] at hi
      exact H.hid i o _ _ _ hi hb'
  · obtain ⟨h1, h2⟩ := H.nev i hi
    exact ⟨Nat.lt_succ_of_lt h1, by rw [Heap.get_new_ne _ _ _ (by omega)]; exact h2⟩
  · obtain ⟨h1, h2⟩ := H.nul i hi
    exact ⟨Nat.lt_succ_of_lt h1, by rw [Emb.put_ne _ _ _ _ (by omega)]; exact h2⟩

/-- An id without an object. -/
theorem Inv.argE (H : Inv K ι h w) {b : Nat} (hlt : b < w.heap.size) : Inv K (ι.put h.next (b, 0, 0)) (h.room 1) w := by
  have hfr := (H.fresh h.next (Nat.le_refl _)).1
  have hle := ι.le_put h.next (b, 0, 0) hfr
  have hget : ∀ i, (h.room 1).get i = h.get i := fun i => Heap.room_get rfl
  have hn : (h.room 1).next = h.next + 1 := Heap.nx_room rfl
  have hnone : h.get h.next = none := (H.fresh h.next (Nat.le_refl _)).2
  have hne : ∀ {i o}, h.get i = some o → i ≠ h.next := fun e hi => by rw [hi, hnone] at e; simp at e
  refine ⟨H.hF, H.keep, fun g hg => hle _ _ (H.glob g hg), fun i o e => ?_, fun i j oi oj b β e b' β' e' hij hi hj hw h1 h2 => ?_, fun i hi => ?_, fun i b' β' e' hi => ?_, H.hG, fun i o b' β' e' hi hb' => ?_, fun i hi => ?_, fun i hi => ?_⟩
  · rw [hget] at e
    exact (H.obj i o e).mono hle fun _ _ _ _ => rfl
  · rw [hget] at hi hj
    rw [Emb.put_ne _ _ _ _ (hne hi)] at h1
    rw [Emb.put_ne _ _ _ _ (hne hj)] at h2
    exact H.excl i j oi oj b β e b' β' e' hij hi hj hw h1 h2
  · rw [hn] at hi
    rw [hget, Emb.put_ne _ _ _ _ (by omega)]
    exact H.fresh i (by omega)
  · by_cases hne : i = h.next
    · subst hne
      rw [Emb.put_same] at hi
      simp only [Option.some.injEq, Prod.mk.injEq] at hi
      omega
    · rw [Emb.put_ne _ _ _ _ hne] at hi; exact H.inb i _ _ _ hi
  · rw [hget] at hi
    rw [Emb.put_ne _ _ _ _ (hne hi)] at hb'
    exact H.hid i o _ _ _ hi hb'
  · obtain ⟨h1, h2⟩ := H.nev i hi
    exact ⟨by rw [hn]; omega, by rw [hget]; exact h2⟩
  · obtain ⟨h1, h2⟩ := H.nul i hi
    exact ⟨by rw [hn]; omega, by rw [Emb.put_ne _ _ _ _ (by omega)]; exact h2⟩

/-- A row of whole numbers, as the claim's opening tells it. -/
def IsRow (k : IntKind) (w : World) (a : Option Addr) (len cap : Nat) (zs : List Int) : Prop :=
  (a = none ∧ len = 0 ∧ cap = 0 ∧ zs = []) ∨
  ∃ x, a = some x ∧ x.block < w.heap.size ∧ len ≤ cap ∧ zs.length = cap ∧ (∀ i, i < zs.length → w.cell? (x.add i) = some (.int k (zs.getD i 0))) ∧ ∀ n ∈ zs, (Lit.int k n).wf = true

/-- A slice of whole numbers that may be read: so many, of those (the spare ones behind). -/
def ArgSl (h : Heap) (v : CVal) (k : IntKind) (len : Nat) (zs : List Int) : Prop :=
  len ≤ zs.length ∧ (∀ n ∈ zs, (Lit.int k n).wf = true) ∧ ((v = .nilSlice ∧ zs = []) ∨ ∃ i, v = .slice i 0 len zs.length ∧ i < h.next ∧ (zs = [] ∨ h.get i = some (.cells (zs.map (CVal.int k)) false none)))

theorem ArgSl.exd {h h' : Heap} {v : CVal} {k : IntKind} {len : Nat} {zs : List Int} (s : ArgSl h v k len zs) (e : Exd h h') : ArgSl h' v k len zs := by
  obtain ⟨h1, h2, h3⟩ := s
  refine ⟨h1, h2, ?_⟩
  rcases h3 with h3 | ⟨i, h4, h5, h6⟩
  · exact .inl h3
  · exact .inr ⟨i, h4, Nat.lt_of_lt_of_le h5 e.le, h6.imp id fun g => (e.get i h5).trans g⟩

theorem open_arg (H : Inv K ι h w) (ro : Ro h) (hg : ∀ b, ¬ K.G b) {k : IntKind} {a : Option Addr} {len cap : Nat} {zs : List Int} (r : IsRow k w a len cap zs) :
    ∃ ι' h' v, ι.le ι' ∧ Inv K ι' h' w ∧ Exd h h' ∧ Ro h' ∧ VR ι' v (.slice a len cap) ∧ ArgSl h' v k len zs := by
  rcases r with ⟨rfl, rfl, rfl, rfl⟩ | ⟨x, rfl, hx, hl, hz, hc, hw⟩
  · exact ⟨ι, h, .nilSlice, Emb.le.refl _, H, Exd.refl _, ro, .nilSlice, Nat.le_refl _, fun n m => by simp at m, .inl ⟨rfl, rfl⟩⟩
  · have hle : ∀ β, ι.le (ι.put h.next (x.block, β, 0)) := fun β => ι.le_put h.next _ (H.fresh h.next (Nat.le_refl _)).1
    by_cases h0 : cap = 0
    · subst h0
      obtain rfl : zs = [] := by cases zs; rfl; simp at hz
      obtain rfl : len = 0 := by omega
      refine ⟨_, h.room 1, .slice h.next 0 0 0, hle 0, H.argE hx, ⟨by rw [Heap.nx_room rfl]; omega, fun i _ => Heap.room_get rfl⟩, fun i o e => ro i o (by rw [Heap.room_get rfl] at e; exact e), ?_, Nat.le_refl _, hw, .inr ⟨h.next, rfl, by rw [Heap.nx_room rfl]; omega, .inl rfl⟩⟩
      exact .slice h.next 0 0 0 x.block 0 0 x (Emb.put_same _ _ _) (.inr rfl) (Nat.le_refl _)
    · -- the block
      have c0 := hc 0 (by omega)
      have ha0 : x.add 0 = x := by simp [Addr.add]
      rw [ha0] at c0
      unfold World.cell? at c0
      split at c0
      · next C el fz hb =>
        split at c0
        · simp at c0
        · next hs =>
          have hspot : x.spot = none := by simpa using hs
          have hcell : CellsR (ι.put h.next (x.block, x.off, 0)) (zs.map (CVal.int k)) C x.off := by
            intro j v e
            rw [List.getElem?_map] at e
            cases hq : zs[j]? with
            | none => rw [hq] at e; simp at e
            | some z =>
              rw [hq] at e
              simp only [Option.map_some, Option.some.injEq] at e
              subst e
              have hj : j < zs.length := (List.getElem?_eq_some_iff.1 hq).1
              have c := hc j hj
              have hd : zs.getD j 0 = z := by rw [List.getD_eq_getElem?_getD, hq]; rfl
              rw [hd] at c
              refine ⟨rfl, .int k z, ?_, .int k z⟩
              unfold World.cell? Addr.add at c
              by_cases hj0 : j = 0
              · subst hj0
                simp only [if_true, hb, hspot] at c
                simpa using c
              · simp only [if_neg hj0, hb] at c
                simpa using c
          refine ⟨_, _, .slice h.next 0 len cap, hle x.off, H.arg ro hb hcell (hg _), Exd.new (Exd.refl _), fun i o e => ?_, ?_, by omega, hw, .inr ⟨h.next, by rw [hz], Nat.lt_succ_self _, .inr (h.get_new_same _)⟩⟩
          · rw [Heap.get_new] at e
            split at e
            · simp only [Option.some.injEq] at e; subst e; rfl
            · exact ro i o e
          · refine .slice h.next 0 len cap x.block x.off 0 x (Emb.put_same _ _ _) (.inl ?_) hl
            obtain ⟨bl, of, sp⟩ := x
            simp only at hspot
            subst hspot
            rfl
      · simp at c0
end

theorem ro_empty (glb : Nat) : Ro (Heap.empty glb) := fun i o e => by rw [Heap.get_empty] at e; simp at e

/-- A slice that may come in: its block stands in the memory. -/
theorem okw_slice {P : Program} {w : World} {r : Reach} {base : Nat} {t e : TypeId} {v : Value} (ht : P.underlying t = some (.slice e)) (h : Value.okWide P w r base t v) : v = .slice none 0 0 ∨ ∃ a len cap, v = .slice (some a) len cap ∧ len ≤ cap ∧ a.block < w.heap.size := by
  simp only [Value.okWide, ht, Cell.okWide] at h
  cases v with
  | slice a len cap =>
    cases a with
    | none =>
      left
      cases len <;> cases cap <;> simp_all [Cell.ok]
    | some a =>
      right
      simp only [Cell.ok, ht] at h
      obtain ⟨h1, _, _, _, row, cells, hs, _⟩ := h
      refine ⟨a, len, cap, rfl, h1, ?_⟩
      unfold World.shape? at hs
      split at hs
      · next hb => exact (Array.getElem?_eq_some_iff.1 hb).1
      · simp at hs
  | _ => simp_all [Cell.ok]

theorem row_of {P : Program} {H : Type} {enc : TypeId × Value → H} {w : World} {r : Reach} {base : Nat} {t e : TypeId} {k : IntKind} {v : Value} {x : DataW H × List MemPlace} (ht : P.underlying t = some (.slice e)) (he : P.underlying e = some (.int k)) (hc : P.cellsOf e = 1)
    (hv : Value.okWide P w r base t v) (h : ∃ m, DataW.trod enc P w 0 (fun _ => true) true m t v.cells.toList = some x) : ∃ a len cap zs, v = .slice a len cap ∧ IsRow k w a len cap zs := by
  obtain ⟨m, hf⟩ := h
  rcases okw_slice ht hv with rfl | ⟨a, len, cap, rfl, h1, h2⟩
  · exact ⟨none, 0, 0, [], rfl, .inl ⟨rfl, rfl, rfl, rfl⟩⟩
  · rcases open_ints ht he hc hf with ⟨hcs, _⟩ | ⟨a', l, c, zs, hcs, _, hl, _, hz, _, hcell, hwz⟩
    · simp [Value.cells] at hcs
    · simp [Value.cells] at hcs
      obtain ⟨rfl, rfl, rfl⟩ := hcs
      exact ⟨some a, len, cap, zs, rfl, .inr ⟨a, rfl, h2, hl, by simpa using hz, hcell, hwz⟩⟩
end Go.Proofs.YtlggkknkbbhooaaGreat.Cm

/-
  The clean machine, part YD: arguments that are rows of records, each of two rows of numbers and a number, laid into the clean heap to be read.
-/
namespace Go.Proofs.YtlggkknkbbhooaaGreat.Cm
open Go.RowKit Go.ChangeShapes

/-- A row of numbers that lies in the world (in which block, where it is empty, is not told). -/
def IsRow' (w : World) (a : Option Addr) (len cap : Nat) (zs : List Int) : Prop :=
  (a = none ∧ len = 0 ∧ cap = 0 ∧ zs = []) ∨
  ∃ x, a = some x ∧ len ≤ cap ∧ zs.length = cap ∧ (∀ i, i < zs.length → w.cell? (x.add i) = some (.int .i64 (zs.getD i 0))) ∧ ∀ n ∈ zs, (Lit.int .i64 n).wf = true

section
variable {K : Ctx} {ι : Emb} {h : Heap} {w : World}

theorem cell_block {x : Addr} {v : Value} (c : w.cell? x = some v) : x.block < w.heap.size := by
  unfold World.cell? at c
  split at c
  · next hb => exact (Array.getElem?_eq_some_iff.1 hb).1
  · simp at c

theorem IsRow'.row {a : Option Addr} {len cap : Nat} {zs : List Int} (r : IsRow' w a len cap zs) (h0 : 0 < cap) : IsRow .i64 w a len cap zs := by
  rcases r with ⟨_, _, rfl, _⟩ | ⟨x, rfl, h1, h2, h3, h4⟩
  · omega
  · have c := h3 0 (by omega)
    have : x.add 0 = x := by simp [Addr.add]
    rw [this] at c
    exact .inr ⟨x, rfl, cell_block c, h1, h2, h3, h4⟩

theorem open_arg' (H : Inv K ι h w) (ro : Ro h) (hg : ∀ b, ¬ K.G b) {b₀ : Nat} (hb : b₀ < w.heap.size) {a : Option Addr} {len cap : Nat} {zs : List Int} (r : IsRow' w a len cap zs) :
    ∃ ι' h' v, ι.le ι' ∧ Inv K ι' h' w ∧ Exd h h' ∧ Ro h' ∧ VR ι' v (.slice a len cap) ∧ ArgSl h' v .i64 len zs := by
  by_cases h0 : cap = 0
  · rcases r with ⟨rfl, rfl, rfl, rfl⟩ | ⟨x, rfl, h1, h2, h3, h4⟩
    · exact ⟨ι, h, .nilSlice, Emb.le.refl _, H, Exd.refl _, ro, .nilSlice, Nat.le_refl _, fun n m => by simp at m, .inl ⟨rfl, rfl⟩⟩
    · subst h0
      obtain rfl : zs = [] := by cases zs; rfl; simp at h2
      obtain rfl : len = 0 := by omega
      refine ⟨_, h.room 1, .slice h.next 0 0 0, ι.le_put h.next _ (H.fresh h.next (Nat.le_refl _)).1, H.argE hb, ⟨by rw [Heap.nx_room rfl]; omega, fun i _ => Heap.room_get rfl⟩, fun i o e => ro i o (by rw [Heap.room_get rfl] at e; exact e), ?_, Nat.le_refl _, h4, .inr ⟨h.next, rfl, by rw [Heap.nx_room rfl]; omega, .inl rfl⟩⟩
      exact .slice h.next 0 0 0 b₀ 0 0 x (Emb.put_same _ _ _) (.inr rfl) (Nat.le_refl _)
  · exact open_arg H ro hg (r.row (by omega))

/-- What one record is. -/
def Rec3 (w : World) (x : Addr) (j : Nat) (B : Nat) (R₁ R₂ : List Int) (p : Int) : Prop :=
  ∃ a₁ l₁ c₁ z₁ a₂ l₂ c₂ z₂, w.cell? (x.add (j * 3)) = some (.slice a₁ l₁ c₁) ∧ w.cell? (x.add (j * 3 + 1)) = some (.slice a₂ l₂ c₂) ∧ w.cell? (x.add (j * 3 + 2)) = some (.int .i64 p) ∧
    IsRow' w a₁ l₁ c₁ z₁ ∧ IsRow' w a₂ l₂ c₂ z₂ ∧ R₁ = z₁.take l₁ ∧ R₂ = z₂.take l₂ ∧ c₁ ≤ B ∧ c₂ ≤ B

/-- So many records laid in. -/
structure Laid3 (K : Ctx) (ι : Emb) (h : Heap) (w : World) (x : Addr) (recs : List (List Int × List Int × Int)) (n : Nat) (ι' : Emb) (h' : Heap) (cs : List CVal) : Prop where
  le : ι.le ι'
  inv : Inv K ι' h' w
  exd : Exd h h'
  ro : Ro h'
  len : cs.length = n * 3
  cells : ∀ j v, cs[j]? = some v → v.one = true ∧ ∃ v', w.cell? (x.add j) = some v' ∧ VR ι' v v'
  recs : ∀ j (hj : j < recs.length), j < n → ∃ v₁ v₂, cs[j * 3]? = some v₁ ∧ cs[j * 3 + 1]? = some v₂ ∧ cs[j * 3 + 2]? = some (.int .i64 recs[j].2.2) ∧ (∃ l z, ArgSl h' v₁ .i64 l z ∧ recs[j].1 = z.take l) ∧ ∃ l z, ArgSl h' v₂ .i64 l z ∧ recs[j].2.1 = z.take l

theorem VR.one_slice {v : CVal} {a : Option Addr} {l c : Nat} (r : VR ι v (.slice a l c)) (hs : v ≠ .undef) : v.one = true := by
  cases r with
  | undef => exact (hs rfl).elim
  | nilSlice => rfl
  | slice => rfl

theorem ArgSl.ne_undef {v : CVal} {k : IntKind} {l : Nat} {z : List Int} (s : ArgSl h v k l z) : v ≠ .undef := by
  rcases s.2.2 with ⟨rfl, _⟩ | ⟨_, rfl, _⟩ <;> simp

theorem lay3 (H : Inv K ι h w) (ro : Ro h) (hg : ∀ b, ¬ K.G b) {x : Addr} {B : Nat} {recs : List (List Int × List Int × Int)} (hr : ∀ j (hj : j < recs.length), Rec3 w x j B recs[j].1 recs[j].2.1 recs[j].2.2) :
    ∀ n, n ≤ recs.length → ∃ ι' h' cs, Laid3 K ι h w x recs n ι' h' cs
  | 0, _ => ⟨ι, h, [], Emb.le.refl _, H, Exd.refl _, ro, rfl, fun j v e => by simp at e, fun j _ hj => by omega⟩
  | n + 1, hn => by
    obtain ⟨ι₁, h₁, cs, L⟩ := lay3 H ro hg hr n (by omega)
    obtain ⟨a₁, l₁, c₁, z₁, a₂, l₂, c₂, z₂, e₁, e₂, e₃, r₁, r₂, q₁, q₂, _, _⟩ := hr n (by omega)
    have hb : x.block < w.heap.size := by
      have := cell_block e₁
      unfold Addr.add at this
      split at this <;> exact this
    obtain ⟨ι₂, h₂, v₁, le₂, H₂, x₂, ro₂, vr₁, s₁⟩ := open_arg' L.inv L.ro hg hb r₁
    obtain ⟨ι₃, h₃, v₂, le₃, H₃, x₃, ro₃, vr₂, s₂⟩ := open_arg' H₂ ro₂ hg hb r₂
    have s₁' := s₁.exd x₃
    have len := L.len
    refine ⟨ι₃, h₃, cs ++ [v₁, v₂, .int .i64 recs[n].2.2], (L.le.trans le₂).trans le₃, H₃, (L.exd.trans x₂).trans x₃, ro₃, by simp [len]; omega, fun j v e => ?_, fun j hj hjn => ?_⟩
    · rcases Nat.lt_or_ge j (n * 3) with h1 | h1
      · rw [List.getElem?_append_left (by omega)] at e
        obtain ⟨o, v', c, r⟩ := L.cells j v e
        exact ⟨o, v', c, (r.mono le₂).mono le₃⟩
      · rw [List.getElem?_append_right (by omega), len] at e
        have hj3 : j - n * 3 < 3 := by
          rcases Nat.lt_or_ge (j - n * 3) 3 with h2 | h2
          · exact h2
          · rw [List.getElem?_eq_none (by simpa using h2)] at e; simp at e
        rcases (show j = n * 3 ∨ j = n * 3 + 1 ∨ j = n * 3 + 2 by omega) with rfl | rfl | rfl
        · rw [Nat.sub_self] at e
          simp only [List.getElem?_cons_zero, Option.some.injEq] at e
          subst e
          exact ⟨VR.one_slice vr₁ s₁.ne_undef, _, e₁, vr₁.mono le₃⟩
        · rw [show n * 3 + 1 - n * 3 = 1 by omega] at e
          simp only [List.getElem?_cons_succ, List.getElem?_cons_zero, Option.some.injEq] at e
          subst e
          exact ⟨VR.one_slice vr₂ s₂.ne_undef, _, e₂, vr₂⟩
        · rw [show n * 3 + 2 - n * 3 = 2 by omega] at e
          simp only [List.getElem?_cons_succ, List.getElem?_cons_zero, Option.some.injEq] at e
          subst e
          exact ⟨rfl, _, e₃, .int .i64 _⟩
    · rcases Nat.lt_or_ge j n with h1 | h1
      · obtain ⟨u₁, u₂, f₁, f₂, f₃, ⟨l, z, g₁, g₂⟩, l', z', g₃, g₄⟩ := L.recs j hj h1
        refine ⟨u₁, u₂, ?_, ?_, ?_, ⟨l, z, (g₁.exd x₂).exd x₃, g₂⟩, l', z', (g₃.exd x₂).exd x₃, g₄⟩
        · rw [List.getElem?_append_left (by omega)]; exact f₁
        · rw [List.getElem?_append_left (by omega)]; exact f₂
        · rw [List.getElem?_append_left (by omega)]; exact f₃
      · obtain rfl : j = n := by omega
        refine ⟨v₁, v₂, ?_, ?_, ?_, ⟨l₁, z₁, s₁', q₁⟩, l₂, z₂, s₂, q₂⟩
        · rw [List.getElem?_append_right (by omega), len, Nat.sub_self]; rfl
        · rw [List.getElem?_append_right (by omega), len, show j * 3 + 1 - j * 3 = 1 by omega]; rfl
        · rw [List.getElem?_append_right (by omega), len, show j * 3 + 2 - j * 3 = 2 by omega]; rfl
end
end Go.Proofs.YtlggkknkbbhooaaGreat.Cm

/-
  The clean machine, part YE: package variables of plain cells, laid into the clean heap; a closed run over them.
-/
namespace Go.Proofs.YtlggkknkbbhooaaGreat.Cm
open Go.RowKit

/-- Plain: it points nowhere. -/
def CVal.plain : CVal → Bool
  | .bool _ | .int .. | .str _ | .nilPtr | .nilSlice | .nilMap | .nilFunc | .nilIface => true
  | _ => false
theorem VR.plain {ι ι' : Emb} {v : CVal} {v' : Value} (r : VR ι v v') (h : v.plain = true) : VR ι' v v' := by
  cases r with
  | bool => exact .bool _
  | int => exact .int _ _
  | str => exact .str _
  | nilPtr => exact .nilPtr
  | nilSlice => exact .nilSlice
  | nilMap => exact .nilMap
  | nilFunc => exact .nilFunc
  | nilIface => exact .nilIface
  | _ => simp [CVal.plain] at h

section
variable {K : Ctx} {ι : Emb} {h : Heap} {w : World}

/-- A package variable's cells, to be read. -/
theorem Inv.glo (H : Inv K ι h w) (ro : Ro h) {g : Nat} (hg : g < K.glb.n) (hn : K.glb.n ≤ h.next) {cs : List CVal} {C : Array Value} {el : TypeId} {fz : Nat × Nat} (hb : w.heap[g]? = some (.cells C el fz)) (hc : CellsR ι cs C 0) (hG : ¬ K.G g) (hN : ¬ K.N g) :
    Inv K ι (h.set g (.cells cs false none)) w := by
  have hi : ι g = some (g, 0, 0) := H.glob g hg
  have ro' : Ro (h.set g (.cells cs false none)) := by
    intro i o e
    rw [Heap.get_set] at e
    split at e
    · simp only [Option.some.injEq] at e; subst e; rfl
    · exact ro i o e
  refine ⟨H.hF, H.keep, H.glob, fun i o e => ?_, fun i j oi oj b β e b' β' e' _ hi' _ hw _ _ => ?_, fun i hi' => ?_, H.inb, H.hG, fun i o b β e hi' hb' => ?_, fun i hi' => ?_, H.nul⟩
  · rw [Heap.get_set] at e
    split at e
    · next hig =>
      subst hig
      simp only [Option.some.injEq] at e; subst e
      obtain ⟨lo, hi'⟩ := fz
      exact ⟨i, 0, 0, C, el, lo, hi', hi, hb, hc, fun _ => rfl, fun hw => by simp at hw⟩
    · exact H.obj i o e
  · rw [ro' i oi hi'] at hw; simp at hw
  · have hne : i ≠ g := by rw [Heap.next_set] at hi'; omega
    rw [Heap.get_set_ne _ _ _ _ hne]
    exact H.fresh i hi'
  · by_cases hne : i = g
    · subst hne
      rw [hi] at hb'
      simp only [Option.some.injEq, Prod.mk.injEq] at hb'
      rw [← hb'.1]; exact hG
    · rw [Heap.get_set_ne _ _ _ _ hne] at hi'
      exact H.hid i o b β e hi' hb'
  · obtain ⟨h1, h2⟩ := H.nev i hi'
    have hne : i ≠ g := fun e => hN (by rw [← e]; exact hi')
    exact ⟨h1, by rw [Heap.get_set_ne _ _ _ _ hne]; exact h2⟩

/-- The heap that holds some package variables, and nothing else. -/
def globHeap (glb : Nat) : List (Nat × List CVal) → Heap
  | [] => Heap.empty glb
  | x :: xs => (globHeap glb xs).set x.1 (.cells x.2 false none)

theorem globHeap_next (glb : Nat) : ∀ xs, (globHeap glb xs).next = glb
  | [] => rfl
  | x :: xs => by rw [globHeap, Heap.next_set, globHeap_next glb xs]
theorem globHeap_ro (glb : Nat) : ∀ xs, Ro (globHeap glb xs)
  | [] => ro_empty glb
  | x :: xs => fun i o e => by
    rw [globHeap, Heap.get_set] at e
    split at e
    · simp only [Option.some.injEq] at e; subst e; rfl
    · exact globHeap_ro glb xs i o e

/-- What the listed package variables hold in a world. -/
def GlobsIn (w : World) (glb : Nat) (xs : List (Nat × List CVal)) : Prop := ∀ x ∈ xs, x.1 < glb ∧ x.2.all CVal.plain = true ∧ ∃ C el fz, w.heap[x.1]? = some (.cells C el fz) ∧ CellsR (Emb.globs glb) x.2 C 0

theorem Inv.globs {glb : Gl} (hsz : glb.n ≤ w.heap.size) (hf : ∀ w', Keeps (fun b => b < w.heap.size) w w' → glb.fact w') : ∀ {xs : List (Nat × List CVal)}, GlobsIn w glb.n xs → Inv (Ctx.all w glb) (Emb.globs glb.n) (globHeap glb.n xs) w
  | [], _ => Inv.start hsz hf
  | x :: xs, hx => by
    obtain ⟨h1, _, C, el, fz, hb, hc⟩ := hx x (List.mem_cons_self ..)
    exact (Inv.globs hsz hf fun y hy => hx y (List.mem_cons_of_mem _ hy)).glo (globHeap_ro glb.n xs) h1 (by rw [globHeap_next]; exact Nat.le_refl _) hb hc (fun h => h) (fun h => h)

/-- The heap holds the listed variables. -/
def HasGlobs (h : Heap) (xs : List (Nat × List CVal)) : Prop := ∀ x ∈ xs, h.get x.1 = some (.cells x.2 false none)

theorem HasGlobs.inW (H : Inv K ι h w) {xs : List (Nat × List CVal)} (hx : HasGlobs h xs) (hp : ∀ x ∈ xs, x.1 < K.glb.n ∧ x.2.all CVal.plain = true) : GlobsIn w K.glb.n xs := by
  intro x hm
  obtain ⟨h1, h2⟩ := hp x hm
  obtain ⟨b, β, e, C, el, lo, hi, e1, e2, e3, _⟩ := H.obj _ _ (hx x hm)
  rw [H.glob _ h1] at e1
  simp only [Option.some.injEq, Prod.mk.injEq] at e1
  obtain ⟨rfl, rfl, _⟩ := e1
  refine ⟨h1, h2, C, el, _, e2, fun j v hv => ?_⟩
  obtain ⟨o, v', c, r⟩ := e3 j v hv
  exact ⟨o, v', c, r.plain (List.all_eq_true.1 h2 v (List.mem_of_getElem? hv))⟩

open Classical in
/-- A run without arguments over nothing but the listed variables. -/
noncomputable def closedG (xs : List (Nat × List CVal)) (v : CVal) : List CVal → Heap → Option (CVal × Heap)
  | [], h => if HasGlobs h xs then some (v, h) else none
  | _ :: _, _ => none

theorem closedG_ok {P : Program} {glb : Gl} {call : CallFn} (hc : CallOk P glb call) {f : FuncId} {b : Bool} {h₁ : Heap} {xs : List (Nat × List CVal)} (hp : ∀ x ∈ xs, x.1 < glb.n ∧ x.2.all CVal.plain = true) (e : call (fId f) [] (globHeap glb.n xs) = some (.bool b, h₁)) : PrimOk P glb f (closedG xs (.bool b)) := by
  refine ⟨hc.body _ _ _ _ e, fun K ι h w args args' v h' hk H R ev => ?_⟩
  cases args with
  | cons => simp [closedG] at ev
  | nil =>
    simp only [closedG] at ev
    split at ev
    · next hx =>
      simp only [Option.some.injEq, Prod.mk.injEq] at ev
      obtain ⟨rfl, rfl⟩ := ev
      subst hk
      have hg : K.glb.n ≤ w.heap.size := by
        rcases Nat.eq_zero_or_pos K.glb.n with h0 | hpos
        · omega
        · have h1 := H.glob (K.glb.n - 1) (by omega)
          have := H.inb _ _ _ _ h1
          omega
      have ha : VRs (Emb.globs K.glb.n) [] args'.toList := by
        cases hq : args'.toList with
        | nil => exact .nil
        | cons x xs => rw [hq] at R; cases R
      refine (hc.calls (Ctx.all w K.glb) (Emb.globs K.glb.n) (globHeap K.glb.n xs) w f [] args' (.bool b) h₁ rfl (Inv.globs hg H.fact_all (hx.inW H hp)) ha e).mono ?_
      rintro e' w' ⟨ι', v', _, rfl, H', hv⟩
      cases hv
      exact ⟨ι, .bool b, Emb.le.refl _, rfl, H.later H'.keep, .bool b⟩
    · simp at ev
end
end Go.Proofs.YtlggkknkbbhooaaGreat.Cm

/-
  The clean machine, part YF: what a row lists of package variables ('laid'), as cells in the clean heap: arrays of whole numbers and of strings.
-/
namespace Go.Proofs.YtlggkknkbbhooaaGreat.Cm
open Go.RowKit Go.ChangeShapes

section
variable {P : Program} {w : World}

theorem laid_mem : ∀ {laid : List (String × DataW Unit)} {ps : List MemPlace}, DataW.LaidVars P w laid ps → ∀ x ∈ laid, ∃ g t cs fuel p, P.globalNamed x.1 = some g ∧ (P.globals[g]?).map (·.type) = some t ∧ w.var? P x.1 = some cs ∧ DataW.trod (fun _ => ()) P w 0 (fun _ => true) false fuel t cs.toList = some (x.2, p)
  | [], _, _, x, m => by simp at m
  | (n, d) :: r, ps, h, x, m => by
    obtain ⟨g, t, cs, fuel, p, q, h1, h2, h3, h4, h5, _⟩ := h
    rcases List.mem_cons.1 m with rfl | m
    · exact ⟨g, t, cs, fuel, p, h1, h2, h3, h4⟩
    · exact laid_mem h5 x m

theorem var_block {n : String} {g : Nat} {cs : Array Value} (hg : P.globalNamed n = some g) (h : w.var? P n = some cs) : ∃ el fz, w.heap[g]? = some (.cells cs el fz) := by
  simp only [World.var?, hg, Option.bind_some] at h
  split at h
  · next hb => simp only [Option.some.injEq] at h; subst h; exact ⟨_, _, hb⟩
  · simp at h

/-- An array of scalars that reads so. -/
theorem arr_cells {H : Type} {enc : TypeId × Value → H} {base : Nat} {spare : Nat → Bool} {held : Bool} {t e n fuel : Nat} {cs : List Value} {p : List MemPlace} {ds : List (DataW H)} (ht : P.underlying t = some (.array n e)) (hc : P.cellsOf e = 1)
    (h : DataW.trod enc P w base spare held fuel t cs = some (.agg ds, p)) : ds.length = n ∧ cs.length = P.cellsOf t ∧ ∀ i (hi : i < ds.length), ∃ m q, DataW.trod enc P w base spare held m e ((cs.drop i).take 1) = some (ds[i], q) := by
  obtain ⟨xs, m, _, hx, hl, hn, hel⟩ := DataW.trod_array ht h
  simp only [Prod.mk.injEq, DataW.agg.injEq] at hx
  obtain ⟨rfl, _⟩ := hx
  refine ⟨by rw [List.length_map, hn], hl, fun i hi => ?_⟩
  rw [List.length_map] at hi
  have := hel i (by omega)
  rw [hc, Nat.mul_one, List.getElem?_eq_getElem hi] at this
  exact ⟨m, (xs[i]).2, by rw [this, List.getElem_map]⟩

theorem laid_ints {laid : List (String × DataW Unit)} {ps : List MemPlace} (L : DataW.LaidVars P w laid ps) {name : String} {zs : List Int} {k : IntKind} (hm : (name, DataW.agg (zs.map fun z => .lit (.int k z))) ∈ laid) {g t e n glb : Nat} (hg : P.globalNamed name = some g) (htt : (P.globals[g]?).map (·.type) = some t)
    (ht : P.underlying t = some (.array n e)) (he : P.underlying e = some (.int k)) (hc : P.cellsOf e = 1) : ∃ C el fz, w.heap[g]? = some (.cells C el fz) ∧ CellsR (Emb.globs glb) (zs.map (CVal.int k)) C 0 := by
  obtain ⟨g', t', cs, fuel, p, h1, h2, h3, h4⟩ := laid_mem L _ hm
  obtain rfl := Option.some.inj (hg.symm.trans h1)
  obtain rfl := Option.some.inj (htt.symm.trans h2)
  obtain ⟨el, fz, hb⟩ := var_block hg h3
  refine ⟨cs, el, fz, hb, fun j v hv => ?_⟩
  obtain ⟨hl, _, each⟩ := arr_cells ht hc h4
  rw [List.getElem?_map] at hv
  cases hq : zs[j]? with
  | none => rw [hq] at hv; simp at hv
  | some z =>
    rw [hq] at hv
    simp only [Option.map_some, Option.some.injEq] at hv
    subst hv
    obtain ⟨hj, hz⟩ := List.getElem?_eq_some_iff.1 hq
    obtain ⟨m, q, hd⟩ := each j (by rw [List.length_map]; exact hj)
    obtain ⟨r, hr, hx, _⟩ := DataW.trod_int he hd
    simp only [List.getElem_map, hz, Prod.mk.injEq, DataW.lit.injEq, Lit.int.injEq] at hx
    obtain ⟨⟨_, rfl⟩, _⟩ := hx
    refine ⟨rfl, .int k z, ?_, .int k z⟩
    have : (cs.toList.drop j)[0]? = some (.int k z) := by
      have := congrArg (·[0]?) hr
      simpa [List.getElem?_take] using this
    rw [List.getElem?_drop] at this
    simpa using this

theorem laid_strs {laid : List (String × DataW Unit)} {ps : List MemPlace} (L : DataW.LaidVars P w laid ps) {name : String} {zs : List (List UInt8)} (hm : (name, DataW.agg (zs.map fun z => .lit (.string z))) ∈ laid) {g t e n glb : Nat} (hg : P.globalNamed name = some g) (htt : (P.globals[g]?).map (·.type) = some t)
    (ht : P.underlying t = some (.array n e)) (he : P.underlying e = some .string) (hc : P.cellsOf e = 1) : ∃ C el fz, w.heap[g]? = some (.cells C el fz) ∧ CellsR (Emb.globs glb) (zs.map CVal.str) C 0 := by
  obtain ⟨g', t', cs, fuel, p, h1, h2, h3, h4⟩ := laid_mem L _ hm
  obtain rfl := Option.some.inj (hg.symm.trans h1)
  obtain rfl := Option.some.inj (htt.symm.trans h2)
  obtain ⟨el, fz, hb⟩ := var_block hg h3
  refine ⟨cs, el, fz, hb, fun j v hv => ?_⟩
  obtain ⟨hl, _, each⟩ := arr_cells ht hc h4
  rw [List.getElem?_map] at hv
  cases hq : zs[j]? with
  | none => rw [hq] at hv; simp at hv
  | some z =>
    rw [hq] at hv
    simp only [Option.map_some, Option.some.injEq] at hv
    subst hv
    obtain ⟨hj, hz⟩ := List.getElem?_eq_some_iff.1 hq
    obtain ⟨m, q, hd⟩ := each j (by rw [List.length_map]; exact hj)
    obtain ⟨s, hr, hx, _⟩ := DataW.trod_string he hd
    simp only [List.getElem_map, hz, Prod.mk.injEq, DataW.lit.injEq, Lit.string.injEq] at hx
    obtain ⟨rfl, _⟩ := hx
    refine ⟨rfl, .string s, ?_, .str s⟩
    have : (cs.toList.drop j)[0]? = some (.string s) := by
      have := congrArg (·[0]?) hr
      simpa [List.getElem?_take] using this
    rw [List.getElem?_drop] at this
    simpa using this
end
end Go.Proofs.YtlggkknkbbhooaaGreat.Cm

/-
  The clean machine, part YG: strings.Join as known from its contract.
-/
namespace Go.Proofs.YtlggkknkbbhooaaGreat.Cm
open Go.RowKit

def strsC : List CVal → Option (List (List UInt8))
  | [] => some []
  | .str s :: vs => match strsC vs with
    | some xs => some (s :: xs)
    | none => none
  | _ :: _ => none
theorem strsC_get : ∀ {vs : List CVal} {xs : List (List UInt8)}, strsC vs = some xs → xs.length = vs.length ∧ ∀ (j : Nat) (s : List UInt8), xs[j]? = some s → vs[j]? = some (CVal.str s)
  | [], xs, e => by simp only [strsC, Option.some.injEq] at e; subst e; exact ⟨rfl, fun j s h => by simp at h⟩
  | v :: vs, xs, e => by
    cases v with
    | str s =>
      simp only [strsC] at e
      split at e
      · next ys hy =>
        simp only [Option.some.injEq] at e; subst e
        obtain ⟨h1, h2⟩ := strsC_get hy
        refine ⟨by simp [h1], fun j t h => ?_⟩
        cases j with
        | zero => simpa using h
        | succ j => simpa using h2 j t (by simpa using h)
      · simp at e
    | _ => simp [strsC] at e

theorem VR.slice_inv {ι : Emb} {i o l c : Nat} {v : Value} (r : VR ι (.slice i o l c) v) : ∃ b β e a, v = .slice (some a) l (c + e) ∧ ι i = some (b, β, e) ∧ (a = ⟨b, β + o, none⟩ ∨ c + e = 0) ∧ l ≤ c := by
  generalize hq : CVal.slice i o l c = q at r
  cases r with
  | slice i' o' l' c' b β e a h1 h2 h3 => simp only [CVal.slice.injEq] at hq; obtain ⟨rfl, rfl, rfl, rfl⟩ := hq; exact ⟨b, β, e, a, rfl, h1, h2, h3⟩
  | _ => simp at hq
theorem VR.str_inv {ι : Emb} {s : List UInt8} {v : Value} (r : VR ι (.str s) v) : ∃ S : ByteArray, s = S.data.toList ∧ v = .string S := by
  generalize hq : CVal.str s = q at r
  cases r with
  | str S => simp only [CVal.str.injEq] at hq; exact ⟨S, hq, rfl⟩
  | _ => simp at hq

/-- Strings, joined. -/
def joinP : List CVal → Heap → Option (CVal × Heap)
  | [.nilSlice, .str _], h => some (.str [], h)
  | [.slice i o l _, .str s], h =>
    if l = 0 then some (.str [], h) else
    match h.get i with
    | some (.cells vs _ _) => match strsC ((vs.drop o).take l) with
      | some xs => if xs.length = l ∧ l ≤ 140737488355328 ∧ (Lib.join xs s).length ≤ 140737488355328 then some (.str (Lib.join xs s), h) else none
      | none => none
    | _ => none
  | _, _ => none

theorem keeps_of_below {w w' : World} (b : Below w.heap.size w w') : Keeps (fun b => b < w.heap.size) w w' := ⟨b.os, b.tape, b.output, b.size, b.block⟩

theorem join_ok {P : Program} {glb : Gl} {f : FuncId} (hb : HasBody P f)
    (C0 : ∀ (a : Option Addr) (c : Nat) (sep : ByteArray) (w : World), Calls P f #[.slice a 0 c, .string sep] w fun e w' => e = .returned (.string ⟨#[]⟩) ∧ w' = w)
    (C1 : ∀ (bk o c : Nat) (xs : List ByteArray) (sep : ByteArray) (w : World), (∀ (j : Nat) x, xs[j]? = some x → w.cell? ⟨bk, o + j, none⟩ = some (.string x)) → bk < w.heap.size → xs.length ≤ 140737488355328 → xs.length ≤ c →
      (Lib.join (xs.map (·.data.toList)) sep.data.toList).length ≤ 140737488355328 → Calls P f #[.slice (some ⟨bk, o, none⟩) xs.length c, .string sep] w fun e w' => e = .returned (.string ⟨(Lib.join (xs.map (·.data.toList)) sep.data.toList).toArray⟩) ∧ Below w.heap.size w w') :
    PrimOk P glb f joinP := by
  refine ⟨hb, fun K ι h w args args' v h' hk H R ev => ?_⟩
  obtain ⟨l'⟩ := args'
  simp only at R
  -- none
  have none0 : ∀ (a : Option Addr) (c : Nat) (S : ByteArray), Calls P f #[.slice a 0 c, .string S] w fun e w' => ∃ ι' v', ι.le ι' ∧ e = .returned v' ∧ Inv K ι' h w' ∧ VR ι' (.str []) v' := fun a c S =>
    (C0 a c S w).mono fun e w' ⟨he, hw⟩ => by subst hw; exact ⟨ι, _, Emb.le.refl _, he, H, .str ⟨#[]⟩⟩
  unfold joinP at ev
  split at ev
  · simp only [Option.some.injEq, Prod.mk.injEq] at ev
    obtain ⟨rfl, rfl⟩ := ev
    cases R with
    | cons _ _ x' r' r1 r2 =>
      cases r2 with
      | cons _ _ y' r'' r3 r4 =>
        cases r4; cases r1; cases r3
        exact none0 _ _ _
  · next i o l c s =>
    cases R with
    | cons _ _ x' r' r1 r2 =>
      cases r2 with
      | cons _ _ y' r'' r3 r4 =>
        cases r4
        obtain ⟨b, β, e, a, rfl, h1, h2, h3⟩ := r1.slice_inv
        obtain ⟨S, rfl, rfl⟩ := r3.str_inv
        by_cases h0 : l = 0
        · subst h0
          simp only [if_true, Option.some.injEq, Prod.mk.injEq] at ev
          obtain ⟨rfl, rfl⟩ := ev
          exact none0 _ _ _
        · simp only [if_neg h0] at ev
          split at ev
          · next vs wr opn hg =>
            split at ev
            · next xs hx =>
              split at ev
              · next hc =>
                simp only [Option.some.injEq, Prod.mk.injEq] at ev
                obtain ⟨rfl, rfl⟩ := ev
                obtain ⟨hlen, hl, hj⟩ := hc
                obtain ⟨b', β', e', C, el, lo, hi, g1, g2, g3, _⟩ := H.obj i _ hg
                rw [h1] at g1
                simp only [Option.some.injEq, Prod.mk.injEq] at g1
                obtain ⟨rfl, rfl, rfl⟩ := g1
                have ha : a = ⟨b, β + o, none⟩ := by
                  rcases h2 with h2 | h2
                  · exact h2
                  · omega
                subst ha
                obtain ⟨_, hget⟩ := strsC_get hx
                have em : (xs.map fun l => (⟨l.toArray⟩ : ByteArray)).map (·.data.toList) = xs := by
                  rw [List.map_map]
                  exact (List.map_congr_left fun l _ => by simp).trans (List.map_id xs)
                have el' : (xs.map fun l => (⟨l.toArray⟩ : ByteArray)).length = l := by rw [List.length_map, hlen]
                have call := C1 b (β + o) (c + e) (xs.map fun l => ⟨l.toArray⟩) S w (fun j x hjx => by
                  rw [List.getElem?_map] at hjx
                  cases hq : xs[j]? with
                  | none => rw [hq] at hjx; simp at hjx
                  | some t =>
                    rw [hq] at hjx
                    simp only [Option.map_some, Option.some.injEq] at hjx
                    subst hjx
                    have hv := hget j t hq
                    have hjl : j < l := by have := (List.getElem?_eq_some_iff.1 hq).1; omega
                    rw [List.getElem?_take, if_pos hjl, List.getElem?_drop] at hv
                    obtain ⟨_, v', c1, c2⟩ := g3 (o + j) _ hv
                    have : w.cell? ⟨b, β + o + j, none⟩ = some v' := by
                      simp only [World.cell?, g2]
                      rw [Nat.add_assoc]; simpa using c1
                    rw [this]
                    obtain ⟨S2, rfl, rfl⟩ := c2.str_inv
                    rfl) (Array.getElem?_eq_some_iff.1 g2).1 (by rw [el']; exact hl) (by rw [el']; omega) (by rw [em]; exact hj)
                rw [em, el'] at call
                refine call.mono fun e' w' ⟨he, hbel⟩ => ⟨ι, _, Emb.le.refl _, he, H.later (keeps_of_below hbel), ?_⟩
                have := VR.str (ι := ι) ⟨(Lib.join xs S.data.toList).toArray⟩
                simpa using this
              · simp at ev
            · simp at ev
          · simp at ev
  · simp at ev
end Go.Proofs.YtlggkknkbbhooaaGreat.Cm

/-
  The clean machine, part YH: strconv.Itoa and strconv.ParseInt(s, 10, 64) as known from their contracts.
-/
namespace Go.Proofs.YtlggkknkbbhooaaGreat.Cm
open Go.RowKit

/-- The digits, so many at most. -/
def decC : Nat → Nat → List UInt8
  | 0, _ => []
  | k + 1, u => if u < 10 then [UInt8.ofNat (48 + u)] else decC k (u / 10) ++ [UInt8.ofNat (48 + u % 10)]
theorem decC_eq : ∀ (k u : Nat), 0 < k → u < 10 ^ k → decC k u = Lib.decDigits u
  | 0, _, h, _ => absurd h (by omega)
  | k + 1, u, _, h => by
    rw [decC, Lib.decDigits]
    by_cases h1 : u < 10
    · rw [if_pos h1, dif_pos h1]
    · rw [if_neg h1, dif_neg h1]
      rw [Nat.pow_succ] at h
      rw [decC_eq k (u / 10) (by rcases Nat.eq_zero_or_pos k with h0 | h0; (subst h0; simp at h; omega); exact h0) (by omega)]
def itoaC (n : Int) : List UInt8 := match n with
  | .ofNat u => decC 20 u
  | .negSucc u => 45 :: decC 20 (u + 1)
theorem itoaC_eq {n : Int} (h0 : -9223372036854775808 ≤ n) (h1 : n ≤ 9223372036854775807) : itoaC n = Lib.itoa n := by
  unfold itoaC Lib.itoa
  cases n with
  | ofNat u =>
    simp only [Int.ofNat_eq_natCast] at h1 ⊢
    rw [decC_eq 20 u (by omega) (by omega), if_neg (by omega), Int.toNat_natCast]
  | negSucc u =>
    simp only
    rw [decC_eq 20 (u + 1) (by omega) (by omega), if_pos (by omega)]
    rfl

def itoaP : List CVal → Heap → Option (CVal × Heap)
  | [.int .i64 n], h => if -9223372036854775808 ≤ n ∧ n ≤ 9223372036854775807 then some (.str (itoaC n), h) else none
  | _, _ => none

theorem VR.int_inv {ι : Emb} {k : IntKind} {n : Int} {v : Value} (r : VR ι (.int k n) v) : v = .int k n := by
  generalize hq : CVal.int k n = q at r
  cases r with
  | int k' n' => simp only [CVal.int.injEq] at hq; obtain ⟨rfl, rfl⟩ := hq; rfl
  | _ => simp at hq

theorem keeps_grow (w : World) (k : Nat) (os : Array Obj) : Keeps (fun b => b < w.heap.size) w (Sort.grow (w.drewN k) os) :=
  ⟨rfl, rfl, rfl, by simp [Sort.grow, World.drewN], fun b hb => by simp [Sort.grow, World.drewN, Array.getElem?_append_left hb]⟩

theorem itoa_ok {P : Program} {glb : Gl} {f : FuncId} (hb : HasBody P f)
    (C : ∀ n : Int, -9223372036854775808 ≤ n → n ≤ 9223372036854775807 → ∀ w : World, glb.fact w → Calls P f #[.int .i64 n] w fun e w' => e = .returned (.string ⟨(Lib.itoa n).toArray⟩) ∧ ∃ k os, w' = Sort.grow (w.drewN k) os) : PrimOk P glb f itoaP := by
  refine ⟨hb, fun K ι h w args args' v h' hk H R ev => ?_⟩
  obtain ⟨l'⟩ := args'
  simp only at R
  subst hk
  unfold itoaP at ev
  split at ev
  · next n =>
    split at ev
    · next hn =>
      simp only [Option.some.injEq, Prod.mk.injEq] at ev
      obtain ⟨rfl, rfl⟩ := ev
      cases R with
      | cons _ _ x' r' r1 r2 =>
        cases r2
        rw [r1.int_inv]
        refine (C n hn.1 hn.2 w H.fact).mono ?_
        rintro e w' ⟨he, k, os, rfl⟩
        refine ⟨ι, _, Emb.le.refl _, he, H.later (keeps_grow w k os), ?_⟩
        rw [itoaC_eq hn.1 hn.2]
        have := VR.str (ι := ι) ⟨(Lib.itoa n).toArray⟩
        simpa using this
    · simp at ev
  · simp at ev

/-- What strconv.ParseInt(s, 10, 64) answers first. -/
def parseV (s : List UInt8) : Int := match Lib.parseIntB 64 s with
  | .ok v => v
  | .range => Lib.intSat 64 s
  | _ => 0
def parseP : List CVal → Heap → Option (CVal × Heap)
  | [.str s, .int .i64 b, .int .i64 k], h => if b = 10 ∧ k = 64 ∧ s.length ≤ 281474976710656 then some (.tuple [.int .i64 (parseV s), .undef], h) else none
  | _, _ => none

theorem parse_ok {P : Program} {glb : Gl} {f : FuncId} (hb : HasBody P f) {T : TypeId}
    (C0 : ∀ (s : ByteArray) (v : Int) (w : World), s.size ≤ 281474976710656 → Lib.parseIntB 64 s.data.toList = .ok v → glb.fact w → Calls P f #[.string s, .int .i64 10, .int .i64 64] w fun e w' => e = .returned (.tuple #[.int .i64 v, .nilIface]) ∧ (w' = w ∨ ∃ t, w' = Lib.bytesWorld w T t))
    (C1 : ∀ (s : ByteArray) (w : World), s.size ≤ 281474976710656 → (∀ v, Lib.parseIntB 64 s.data.toList ≠ .ok v) → Lib.parseIntB 64 s.data.toList ≠ .range → glb.fact w → Calls P f #[.string s, .int .i64 10, .int .i64 64] w fun e w' => (∃ x, e = .returned (.tuple #[.int .i64 0, x])) ∧ Below w.heap.size w w')
    (C2 : ∀ (s : ByteArray) (w : World), s.size ≤ 281474976710656 → Lib.parseIntB 64 s.data.toList = .range → glb.fact w → Calls P f #[.string s, .int .i64 10, .int .i64 64] w fun e w' => (∃ x, e = .returned (.tuple #[.int .i64 (Lib.intSat 64 s.data.toList), x])) ∧ Below w.heap.size w w') :
    PrimOk P glb f parseP := by
  refine ⟨hb, fun K ι h w args args' v h' hk H R ev => ?_⟩
  obtain ⟨l'⟩ := args'
  simp only at R
  subst hk
  unfold parseP at ev
  split at ev
  · next s b k =>
    split at ev
    · next hn =>
      obtain ⟨rfl, rfl, hs⟩ := hn
      simp only [Option.some.injEq, Prod.mk.injEq] at ev
      obtain ⟨rfl, rfl⟩ := ev
      cases R with
      | cons _ _ x' r' r1 r2 =>
        cases r2 with
        | cons _ _ y' r'' r3 r4 =>
          cases r4 with
          | cons _ _ z' r''' r5 r6 =>
            cases r6
            rw [r3.int_inv, r5.int_inv]
            obtain ⟨S, rfl, rfl⟩ := r1.str_inv
            have hs' : S.size ≤ 281474976710656 := by
              have : S.data.toList.length = S.size := rfl
              omega
            have fin : ∀ {e : Ending} {w' : World} {n : Int}, (∃ x, e = .returned (.tuple #[.int .i64 n, x])) → Keeps (fun b => b < w.heap.size) w w' → ∃ ι' v', ι.le ι' ∧ e = .returned v' ∧ Inv K ι' h w' ∧ VR ι' (.tuple [.int .i64 n, .undef]) v' := by
              rintro e w' n ⟨x, rfl⟩ hk
              exact ⟨ι, _, Emb.le.refl _, rfl, H.later hk, .tuple _ _ (.cons _ _ _ _ (.int _ _) (.cons _ _ _ _ (.undef _) .nil))⟩
            unfold parseV
            cases hq : Lib.parseIntB 64 S.data.toList with
            | ok v =>
              refine (C0 S v w hs' hq H.fact).mono ?_
              rintro e w' ⟨he, hw⟩
              refine fin ⟨_, he⟩ ?_
              rcases hw with rfl | ⟨t, rfl⟩
              · exact ⟨rfl, rfl, rfl, Nat.le_refl _, fun _ _ => rfl⟩
              · exact keeps_of_below (Lib.bytesWorld_below _ _ _)
            | range =>
              refine (C2 S w hs' hq H.fact).mono ?_
              rintro e w' ⟨he, hw⟩
              exact fin he (keeps_of_below hw)
            | _ =>
              refine (C1 S w hs' (fun v h => by rw [hq] at h; cases h) (fun h => by rw [hq] at h; cases h) H.fact).mono ?_
              rintro e w' ⟨he, hw⟩
              exact fin he (keeps_of_below hw)
    · simp at ev
  · simp at ev
end Go.Proofs.YtlggkknkbbhooaaGreat.Cm

/-
  The clean machine, part YI: rows of flat records of five numbers; equality of such; cuts of slices.
-/
namespace Go.Proofs.YtlggkknkbbhooaaGreat.Cm
open Go.RowKit

/-- Five numbers. -/
structure Ev where
  at_ : Int
  kind : Int
  pid : Int
  a : Int
  b : Int
deriving DecidableEq, Inhabited

def Ev.cs (e : Ev) : List CVal := [.int .i64 e.at_, .int .i64 e.kind, .int .i64 e.pid, .int .i64 e.a, .int .i64 e.b]
theorem Ev.cs_length (e : Ev) : e.cs.length = 5 := rfl
theorem Ev.cs_inj {e f : Ev} (h : e.cs = f.cs) : e = f := by
  cases e; cases f
  simp [Ev.cs] at h
  simp [h]

/-- A row of them that can be read. -/
def REv (h : Heap) (v : CVal) (E : List Ev) : Prop :=
  (v = .nilSlice ∧ E = []) ∨ ∃ i o c, v = .slice i o E.length c ∧ E.length ≤ c ∧ i < h.next ∧ (E = [] ∨ ∃ cs wr opn, h.get i = some (.cells cs wr opn) ∧ ∀ j (hj : j < E.length), (cs.drop (o + j * 5)).take 5 = E[j].cs)
theorem REv.exd {h h' : Heap} {v : CVal} {E : List Ev} (s : REv h v E) (e : Exd h h') : REv h' v E := by
  rcases s with s | ⟨i, o, c, s1, s2, s3, s4⟩
  · exact .inl s
  · exact .inr ⟨i, o, c, s1, s2, Nat.lt_of_lt_of_le s3 e.le, s4.imp id fun ⟨cs, wr, opn, g, a⟩ => ⟨cs, wr, opn, (e.get i s3).trans g, a⟩⟩

/-- Alike, so far. -/
def Alike (A B : List Ev) (n : Nat) : Prop := ∀ j, j < n → A[j]? = B[j]?
theorem Alike.zero {A B : List Ev} : Alike A B 0 := fun j h => by omega
theorem Alike.succ {A B : List Ev} {n : Nat} (h : Alike A B n) (e : A[n]? = B[n]?) : Alike A B (n + 1) := fun j hj => by
  rcases Nat.lt_or_ge j n with h1 | h1
  · exact h j h1
  · obtain rfl : j = n := by omega
    exact e

theorem OPN.eqS5 {N : Nat} {ρ : Env} {h : Heap} {neg : Bool} {X Y : CX} {a b : Ev} {K : CVal → Heap → Prop} (hx : X.on N ρ = .agg a.cs) (hy : Y.on N ρ = .agg b.cs) (k : a = b → K (.bool (!neg)) h) (k' : a ≠ b → K (.bool neg) h) : OPN N (.eqS [.int, .int, .int, .int, .int] neg X Y) ρ h K := by
  have e : peqs [.int, .int, .int, .int, .int] a.cs b.cs = some (decide (a = b)) := by
    cases a with | mk a1 a2 a3 a4 a5 =>
    cases b with | mk b1 b2 b3 b4 b5 =>
    simp only [Ev.cs, peqs, peq, if_true]
    by_cases h1 : a1 = b1 <;> by_cases h2 : a2 = b2 <;> by_cases h3 : a3 = b3 <;> by_cases h4 : a4 = b4 <;> by_cases h5 : a5 = b5 <;> simp [h1, h2, h3, h4, h5]
  refine .mk (v := .bool (if neg then !decide (a = b) else decide (a = b))) (h' := h) (by simp only [cop, CX.on_ev, hx, hy, e]) ?_
  by_cases hab : a = b
  · have := k hab; subst hab; cases neg <;> simpa using this
  · have := k' hab; cases neg <;> simpa [hab] using this

theorem bounds0 {len cap q : Nat} {b : Int} {k : IntKind} (hb : b = q) (h' : q ≤ cap) : boundsC len cap none (some (.int k b)) none = some (0, q, cap) := by
  subst hb
  have hq : asNat (.int k (q : Int)) = some q := by rw [asNat, if_pos (Int.natCast_nonneg q), Int.toNat_natCast]
  delta boundsC
  simp only [hq]
  rw [if_pos (Nat.le_refl cap), if_pos h', if_pos (Nat.zero_le q)]
theorem bounds1 {len cap p : Nat} {a : Int} {k : IntKind} (ha : a = p) (h : p ≤ len) (h' : len ≤ cap) : boundsC len cap (some (.int k a)) none none = some (p, len, cap) := by
  subst ha
  have hp : asNat (.int k (p : Int)) = some p := by rw [asNat, if_pos (Int.natCast_nonneg p), Int.toNat_natCast]
  delta boundsC
  simp only [hp]
  rw [if_pos (Nat.le_refl cap), if_pos h', if_pos h]

/-- Its beginning. -/
theorem REv.take {h : Heap} {i o c : Nat} {E : List Ev} (s : REv h (.slice i o E.length c) E) {q : Nat} (hq : q ≤ E.length) : REv h (.slice i (o + 0 * 5) (q - 0) (c - 0)) (E.take q) := by
  have hl : (E.take q).length = q := by rw [List.length_take]; omega
  rcases s with ⟨s, _⟩ | ⟨i', o', c', s1, s2, s3, s4⟩
  · simp at s
  · simp only [CVal.slice.injEq] at s1
    obtain ⟨rfl, rfl, _, rfl⟩ := s1
    refine .inr ⟨i, o, c, by rw [hl]; simp, by omega, s3, ?_⟩
    rcases s4 with rfl | ⟨cs, wr, opn, g, a⟩
    · left; simp
    · right
      refine ⟨cs, wr, opn, g, fun j hj => ?_⟩
      rw [hl] at hj
      rw [a j (by omega), List.getElem_take]

theorem alike_eq {A B : List Ev} : (A.length = B.length ∧ Alike A B A.length) ↔ A = B := by
  refine ⟨fun ⟨h1, h2⟩ => List.ext_getElem? fun j => ?_, fun h => by subst h; exact ⟨rfl, fun _ _ => rfl⟩⟩
  rcases Nat.lt_or_ge j A.length with h3 | h3
  · exact h2 j h3
  · rw [List.getElem?_eq_none h3, List.getElem?_eq_none (by omega)]
theorem alike_pre {A B : List Ev} : (A.length ≤ B.length ∧ Alike A B A.length) ↔ A <+: B := by
  refine ⟨fun ⟨h1, h2⟩ => ?_, fun ⟨C, h⟩ => by subst h; exact ⟨by simp, fun j hj => by rw [List.getElem?_append_left hj]⟩⟩
  rw [List.prefix_iff_eq_take]
  refine List.ext_getElem? fun j => ?_
  rw [List.getElem?_take]
  split
  · next h => exact h2 j h
  · next h => exact List.getElem?_eq_none (by omega)

/-- The cells of a record, one by one. -/
theorem five {cs : List CVal} {p : Nat} {e : Ev} (h : (cs.drop p).take 5 = e.cs) : cs[p]? = some (.int .i64 e.at_) ∧ cs[p + 1]? = some (.int .i64 e.kind) ∧ cs[p + 2]? = some (.int .i64 e.pid) ∧ cs[p + 3]? = some (.int .i64 e.a) ∧ cs[p + 4]? = some (.int .i64 e.b) := by
  have at_ : ∀ q, q < 5 → cs[p + q]? = e.cs[q]? := fun q hq => by rw [← h, List.getElem?_take, if_pos hq, List.getElem?_drop]
  exact ⟨at_ 0 (by omega), at_ 1 (by omega), at_ 2 (by omega), at_ 3 (by omega), at_ 4 (by omega)⟩

/-- The cells of a row. -/
def cellsE (E : List Ev) : List CVal := E.flatMap Ev.cs
theorem cellsE_length (E : List Ev) : (cellsE E).length = E.length * 5 := by
  induction E with
  | nil => rfl
  | cons e E ih => rw [cellsE, List.flatMap_cons, List.length_append, ← cellsE, ih, Ev.cs_length, List.length_cons]; omega
theorem cellsE_one (E : List Ev) : (cellsE E).all CVal.one = true := by
  induction E with
  | nil => rfl
  | cons e E ih => rw [cellsE, List.flatMap_cons, List.all_append, ← cellsE, ih]; rfl
theorem cellsE_get {E : List Ev} {j : Nat} (hj : j < E.length) : ((cellsE E).drop (j * 5)).take 5 = E[j].cs := by
  induction E generalizing j with
  | nil => simp at hj
  | cons e E ih =>
    rw [cellsE, List.flatMap_cons, ← cellsE]
    cases j with
    | zero => rw [Nat.zero_mul, List.drop_zero, List.take_append_of_le_length (by rw [Ev.cs_length]; omega), List.take_of_length_le (by rw [Ev.cs_length]; omega)]; rfl
    | succ j =>
      rw [show (j + 1) * 5 = e.cs.length + j * 5 by rw [Ev.cs_length]; omega, ← List.drop_drop, List.drop_left]
      simpa using ih (by simpa using hj)
theorem cellsE_of {cs : List CVal} : ∀ {E : List Ev} {o : Nat}, (∀ j (hj : j < E.length), (cs.drop (o + j * 5)).take 5 = E[j].cs) → (cs.drop o).take (E.length * 5) = cellsE E
  | [], _, _ => by simp [cellsE]
  | e :: E, o, h => by
    have h0 := h 0 (by simp)
    have ih := cellsE_of (cs := cs) (E := E) (o := o + 5) fun j hj => by
      have := h (j + 1) (by simpa using hj)
      rw [show o + (j + 1) * 5 = o + 5 + j * 5 by omega] at this
      simpa using this
    rw [cellsE, List.flatMap_cons, ← cellsE, ← ih, List.length_cons, show (E.length + 1) * 5 = 5 + E.length * 5 by omega, List.take_add, List.drop_drop]
    congr 1
    all_goals simpa using h0
theorem REv.src {h : Heap} {v : CVal} {E : List Ev} (s : REv h v E) : srcC h 5 v = some (E.length, cellsE E) := by
  rcases s with ⟨rfl, rfl⟩ | ⟨i, o, c, rfl, _, _, s⟩
  · rfl
  · rcases s with rfl | ⟨cs, wr, opn, g, a⟩
    · rfl
    · by_cases h0 : E.length = 0
      · obtain rfl : E = [] := by simpa using h0
        rfl
      · simp only [srcC, if_neg h0, g, cellsE_of a, cellsE_length, if_true]

/-- A slice that grows, of new memory. -/
def Own (h₀ h : Heap) (v : CVal) (sz m : Nat) (cs : List CVal) : Prop := IsSl h v sz m cs ∧ ∀ j o l c, v = .slice j o l c → h₀.next ≤ j ∧ j < h.next
theorem Own.nil {h₀ h : Heap} {sz : Nat} : Own h₀ h .nilSlice sz 0 [] := ⟨.nil, fun _ _ _ _ e => by simp at e⟩
theorem Own.new {h₀ h : Heap} {sz i : Nat} {wr : Bool} (g : h.get i = some (.cells [] wr none)) (h1 : h₀.next ≤ i) (h2 : i < h.next) : Own h₀ h (.slice i 0 0 0) sz 0 [] :=
  ⟨.inr ⟨i, wr, none, rfl, by simp, g, .inl rfl⟩, fun j o l c e => by simp only [CVal.slice.injEq] at e; obtain ⟨rfl, _⟩ := e; exact ⟨h1, h2⟩⟩
theorem Own.cases {h₀ h : Heap} {v : CVal} {sz m : Nat} {cs : List CVal} (O : Own h₀ h v sz m cs) : (v = .nilSlice ∧ m = 0 ∧ cs = []) ∨ ∃ i, v = .slice i 0 m m ∧ h₀.next ≤ i ∧ i < h.next := by
  rcases O.1 with e | ⟨i, wr, opn, rfl, _⟩
  · exact .inl e
  · exact .inr ⟨i, rfl, O.2 _ _ _ _ rfl⟩
theorem Own.exd {h₀ h h1 : Heap} {v : CVal} {sz m : Nat} {cs : List CVal} (O : Own h₀ h v sz m cs) (x : Exd h h1) : Own h₀ h1 v sz m cs :=
  ⟨O.1.exd x fun j o l c e => (O.2 j o l c e).2, fun j o l c e => ⟨(O.2 j o l c e).1, Nat.lt_of_lt_of_le (O.2 j o l c e).2 x.le⟩⟩
theorem Own.push {h₀ h h1 : Heap} {v src : CVal} {sz bytes m n : Nat} {cs new : List CVal} (O : Own h₀ h v sz m cs) (e : Exd h₀ h) (x : Exd h h1) (hx : srcC h1 sz src = some (n, new)) (hn : 0 < n) (ho : new.all CVal.one = true) (hb : (m + n) * bytes ≤ 1099511627776) :
    ∃ h2, appendC h1 sz bytes v src = some (.slice h1.next 0 (m + n) (m + n), h2) ∧ Exd h₀ h2 ∧ Own h₀ h2 (.slice h1.next 0 (m + n) (m + n)) sz (m + n) (cs ++ new) ∧ h2.next = h1.next + 1 ∧ (new.length = n * sz → ∃ wr opn, h2.get h1.next = some (.cells (cs ++ new) wr opn)) ∧ ∀ j, j < h1.next → vne j v → h2.get j = h1.get j := by
  obtain ⟨h2, ea, en, eg, ef⟩ := appendC_sl (bytes := bytes) (O.exd x).1 hx hn ho hb
  have le1 := e.le
  have le2 := x.le
  have len : ∀ {a : Nat}, a < h₀.next → vne a v := fun {a} ha o l c ev => by
    have := (O.2 _ _ _ _ ev).1; omega
  refine ⟨h2, ea, ⟨by omega, fun p hp => ?_⟩, ⟨.inr ⟨h1.next, true, some sz, rfl, ?_, eg, .inr ⟨rfl, rfl⟩⟩, fun j o l c e => ?_⟩, en, fun _ => ⟨_, _, eg⟩, ef⟩
  · rw [ef p (by omega) (len hp), x.get p (by omega)]; exact e.get p hp
  · have hl : new.length = n * sz := by
      unfold srcC at hx
      split at hx
      · simp only [Option.some.injEq, Prod.mk.injEq] at hx; obtain ⟨rfl, rfl⟩ := hx; simp
      · split at hx
        · next hs => simp only [Option.some.injEq, Prod.mk.injEq] at hx; obtain ⟨rfl, rfl⟩ := hx; simp [hs]
        · simp at hx
      · split at hx
        · simp only [Option.some.injEq, Prod.mk.injEq] at hx; obtain ⟨rfl, rfl⟩ := hx; simp
        · split at hx
          · split at hx
            · next hl => simp only [Option.some.injEq, Prod.mk.injEq] at hx; obtain ⟨rfl, rfl⟩ := hx; exact hl
            · simp at hx
          · simp at hx
      · simp at hx
    rw [List.length_append, O.1.len, hl, Nat.add_mul]
  · simp only [CVal.slice.injEq] at e; obtain ⟨rfl, _⟩ := e; exact ⟨by omega, by omega⟩
/-- Nothing put behind. -/
theorem appendC_none {h : Heap} {v src : CVal} {sz bytes : Nat} (hx : srcC h sz src = some (0, [])) (hv : v = .nilSlice ∨ ∃ i o l c, v = .slice i o l c) : appendC h sz bytes v src = some (v, h) := by
  unfold appendC
  simp only [hx, List.all_nil, if_true]
  rcases hv with rfl | ⟨i, o, l, c, rfl⟩ <;> rfl
theorem Own.get {h₀ h : Heap} {i sz m : Nat} {cs : List CVal} (O : Own h₀ h (.slice i 0 m m) sz m cs) : ∃ wr opn, h.get i = some (.cells cs wr opn) := by
  rcases O.1 with ⟨e, _⟩ | ⟨b, wr, opn, e, _, g, _⟩
  · simp at e
  · simp only [CVal.slice.injEq] at e
    obtain ⟨rfl, _⟩ := e
    exact ⟨wr, opn, g⟩

/-- A row of numbers that can be read. -/
def RIn (h : Heap) (v : CVal) (R : List Int) : Prop :=
  (v = .nilSlice ∧ R = []) ∨ ∃ i o c, v = .slice i o R.length c ∧ i < h.next ∧ (R = [] ∨ ∃ cs wr opn, h.get i = some (.cells cs wr opn) ∧ ∀ j (hj : j < R.length), cs[o + j]? = some (.int .i64 R[j]))
theorem RIn.exd {h h' : Heap} {v : CVal} {R : List Int} (s : RIn h v R) (e : Exd h h') : RIn h' v R := by
  rcases s with s | ⟨i, o, c, s1, s2, s3⟩
  · exact .inl s
  · exact .inr ⟨i, o, c, s1, Nat.lt_of_lt_of_le s2 e.le, s3.imp id fun ⟨cs, wr, opn, g, a⟩ => ⟨cs, wr, opn, (e.get i s2).trans g, a⟩⟩
theorem Own.ints {h₀ h : Heap} {v : CVal} {R : List Int} (O : Own h₀ h v 1 R.length (R.map (CVal.int .i64))) : RIn h v R := by
  rcases O.cases with ⟨rfl, h1, _⟩ | ⟨i, rfl, h1, h2⟩
  · exact .inl ⟨rfl, by simpa using h1⟩
  · obtain ⟨wr, opn, g⟩ := O.get
    exact .inr ⟨i, 0, R.length, rfl, h2, .inr ⟨_, wr, opn, g, fun j hj => by simp [hj]⟩⟩
theorem Own.evs {h₀ h : Heap} {v : CVal} {E : List Ev} (O : Own h₀ h v 5 E.length (cellsE E)) : REv h v E := by
  rcases O.cases with ⟨rfl, h1, _⟩ | ⟨i, rfl, h1, h2⟩
  · exact .inl ⟨rfl, by simpa using h1⟩
  · obtain ⟨wr, opn, g⟩ := O.get
    exact .inr ⟨i, 0, E.length, rfl, Nat.le_refl _, h2, .inr ⟨_, wr, opn, g, fun j hj => by rw [Nat.zero_add]; exact cellsE_get hj⟩⟩
end Go.Proofs.YtlggkknkbbhooaaGreat.Cm

/-
  The clean machine, part YJ: an argument that is a row of records of five numbers, laid into the clean heap to be read.
-/
namespace Go.Proofs.YtlggkknkbbhooaaGreat.Cm
open Go.RowKit Go.ChangeShapes

def Ev.nth (e : Ev) : Nat → Int
  | 0 => e.at_
  | 1 => e.kind
  | 2 => e.pid
  | 3 => e.a
  | _ => e.b
theorem Ev.cs_nth (e : Ev) {q : Nat} (h : q < 5) : e.cs[q]? = some (.int .i64 (e.nth q)) := by
  match q, h with
  | 0, _ => rfl
  | 1, _ => rfl
  | 2, _ => rfl
  | 3, _ => rfl
  | 4, _ => rfl

/-- A row of records that came in. -/
structure IsEvs (w : World) (a : Option Addr) (len cap : Nat) (E : List Ev) : Prop where
  no : a = none → len = 0 ∧ cap = 0
  at_ : ∀ x, a = some x → len ≤ cap ∧ x.spot = none ∧ ∃ C el fz, w.heap[x.block]? = some (.cells C el fz)
  len : E.length = len
  cells : ∀ x, a = some x → ∀ j (hj : j < E.length), ∀ q, q < 5 → w.cell? (x.add (j * 5 + q)) = some (.int .i64 (E[j].nth q))

theorem okw_slice5 {P : Program} {w : World} {r : Reach} {base : Nat} {t e : TypeId} {v : Value} (ht : P.underlying t = some (.slice e)) (h : Value.okWide P w r base t v) :
    ∃ a len cap, v = .slice a len cap ∧ (a = none → len = 0 ∧ cap = 0) ∧ ∀ x, a = some x → len ≤ cap ∧ x.spot = none ∧ ∃ C el fz, w.heap[x.block]? = some (.cells C el fz) := by
  simp only [Value.okWide, ht, Cell.okWide] at h
  cases v with
  | slice a len cap =>
    refine ⟨a, len, cap, rfl, fun e => ?_, fun x e => ?_⟩
    · subst e
      cases len <;> cases cap <;> simp_all [Cell.ok]
    · subst e
      simp only [Cell.ok, ht] at h
      obtain ⟨h1, _, _, hsp, row, cells, hs, _⟩ := h
      refine ⟨h1, hsp, ?_⟩
      unfold World.shape? at hs
      split at hs
      · next hb => exact ⟨_, _, _, hb⟩
      · simp at hs
  | _ => simp_all [Cell.ok]

theorem add_add5 (x : Addr) (m i : Nat) : (x.add m).add i = x.add (m + i) := by
  unfold Addr.add
  by_cases h1 : m = 0
  · subst h1; simp
  · by_cases h2 : i = 0
    · subst h2; simp
    · simp [h1, h2, Nat.add_assoc]

theorem evs_of {P : Program} {w : World} {H : Type} {enc : TypeId × Value → H} {r : Reach} {base : Nat} {t e ti : TypeId} {f₀ f₁ f₂ f₃ f₄ : Field} {v : Value} {x : DataW H × List MemPlace} (ht : P.underlying t = some (.slice e)) (he : P.underlying e = some (.struct #[f₀, f₁, f₂, f₃, f₄])) (hc : P.cellsOf e = 5)
    (h₀ : f₀.type = ti ∧ f₀.offset = 0) (h₁ : f₁.type = ti ∧ f₁.offset = 1) (h₂ : f₂.type = ti ∧ f₂.offset = 2) (h₃ : f₃.type = ti ∧ f₃.offset = 3) (h₄ : f₄.type = ti ∧ f₄.offset = 4) (hti : P.underlying ti = some (.int .i64)) (hci : P.cellsOf ti = 1)
    (hv : Value.okWide P w r base t v) (h : ∃ m, DataW.trod enc P w 0 (fun _ => true) true m t v.cells.toList = some x) : ∃ (a : Option Addr) (len cap : Nat) (E : List Ev), v = .slice a len cap ∧ IsEvs w a len cap E := by
  obtain ⟨a, len, cap, rfl, hn, hs⟩ := okw_slice5 ht hv
  obtain ⟨m, hf⟩ := h
  obtain ⟨d, ps⟩ := x
  rcases DataW.trod_slice ht hf with ⟨hcs, _⟩ | ⟨x, l, c, elems, rest, n, _, hcs, hx, _, hl, _, hlen, hel, _, _⟩
  · simp [Value.cells] at hcs
    obtain ⟨rfl, rfl, rfl⟩ := hcs
    exact ⟨none, 0, 0, [], rfl, hn, hs, rfl, fun x e => by simp at e⟩
  · simp [Value.cells] at hcs
    obtain ⟨rfl, rfl, rfl⟩ := hcs
    have each : ∀ j, j < len → ∃ e : Ev, ∀ q, q < 5 → w.cell? (x.add (j * 5 + q)) = some (.int .i64 (e.nth q)) := by
      intro j hj
      have hj' : j < elems.length := by omega
      have e1 := hel j hj
      rw [List.getElem?_eq_getElem hj', hc, Option.bind_eq_some_iff] at e1
      obtain ⟨cs, hcs, hy⟩ := e1
      obtain ⟨xs, n', _, hxs, hcl, hxl, hfs⟩ := DataW.trod_struct he hy
      obtain ⟨_, hl3, hcell⟩ := World.cells?_some hcs
      match xs, hxl, cs, hl3, hcl with
      | [y₀, y₁, y₂, y₃, y₄], _, [u₀, u₁, u₂, u₃, u₄], _, _ =>
        have t₀ := hfs 0 f₀ rfl
        have t₁ := hfs 1 f₁ rfl
        have t₂ := hfs 2 f₂ rfl
        have t₃ := hfs 3 f₃ rfl
        have t₄ := hfs 4 f₄ rfl
        rw [h₀.1, h₀.2, hci] at t₀
        rw [h₁.1, h₁.2, hci] at t₁
        rw [h₂.1, h₂.2, hci] at t₂
        rw [h₃.1, h₃.2, hci] at t₃
        rw [h₄.1, h₄.2, hci] at t₄
        simp only [List.drop_zero, List.take_succ_cons, List.take_zero, List.drop_succ_cons, List.getElem?_cons_zero, List.getElem?_cons_succ] at t₀ t₁ t₂ t₃ t₄
        obtain ⟨p₀, hp₀, _⟩ := DataW.trod_int hti t₀
        obtain ⟨p₁, hp₁, _⟩ := DataW.trod_int hti t₁
        obtain ⟨p₂, hp₂, _⟩ := DataW.trod_int hti t₂
        obtain ⟨p₃, hp₃, _⟩ := DataW.trod_int hti t₃
        obtain ⟨p₄, hp₄, _⟩ := DataW.trod_int hti t₄
        simp only [List.cons.injEq, and_true] at hp₀ hp₁ hp₂ hp₃ hp₄
        subst hp₀ hp₁ hp₂ hp₃ hp₄
        refine ⟨⟨p₀, p₁, p₂, p₃, p₄⟩, fun q hq => ?_⟩
        have g := hcell q (by simpa using hq)
        rw [add_add5] at g
        match q, hq with
        | 0, _ => exact g
        | 1, _ => exact g
        | 2, _ => exact g
        | 3, _ => exact g
        | 4, _ => exact g
    refine ⟨some x, len, cap, (List.range len).map fun j => if hj : j < len then Classical.choose (each j hj) else default, rfl, hn, hs, by simp, fun x' e j hj => ?_⟩
    simp only [Option.some.injEq] at e
    subst e
    have hj' : j < len := by simpa using hj
    simp only [List.getElem_map, List.getElem_range, hj', dif_pos]
    exact Classical.choose_spec (each j hj')

section
variable {K : Ctx} {ι : Emb} {h : Heap} {w : World}

theorem open_evs (H : Inv K ι h w) (ro : Ro h) (hg : ∀ b, ¬ K.G b) {a : Option Addr} {len cap : Nat} {E : List Ev} (r : IsEvs w a len cap E) :
    ∃ ι' h' v, ι.le ι' ∧ Inv K ι' h' w ∧ Exd h h' ∧ Ro h' ∧ VR ι' v (.slice a len cap) ∧ REv h' v E := by
  obtain ⟨hn, hs, hlen, hcell⟩ := r
  cases a with
  | none =>
    obtain ⟨rfl, rfl⟩ := hn rfl
    obtain rfl : E = [] := by cases E; rfl; simp at hlen
    exact ⟨ι, h, .nilSlice, Emb.le.refl _, H, Exd.refl _, ro, .nilSlice, .inl ⟨rfl, rfl⟩⟩
  | some x =>
    obtain ⟨hle, hspot, C, el, fz, hb⟩ := hs x rfl
    have hcells : CellsR (ι.put h.next (x.block, x.off, 0)) (cellsE E) C x.off := by
      intro p v e
      have hp : p < E.length * 5 := by
        rw [← cellsE_length]; exact (List.getElem?_eq_some_iff.1 e).1
      have hj : p / 5 < E.length := by omega
      have hq : p % 5 < 5 := Nat.mod_lt _ (by omega)
      have e1 : (cellsE E)[p / 5 * 5 + p % 5]? = some (.int .i64 (E[p / 5].nth (p % 5))) := by
        have := congrArg (·[p % 5]?) (cellsE_get hj)
        simp only [List.getElem?_take, List.getElem?_drop, if_pos hq] at this
        rw [this, Ev.cs_nth _ hq]
      rw [show p / 5 * 5 + p % 5 = p by omega] at e1
      rw [e1] at e
      simp only [Option.some.injEq] at e
      subst e
      refine ⟨rfl, .int .i64 (E[p / 5].nth (p % 5)), ?_, .int _ _⟩
      have c := hcell x rfl (p / 5) hj (p % 5) hq
      rw [show p / 5 * 5 + p % 5 = p by omega] at c
      unfold World.cell? Addr.add at c
      by_cases hj0 : p = 0
      · subst hj0
        simp only [if_true, hb, hspot] at c
        simpa using c
      · simp only [if_neg hj0, hb] at c
        simpa using c
    refine ⟨_, _, .slice h.next 0 len cap, ι.le_put h.next (x.block, x.off, 0) (H.fresh h.next (Nat.le_refl _)).1, H.arg ro hb hcells (hg _), Exd.new (Exd.refl _), fun i o e => ?_, ?_, ?_⟩
    · rw [Heap.get_new] at e
      split at e
      · simp only [Option.some.injEq] at e; subst e; rfl
      · exact ro i o e
    · refine .slice h.next 0 len cap x.block x.off 0 x (Emb.put_same _ _ _) (.inl ?_) hle
      obtain ⟨bl, of, s⟩ := x
      simp only at hspot
      subst hspot
      rfl
    · refine .inr ⟨h.next, 0, cap, by rw [hlen], by rw [hlen]; exact hle, by rw [Heap.next_new]; omega, .inr ⟨_, false, none, h.get_new_same _, fun j hj => by rw [Nat.zero_add]; exact cellsE_get hj⟩⟩
end
end Go.Proofs.YtlggkknkbbhooaaGreat.Cm

/-
  The clean machine, part YK: words between blanks; ranging over a string.
-/
namespace Go.Proofs.YtlggkknkbbhooaaGreat.Cm
open Go.RowKit

/-- Put ahead of the first word. -/
def consW (p : List UInt8) : List (List UInt8) → List (List UInt8)
  | [] => [p]
  | w :: ws => (p ++ w) :: ws
/-- The words between blanks. -/
def splitB : List UInt8 → List (List UInt8)
  | [] => [[]]
  | c :: s => if c = 32 then [] :: splitB s else consW [c] (splitB s)
theorem splitB_ne : ∀ s, splitB s ≠ []
  | [] => by simp [splitB]
  | c :: s => by
    unfold splitB
    split
    · simp
    · have := splitB_ne s
      cases h : splitB s with
      | nil => exact (this h).elim
      | cons => simp [consW]
theorem consW_nil {l : List (List UInt8)} (h : l ≠ []) : consW [] l = l := by
  cases l with
  | nil => exact (h rfl).elim
  | cons w ws => simp [consW]
theorem consW_consW {p q : List UInt8} {l : List (List UInt8)} (h : l ≠ []) : consW p (consW q l) = consW (p ++ q) l := by
  cases l with
  | nil => exact (h rfl).elim
  | cons w ws => simp [consW]
/-- No blank: one word more of it. -/
theorem splitB_app : ∀ {p s : List UInt8}, (∀ c ∈ p, c ≠ 32) → splitB (p ++ s) = consW p (splitB s)
  | [], s, _ => by rw [List.nil_append, consW_nil (splitB_ne s)]
  | c :: p, s, h => by
    rw [List.cons_append, splitB, if_neg (h c (List.mem_cons_self ..)), splitB_app fun x hx => h x (List.mem_cons_of_mem _ hx), consW_consW (splitB_ne s)]
    rfl

/-- How far the words are told: those behind, where the one begins, where we are. -/
structure Cut (s : List UInt8) (ws : List (List UInt8)) (fr i : Nat) : Prop where
  h1 : fr ≤ i
  h2 : i ≤ s.length
  eq : splitB s = ws ++ consW ((s.drop fr).take (i - fr)) (splitB (s.drop i))
  len : ws.length ≤ fr
theorem Cut.zero {s : List UInt8} : Cut s [] 0 0 := ⟨Nat.le_refl _, Nat.zero_le _, by simp [consW_nil (splitB_ne s)], Nat.le_refl _⟩
theorem Cut.blank {s : List UInt8} {ws : List (List UInt8)} {fr i : Nat} (c : Cut s ws fr i) (hi : i < s.length) (h : s[i] = 32) : Cut s (ws ++ [(s.drop fr).take (i - fr)]) (i + 1) (i + 1) := by
  refine ⟨Nat.le_refl _, hi, ?_, ?_⟩
  · rw [c.eq, List.drop_eq_getElem_cons hi, splitB, if_pos h]
    rw [Nat.sub_self, List.take_zero, consW_nil (splitB_ne _)]
    simp [consW]
  · have := c.len; have := c.h1; simp; omega
theorem Cut.go {s : List UInt8} {ws : List (List UInt8)} {fr i w : Nat} (c : Cut s ws fr i) (hw : i + w ≤ s.length) (h : ∀ j (hj : j < s.length), i ≤ j → j < i + w → s[j] ≠ 32) : Cut s ws fr (i + w) := by
  have h1 := c.h1
  refine ⟨by omega, hw, ?_, c.len⟩
  have e : s.drop i = (s.drop i).take w ++ s.drop (i + w) := by rw [← List.drop_drop, List.take_append_drop]
  rw [c.eq, e, splitB_app, consW_consW (splitB_ne _)]
  · congr 2
    rw [show i + w - fr = (i - fr) + w by omega, List.take_add, List.drop_drop, show fr + (i - fr) = i by omega]
  · intro x hx
    obtain ⟨j, hj, rfl⟩ := List.getElem_of_mem hx
    simp only [List.length_take, List.length_drop] at hj
    rw [List.getElem_take, List.getElem_drop]
    exact h (i + j) (by omega) (by omega) (by omega)
theorem Cut.done {s : List UInt8} {ws : List (List UInt8)} {fr : Nat} (c : Cut s ws fr s.length) : splitB s = ws ++ [(s.drop fr).take (s.length - fr)] := by
  rw [c.eq, List.drop_length]
  simp [splitB, consW]

theorem get_toNat {s : List UInt8} {j : Nat} (h : j < s.length) : (s.getD j 0).toNat = s[j].toNat := by simp [List.getD, h]
theorem u8_32 {b : UInt8} : b = 32 ↔ b.toNat = 32 := by
  rw [← UInt8.toNat_inj]; exact Iff.rfl

/-- What is read next of a string, as to blanks. -/
theorem dec_blank {s : List UInt8} {i c w : Nat} (h : i < s.length) (e : Utf8.decode ⟨s.toArray⟩ i = (c, w)) : (s[i] = 32 → c = 32 ∧ w = 1) ∧ (s[i] ≠ 32 → c ≠ 32) ∧ 1 ≤ w ∧ i + w ≤ s.length ∧ ∀ j (hj : j < s.length), i < j → j < i + w → s[j] ≠ 32 := by
  rw [Lib.decode_N] at e
  simp only at e
  have g0 := get_toNat h
  have far : ∀ j (hj : j < s.length), s[j] ≠ 32 ↔ (s.getD j 0).toNat ≠ 32 := fun j hj => by rw [get_toNat hj, Ne, u8_32]
  have near : ∀ k, (∀ q, 1 ≤ q → q < k → (s.getD (i + q) 0).toNat / 64 = 2) → ∀ j (hj : j < s.length), i < j → j < i + k → s[j] ≠ 32 := by
    intro k hk j hj h1 h2
    have := hk (j - i) (by omega) (by omega)
    rw [show i + (j - i) = j by omega] at this
    rw [far j hj]; omega
  have up : ∀ {q}, q < s.length - i → i + q < s.length := by intros; omega
  rw [Ne, u8_32, ← g0]
  unfold Lib.decodeN at e
  generalize hb0 : (s.getD i 0).toNat = b0 at *
  have one : ∀ c', ((c', 1) : Nat × Nat) = (c, w) → c' ≠ 32 ∨ b0 = 32 → (b0 = 32 → c' = 32) → (b0 = 32 → c = 32 ∧ w = 1) ∧ (b0 ≠ 32 → c ≠ 32) ∧ 1 ≤ w ∧ i + w ≤ s.length ∧ ∀ j (hj : j < s.length), i < j → j < i + w → s[j] ≠ 32 := by
    intro c' ee h1 h2
    simp only [Prod.mk.injEq] at ee
    obtain ⟨rfl, rfl⟩ := ee
    exact ⟨fun h => ⟨h2 h, rfl⟩, fun h => h1.resolve_right h, Nat.le_refl _, by omega, fun j hj a b => by omega⟩
  split at e
  · exact one _ e (by omega) (by omega)
  · split at e
    · next h6 =>
      split at e
      · simp only [Prod.mk.injEq] at e
        obtain ⟨rfl, rfl⟩ := e
        refine ⟨by omega, by omega, by omega, by omega, near 2 fun q a b => ?_⟩
        obtain rfl : q = 1 := by omega
        exact h6.2.2
      · exact one _ e (by omega) (by omega)
    · split at e
      · next h6 =>
        split at e
        · simp only [Prod.mk.injEq] at e
          obtain ⟨rfl, rfl⟩ := e
          refine ⟨by omega, by omega, by omega, by omega, near 3 fun q a b => ?_⟩
          rcases (show q = 1 ∨ q = 2 by omega) with rfl | rfl
          · exact h6.2.1.2
          · exact h6.2.2.2
        · exact one _ e (by omega) (by omega)
      · split at e
        · next h6 =>
          split at e
          · simp only [Prod.mk.injEq] at e
            obtain ⟨rfl, rfl⟩ := e
            refine ⟨by omega, by omega, by omega, by omega, near 4 fun q a b => ?_⟩
            rcases (show q = 1 ∨ q = 2 ∨ q = 3 by omega) with rfl | rfl | rfl
            · exact h6.2.1.2
            · exact h6.2.2.1.2
            · exact h6.2.2.2.2
          · exact one _ e (by omega) (by omega)
        · exact one _ e (by omega) (by omega)

theorem OPN.range {N : Nat} {ρ : Env} {h : Heap} {X : CX} {s : List UInt8} {n : Nat} {K : CVal → Heap → Prop} (hx : X.on N ρ = .str s) (hn : h.next = n) (k : K (.ptr n 0) (h.new (.iter s 0))) : OPN N (.rangeStr X) ρ h K :=
  .mk (v := .ptr n 0) (h' := h.new (.iter s 0)) (by simp only [cop, CX.on_ev, hx, hn]) k
theorem OPN.next1 {N : Nat} {ρ : Env} {h : Heap} {X : CX} {s : List UInt8} {i pos : Nat} {K : CVal → Heap → Prop} (hx : X.on N ρ = .ptr i 0) (g : h.get i = some (.iter s pos)) (hp : pos < s.length)
    (k : ∀ c w, Utf8.decode ⟨s.toArray⟩ pos = (c, w) → K (.tuple [.bool true, .int .i64 pos, .int .i32 c]) (h.set i (.iter s (pos + w)))) : OPN N (.nextStr X) ρ h K := by
  cases hd : Utf8.decode ⟨s.toArray⟩ pos with
  | mk c w =>
    refine .mk ?_ (k c w hd)
    simp only [cop, CX.on_ev, hx, g, if_pos hp, hd]
theorem OPN.next0 {N : Nat} {ρ : Env} {h : Heap} {X : CX} {s : List UInt8} {i pos : Nat} {K : CVal → Heap → Prop} (hx : X.on N ρ = .ptr i 0) (g : h.get i = some (.iter s pos)) (hp : s.length ≤ pos) (k : K (.tuple [.bool false]) h) : OPN N (.nextStr X) ρ h K := by
  refine .mk ?_ k
  simp only [cop, CX.on_ev, hx, g, if_neg (Nat.not_lt.2 hp)]
end Go.Proofs.YtlggkknkbbhooaaGreat.Cm

/-
  The clean machine, part YL: numerals: what is written is read again, and nothing else is.
-/
namespace Go.Proofs.YtlggkknkbbhooaaGreat.Cm

def isDig (c : UInt8) : Prop := 48 ≤ c.toNat ∧ c.toNat ≤ 57
/-- The value of digits behind a value. -/
def val (acc : Nat) (l : List UInt8) : Nat := l.foldl (fun a c => a * 10 + (c.toNat - 48)) acc
theorem val_nil (acc : Nat) : val acc [] = acc := rfl
theorem val_cons (acc : Nat) (c : UInt8) (l : List UInt8) : val acc (c :: l) = val (acc * 10 + (c.toNat - 48)) l := by rw [val, val, List.foldl_cons]
theorem val_ge (l : List UInt8) : ∀ acc : Nat, acc ≤ val acc l := by
  induction l with
  | nil => intro acc; exact Nat.le_refl _
  | cons c l ih => intro acc; have := ih (acc * 10 + (c.toNat - 48)); rw [val_cons]; omega
theorem val_append (l r : List UInt8) : ∀ acc : Nat, val acc (l ++ r) = val (val acc l) r := by
  induction l with
  | nil => intro acc; rfl
  | cons c l ih => intro acc; rw [List.cons_append, val_cons, val_cons, ih]

theorem parseM_ok {M : Nat} (hM : M < 18446744073709551616) (l : List UInt8) : ∀ acc : Nat, (∀ c ∈ l, isDig c) → val acc l ≤ M → Lib.parseUintM M acc l = .ok (val acc l) := by
  induction l with
  | nil => intro acc _ _; rfl
  | cons c l ih =>
    intro acc hd hv
    have h1 := hd c (List.mem_cons_self ..)
    unfold isDig at h1
    rw [val_cons] at hv
    have h2 := val_ge l (acc * 10 + (c.toNat - 48))
    rw [Lib.parseUintM, if_pos h1, if_neg (by omega), if_neg (by omega), ih _ (fun x hx => hd x (List.mem_cons_of_mem _ hx)) hv, val_cons]

theorem dig_ofNat {k : Nat} (h : k < 10) : (UInt8.ofNat (48 + k)).toNat = 48 + k := by
  rw [UInt8.toNat_ofNat']; omega
theorem decDigits_dig (u : Nat) : ∀ c ∈ Lib.decDigits u, isDig c := by
  induction u using Nat.strongRecOn with
  | _ u ih =>
    rw [Lib.decDigits]
    split
    · next h =>
      intro c hc
      simp only [List.mem_cons, List.not_mem_nil, or_false] at hc
      subst hc
      unfold isDig
      rw [dig_ofNat h]; omega
    · next h =>
      intro c hc
      rcases List.mem_append.1 hc with hc | hc
      · exact ih (u / 10) (by omega) c hc
      · simp only [List.mem_cons, List.not_mem_nil, or_false] at hc
        subst hc
        unfold isDig
        rw [dig_ofNat (Nat.mod_lt _ (by omega))]; omega
theorem decDigits_val (u : Nat) : val 0 (Lib.decDigits u) = u := by
  induction u using Nat.strongRecOn with
  | _ u ih =>
    rw [Lib.decDigits]
    split
    · next h => rw [val_cons, val_nil, dig_ofNat h]; omega
    · next h =>
      rw [val_append, ih (u / 10) (by omega), val_cons, val_nil, dig_ofNat (Nat.mod_lt _ (by omega))]; omega
theorem decDigits_ne (u : Nat) : Lib.decDigits u ≠ [] := by
  rw [Lib.decDigits]
  split <;> simp
/-- The first digit is 0 just for 0. -/
theorem decDigits_head (u : Nat) : ∃ c l, Lib.decDigits u = c :: l ∧ (c = 48 → u = 0) := by
  induction u using Nat.strongRecOn with
  | _ u ih =>
    rw [Lib.decDigits]
    split
    · next h =>
      refine ⟨_, [], rfl, fun e => ?_⟩
      have := congrArg UInt8.toNat e
      rw [dig_ofNat h] at this
      have e2 : (48 : UInt8).toNat = 48 := rfl
      omega
    · next h =>
      obtain ⟨c, l, e, hc⟩ := ih (u / 10) (by omega)
      exact ⟨c, l ++ [UInt8.ofNat (48 + u % 10)], by rw [e]; rfl, fun h => by have := hc h; omega⟩
theorem decDigits_zero : Lib.decDigits 0 = [48] := by rw [Lib.decDigits]; rfl

theorem ofNat_dig {c : UInt8} (h : isDig c) : UInt8.ofNat (48 + (c.toNat - 48)) = c := by
  unfold isDig at h
  rw [show 48 + (c.toNat - 48) = c.toNat by omega]
  exact UInt8.ofNat_toNat
/-- Digits without a 0 ahead are the numeral of their value. -/
theorem decDigits_of {c : UInt8} {l : List UInt8} (hd : ∀ x ∈ c :: l, isDig x) (hc : c ≠ 48) : Lib.decDigits (val 0 (c :: l)) = c :: l := by
  have pos : 1 ≤ c.toNat - 48 := by
    have := (hd c (List.mem_cons_self ..)).1
    have h2 : c.toNat ≠ 48 := fun e => hc (UInt8.toNat_inj.1 (by rw [e]; rfl))
    omega
  have key : ∀ (r : List UInt8) (p : List UInt8) (a : Nat), (∀ x ∈ r, isDig x) → 1 ≤ a → Lib.decDigits a = p → Lib.decDigits (val a r) = p ++ r := by
    intro r
    induction r with
    | nil => intro p a _ _ h; rw [val_nil, h, List.append_nil]
    | cons x r ih =>
      intro p a hr ha h
      have hx := hr x (List.mem_cons_self ..)
      have hx' := hx
      unfold isDig at hx
      rw [val_cons, ih (p ++ [x]) _ (fun y hy => hr y (List.mem_cons_of_mem _ hy)) (by omega), List.append_assoc]; rfl
      rw [Lib.decDigits, dif_neg (by omega), show (a * 10 + (x.toNat - 48)) / 10 = a by omega, show (a * 10 + (x.toNat - 48)) % 10 = x.toNat - 48 by omega, h, ofNat_dig hx']
  have h0 := hd c (List.mem_cons_self ..)
  have h0' := h0
  unfold isDig at h0
  rw [val_cons]
  have := key l [c] (0 * 10 + (c.toNat - 48)) (fun x hx => hd x (List.mem_cons_of_mem _ hx)) (by omega) (by rw [Nat.zero_mul, Nat.zero_add, Lib.decDigits, dif_pos (by omega), ofNat_dig h0'])
  simpa using this

theorem parseB_dec {u : Nat} (h : u < 18446744073709551616) : Lib.parseUintB 64 (Lib.decDigits u) = .ok u := by
  rw [Lib.parseUintB, if_neg (decDigits_ne u), parseM_ok (by decide) _ _ (decDigits_dig u) (by rw [decDigits_val]; omega), decDigits_val]

/-- What Itoa writes, ParseInt reads. -/
theorem parse_itoa {n : Int} (h0 : -9223372036854775808 ≤ n) (h1 : n ≤ 9223372036854775807) : Lib.parseIntB 64 (Lib.itoa n) = .ok n := by
  unfold Lib.itoa
  split
  · next h =>
    simp only [Lib.parseIntB]
    rw [show (if (45 : UInt8).toNat = 43 ∨ (45 : UInt8).toNat = 45 then Lib.decDigits n.natAbs else 45 :: Lib.decDigits n.natAbs) = Lib.decDigits n.natAbs from rfl, parseB_dec (by omega)]
    simp only
    rw [if_neg (fun h => h.1 rfl), if_neg (fun h => by have := h.2; omega), if_pos (show UInt8.toNat 45 = 45 from rfl)]
    congr 1; omega
  · next h =>
    have hp := parseB_dec (u := n.toNat) (by omega)
    obtain ⟨c, l, e, _⟩ := decDigits_head n.toNat
    have hc : isDig c := decDigits_dig n.toNat c (by rw [e]; exact List.mem_cons_self ..)
    unfold isDig at hc
    rw [e] at hp ⊢
    simp only [Lib.parseIntB]
    rw [if_neg (by omega), hp]
    simp only
    rw [if_neg (fun h => by have := h.2; omega), if_neg (fun h => by have := h.1; omega), if_neg (by omega)]
    congr 1; omega
theorem parseV_itoa {n : Int} (h0 : -9223372036854775808 ≤ n) (h1 : n ≤ 9223372036854775807) : parseV (Lib.itoa n) = n := by rw [parseV, parse_itoa h0 h1]
theorem itoa_blank (n : Int) : ∀ c ∈ Lib.itoa n, c ≠ 32 := by
  have dig : ∀ u, ∀ c ∈ Lib.decDigits u, c ≠ 32 := fun u c hc e => by
    have := decDigits_dig u c hc
    unfold isDig at this
    subst e
    have e2 : (32 : UInt8).toNat = 32 := rfl
    omega
  unfold Lib.itoa
  split
  · intro c hc
    rcases List.mem_cons.1 hc with rfl | hc
    · decide
    · exact dig _ c hc
  · exact dig _
end Go.Proofs.YtlggkknkbbhooaaGreat.Cm

/-
  The clean machine, part YM: strings.Split(s, " ") and strconv.Atoi as known from their contracts; maps from strings to numbers.
-/
namespace Go.Proofs.YtlggkknkbbhooaaGreat.Cm
open Go.RowKit

theorem split1_word {w s : List UInt8} (h : ∀ c ∈ w, c ≠ 32) : splitB (w ++ 32 :: s) = w :: splitB s := by
  rw [splitB_app h, splitB, if_pos rfl, consW, List.append_nil]
theorem split1_last {w : List UInt8} (h : ∀ c ∈ w, c ≠ 32) : splitB w = [w] := by
  have := splitB_app (s := []) h
  rw [List.append_nil] at this
  rw [this, splitB, consW, List.append_nil]

/-- The library's own split at a blank. -/
theorem split_lib (n : Nat) : ∀ s : List UInt8, s.length ≤ n → Lib.splitK [32] 0 (Lib.count s [32]) s = splitB s ∧ (splitB s).length = Lib.count s [32] + 1 := by
  induction n with
  | zero =>
    intro s hs
    obtain rfl : s = [] := by simpa using hs
    exact ⟨rfl, rfl⟩
  | succ n ih =>
    intro s hs
    have ge := Lib.index_ge s [32]
    by_cases h0 : Lib.index s [32] = -1
    · have hb : ∀ c ∈ s, c ≠ 32 := by
        intro c hc e
        obtain ⟨k, hk, e2⟩ := List.getElem_of_mem hc
        have h1 := h0
        rw [Lib.index_one] at h1
        have := Lib.indexByte_none h1 k
        rw [List.getElem?_eq_getElem hk, e2, e] at this
        exact this rfl
      rw [Lib.count_miss h0, split1_last hb]
      exact ⟨rfl, rfl⟩
    · obtain ⟨i, hi⟩ : ∃ i : Nat, Lib.index s [32] = i := ⟨(Lib.index s [32]).toNat, by omega⟩
      have h1 := hi
      rw [Lib.index_one] at h1
      obtain ⟨h2, h3⟩ := Lib.indexByte_some h1
      obtain ⟨hil, h4⟩ := List.getElem?_eq_some_iff.1 h2
      have hb : ∀ c ∈ s.take i, c ≠ 32 := by
        intro c hc e
        obtain ⟨k, hk, e2⟩ := List.getElem_of_mem hc
        rw [List.length_take] at hk
        rw [List.getElem_take] at e2
        have := h3 k (by omega)
        rw [List.getElem?_eq_getElem (by omega), e2, e] at this
        exact this rfl
      have e : s = s.take i ++ 32 :: s.drop (i + 1) := by
        have := List.drop_eq_getElem_cons hil
        rw [h4] at this
        rw [← this, List.take_append_drop]
      obtain ⟨a, b⟩ := ih (s.drop (i + 1)) (by rw [List.length_drop]; omega)
      have sp : splitB s = s.take i :: splitB (s.drop (i + 1)) := by
        have := split1_word (s := s.drop (i + 1)) hb
        rwa [← e] at this
      have cn : Lib.count s [32] = Lib.count (s.drop (i + 1)) [32] + 1 := by
        rw [Lib.count_hit (by simp) hi, Nat.add_comm]; rfl
      rw [cn, sp]
      refine ⟨?_, by rw [List.length_cons, b]⟩
      rw [Lib.splitK, hi, if_neg (by simp), Int.toNat_natCast, Nat.add_zero, show i + [(32 : UInt8)].length = i + 1 from rfl, a]

def splitP : List CVal → Heap → Option (CVal × Heap)
  | [.str s, .str sep], h => if sep = [32] ∧ s.length ≤ 1000000 then some (.slice h.next 0 (splitB s).length (splitB s).length, h.new (.cells ((splitB s).map .str) true none)) else none
  | _, _ => none

theorem strs_one (l : List (List UInt8)) : (l.map CVal.str).all CVal.one = true := by
  rw [List.all_eq_true]
  intro v hv
  obtain ⟨s, _, rfl⟩ := List.mem_map.1 hv
  rfl
theorem VRs.strs {ι : Emb} : ∀ l : List ByteArray, VRs ι (l.map fun s => CVal.str s.data.toList) (l.map Value.string)
  | [] => .nil
  | s :: l => .cons _ _ _ _ (.str s) (VRs.strs l)

theorem split_ok {P : Program} {glb : Gl} {f : FuncId} (hb : HasBody P f) {T : TypeId}
    (C : ∀ (s : ByteArray) (w : World), s.size < 4294967281 → glb.fact w → Calls P f #[.string s, .string ⟨#[32]⟩] w fun e w' =>
      e = .returned (.slice (some ⟨w.heap.size, 0, none⟩) (Lib.countB s ⟨#[32]⟩ + 1) (Lib.countB s ⟨#[32]⟩ + 1)) ∧ w' = w.alloc (.cells ((Lib.splitB ⟨#[32]⟩ 0 (Lib.countB s ⟨#[32]⟩) s).map Value.string).toArray T)) : PrimOk P glb f splitP := by
  refine ⟨hb, fun K ι h w args args' v h' hk H R ev => ?_⟩
  obtain ⟨l'⟩ := args'
  simp only at R
  subst hk
  unfold splitP at ev
  split at ev
  · next s sep =>
    split at ev
    · next hn =>
      obtain ⟨rfl, hs⟩ := hn
      simp only [Option.some.injEq, Prod.mk.injEq] at ev
      obtain ⟨rfl, rfl⟩ := ev
      cases R with
      | cons _ _ x' r' r1 r2 =>
        cases r2 with
        | cons _ _ y' r'' r3 r4 =>
          cases r4
          obtain ⟨S, rfl, rfl⟩ := r1.str_inv
          obtain ⟨Z, hz, rfl⟩ := r3.str_inv
          obtain ⟨⟨z⟩⟩ := Z
          simp only at hz
          subst hz
          have hs' : S.size < 4294967281 := by
            have : S.data.toList.length = S.size := rfl
            omega
          refine (C S w hs' H.fact).mono ?_
          rintro e w' ⟨he, hw⟩
          obtain ⟨a, b⟩ := split_lib _ S.data.toList (Nat.le_refl _)
          have hd : (Lib.splitB ⟨#[32]⟩ 0 (Lib.countB S ⟨#[32]⟩) S).map (·.data.toList) = splitB S.data.toList := (Lib.splitB_data _ _ _ _).trans a
          have hl : (splitB S.data.toList).length = Lib.countB S ⟨#[32]⟩ + 1 := b
          have R' : VRs ι ((splitB S.data.toList).map CVal.str) ((Lib.splitB ⟨#[32]⟩ 0 (Lib.countB S ⟨#[32]⟩) S).map Value.string).toArray.toList := by
            rw [← hd, List.map_map]
            exact VRs.strs _
          have nr := (H.newRow (P := P) (elem := T) R' (strs_one _)).2
          refine ⟨ι.put h.next (w.heap.size, 0, 0), _, ι.le_put h.next _ (H.fresh h.next (Nat.le_refl _)).1, he, ?_, ?_⟩
          · subst hw; exact nr
          · rw [← hl]
            exact .slice h.next 0 _ _ w.heap.size 0 0 ⟨w.heap.size, 0, none⟩ (Emb.put_same _ _ _) (.inl rfl) (Nat.le_refl _)
    · simp at ev
  · simp at ev

/-! ### Atoi is ParseInt -/
theorem parse10_eq (l : List UInt8) : ∀ acc : Nat, Lib.parseUint10 acc l = Lib.parseUintM (2 ^ 64 - 1) acc l := by
  induction l with
  | nil => intro acc; rfl
  | cons c l ih =>
    intro acc
    rw [Lib.parseUint10, Lib.parseUintM, ih]
    have e : (18446744073709551616 ≤ acc * 10 + (c.toNat - 48)) = (2 ^ 64 - 1 < acc * 10 + (c.toNat - 48)) := propext ⟨fun h => by omega, fun h => by omega⟩
    simp only [e]
theorem atoi_parse (l : List UInt8) : Lib.atoiAll l = Lib.parseIntB 64 l := by
  cases l with
  | nil => rfl
  | cons c r =>
    have m : ∀ l, Lib.parseMag l = Lib.parseUintB 64 l := fun l => by rw [Lib.parseMag, Lib.parseUintB, parse10_eq]
    simp only [Lib.atoiAll, Lib.parseIntB, m]
    rfl
theorem atoiSat_eq (l : List UInt8) : Lib.atoiSat l = Lib.intSat 64 l := by
  unfold Lib.atoiSat Lib.intSat
  rfl

def atoiP : List CVal → Heap → Option (CVal × Heap)
  | [.str s], h => if s.length ≤ 281474976710656 then some (.tuple [.int .i64 (parseV s), .undef], h) else none
  | _, _ => none
theorem atoi_ok {P : Program} {glb : Gl} {f : FuncId} (hb : HasBody P f) {T : TypeId}
    (C0 : ∀ (s : ByteArray) (v : Int) (w : World), s.size ≤ 281474976710656 → Lib.atoiAll s.data.toList = .ok v → glb.fact w → Calls P f #[.string s] w fun e w' => e = .returned (.tuple #[.int .i64 v, .nilIface]) ∧ (w' = w ∨ ∃ t, w' = Lib.bytesWorld w T t))
    (C1 : ∀ (s : ByteArray) (w : World), s.size ≤ 281474976710656 → (∀ v, Lib.atoiAll s.data.toList ≠ .ok v) → Lib.atoiAll s.data.toList ≠ .range → glb.fact w → Calls P f #[.string s] w fun e w' => (∃ x, e = .returned (.tuple #[.int .i64 0, x])) ∧ Below w.heap.size w w')
    (C2 : ∀ (s : ByteArray) (w : World), s.size ≤ 281474976710656 → Lib.atoiAll s.data.toList = .range → glb.fact w → Calls P f #[.string s] w fun e w' => (∃ x, e = .returned (.tuple #[.int .i64 (Lib.atoiSat s.data.toList), x])) ∧ Below w.heap.size w w') :
    PrimOk P glb f atoiP := by
  refine ⟨hb, fun K ι h w args args' v h' hk H R ev => ?_⟩
  obtain ⟨l'⟩ := args'
  simp only at R
  subst hk
  unfold atoiP at ev
  split at ev
  · next s =>
    split at ev
    · next hs =>
      simp only [Option.some.injEq, Prod.mk.injEq] at ev
      obtain ⟨rfl, rfl⟩ := ev
      cases R with
      | cons _ _ x' r' r1 r2 =>
        cases r2
        obtain ⟨S, rfl, rfl⟩ := r1.str_inv
        have hs' : S.size ≤ 281474976710656 := by
          have : S.data.toList.length = S.size := rfl
          omega
        have fin : ∀ {e : Ending} {w' : World} {n : Int}, (∃ x, e = .returned (.tuple #[.int .i64 n, x])) → Keeps (fun b => b < w.heap.size) w w' → ∃ ι' v', ι.le ι' ∧ e = .returned v' ∧ Inv K ι' h w' ∧ VR ι' (.tuple [.int .i64 n, .undef]) v' := by
          rintro e w' n ⟨x, rfl⟩ hk
          exact ⟨ι, _, Emb.le.refl _, rfl, H.later hk, .tuple _ _ (.cons _ _ _ _ (.int _ _) (.cons _ _ _ _ (.undef _) .nil))⟩
        unfold parseV
        rw [← atoi_parse, ← atoiSat_eq]
        cases hq : Lib.atoiAll S.data.toList with
        | ok v =>
          refine (C0 S v w hs' hq H.fact).mono ?_
          rintro e w' ⟨he, hw⟩
          refine fin ⟨_, he⟩ ?_
          rcases hw with rfl | ⟨t, rfl⟩
          · exact ⟨rfl, rfl, rfl, Nat.le_refl _, fun _ _ => rfl⟩
          · exact keeps_of_below (Lib.bytesWorld_below _ _ _)
        | range =>
          refine (C2 S w hs' hq H.fact).mono ?_
          rintro e w' ⟨he, hw⟩
          exact fin he (keeps_of_below hw)
        | _ =>
          refine (C1 S w hs' (fun v h => by rw [hq] at h; cases h) (fun h => by rw [hq] at h; cases h) H.fact).mono ?_
          rintro e w' ⟨he, hw⟩
          exact fin he (keeps_of_below hw)
    · simp at ev
  · simp at ev

/-! ### Maps from strings to numbers -/
def lookS (x : List UInt8) : List (CVal × CVal) → Int
  | [] => 0
  | (.str a, .int _ b) :: es => if x = a then b else lookS x es
  | _ :: es => lookS x es
def StrMap (es : List (CVal × CVal)) : Prop := ∀ e ∈ es, ∃ a b, e = (.str a, .int .i64 b)
theorem findK_str {x : List UInt8} : ∀ {es : List (CVal × CVal)} (i : Nat), StrMap es →
    (findK (.one .str) (.str x) es i = some none ∧ lookS x es = 0 ∧ ∀ z, StrMap (es ++ [(.str x, .int .i64 z)]) ∧ ∀ y, lookS y (es ++ [(.str x, .int .i64 z)]) = if y = x then z else lookS y es) ∨
    ∃ j, findK (.one .str) (.str x) es i = some (some (i + j, .int .i64 (lookS x es))) ∧ ∀ z, StrMap (es.set j (.str x, .int .i64 z)) ∧ ∀ y, lookS y (es.set j (.str x, .int .i64 z)) = if y = x then z else lookS y es
  | [], i, _ => .inl ⟨rfl, rfl, fun z => ⟨fun e m => by simp at m; exact ⟨x, z, m⟩, fun y => rfl⟩⟩
  | e :: es, i, h => by
    obtain ⟨a, b, rfl⟩ := h e (List.mem_cons_self ..)
    have hes : StrMap es := fun e m => h e (List.mem_cons_of_mem _ m)
    by_cases hx : x = a
    · subst hx
      refine .inr ⟨0, ?_, fun z => ⟨fun e m => ?_, fun y => ?_⟩⟩
      · simp [findK, keyeq, peq, lookS]
      · simp at m
        rcases m with rfl | m
        · exact ⟨x, z, rfl⟩
        · exact hes e m
      · simp only [List.set_cons_zero, lookS]
        split <;> simp_all
    · have hk : keyeq (.one .str) (.str x) (.str a) = some false := by simp [keyeq, peq, hx]
      rcases findK_str (x := x) (i + 1) hes with ⟨f, l, u⟩ | ⟨j, f, u⟩
      · refine .inl ⟨by simp only [findK, hk, f], by simp only [lookS, if_neg hx, l], fun z => ⟨fun e m => ?_, fun y => ?_⟩⟩
        · rcases List.mem_cons.1 m with rfl | m
          · exact ⟨a, b, rfl⟩
          · exact (u z).1 e m
        · simp only [List.cons_append, lookS, (u z).2 y]
          by_cases hy : y = x
          · subst hy; simp [hx]
          · simp [hy]
      · refine .inr ⟨j + 1, by simp only [findK, hk, f, lookS, if_neg hx]; congr 3; omega, fun z => ⟨fun e m => ?_, fun y => ?_⟩⟩
        · rcases List.mem_cons.1 m with rfl | m
          · exact ⟨a, b, rfl⟩
          · exact (u z).1 e m
        · simp only [List.set_cons_succ, lookS, (u z).2 y]
          by_cases hy : y = x
          · subst hy; simp [hx]
          · simp [hy]
theorem LKN.str {x : List UInt8} {es : List (CVal × CVal)} {K : CVal → Prop} (h : StrMap es) (k : K (.int .i64 (lookS x es))) : LKN (.one .str) (.int .i64 0) false (.str x) es K := by
  rcases findK_str (x := x) 0 h with ⟨f, l, _⟩ | ⟨j, f, _⟩
  · rw [l] at k; exact .mk f k
  · exact .mk f k
theorem UPN.str {x : List UInt8} {z : Int} {i : Nat} {es : List (CVal × CVal)} {st : Option (List Nat × Nat)} {hh : Heap} {K : Heap → Prop} (h : StrMap es) (k : ∀ es' st', StrMap es' → (∀ y, lookS y es' = if y = x then z else lookS y es) → K (hh.set i (.map es' true st'))) : UPN (.one .str) i (.str x) (.int .i64 z) es st hh K := by
  rcases findK_str (x := x) 0 h with ⟨f, _, u⟩ | ⟨j, f, u⟩
  · exact .mk f (k _ _ (u z).1 (u z).2)
  · exact .mk f (by simp only [Nat.zero_add]; exact k _ _ (u z).1 (u z).2)
theorem mapC_is {h : Heap} {p : Nat} {es : List (CVal × CVal)} {wr : Bool} {st : Option (List Nat × Nat)} (g : h.get p = some (.map es wr st)) : mapC h (.map p) = some es := by simp only [mapC, g]

/-- A part of an array. -/
theorem OPN.cut {N : Nat} {ρ : Env} {h : Heap} {n sz q i o : Nat} {X Y : CX} {k : IntKind} {b : Int} {vs : List CVal} {wr : Bool} {K : CVal → Heap → Prop} (hx : X.on N ρ = .ptr i o) (hy : Y.on N ρ = .int k b) (g : h.get i = some (.cells vs wr none)) (hb : b = q) (hq : q ≤ n) (q' : K (.slice i o q n) h) :
    OPN N (.sliceArr n sz X none (some Y) none) ρ h K := by
  refine .mk (v := .slice i o q n) (h' := h) ?_ q'
  have e := bounds0 (len := n) (k := k) hb hq
  simp only [cop, CX.on_ev, hx, Option.map_none, Option.map_some, hy, e, exactC, g]
  simp
end Go.Proofs.YtlggkknkbbhooaaGreat.Cm

/-
  The clean machine, part YN: numbers as they must be written; words put together again.
-/
namespace Go.Proofs.YtlggkknkbbhooaaGreat.Cm
open Go.RowKit Go.IntWalk

theorem decC_length : ∀ k u, (decC k u).length ≤ k
  | 0, _ => Nat.le_refl _
  | k + 1, u => by
    rw [decC]
    split
    · simp
    · have := decC_length k (u / 10); simp; omega
theorem itoa_length {n : Int} (h0 : -9223372036854775808 ≤ n) (h1 : n ≤ 9223372036854775807) : (Lib.itoa n).length ≤ 21 := by
  rw [← itoaC_eq h0 h1]
  unfold itoaC
  cases n with
  | ofNat u => have := decC_length 20 u; simp only; omega
  | negSucc u => have := decC_length 20 (u + 1); simp only [List.length_cons]; omega
theorem parseV_range (s : List UInt8) : -9223372036854775808 ≤ parseV s ∧ parseV s ≤ 9223372036854775807 := by
  unfold parseV
  split
  · next v hv =>
    unfold Lib.parseIntB at hv
    split at hv
    · cases hv
    · simp only at hv
      split at hv
      · cases hv
      · cases hv
      · split at hv
        · cases hv
        · split at hv
          · cases hv
          · simp only [Lib.NumEnd.ok.injEq] at hv
            subst hv
            split <;> omega
  · unfold Lib.intSat
    split <;> simp
  · simp

instance (c : UInt8) : Decidable (isDig c) := by unfold isDig; infer_instance
/-- A number below 0, digit by digit. -/
def negs (n : Int) : List UInt8 → Option Int
  | [] => some n
  | c :: l => if isDig c ∧ -9223372036854775808 ≤ 10 * n - ((c.toNat : Int) - 48) then negs (10 * n - ((c.toNat : Int) - 48)) l else none
/-- The digits d, behind a sign or not; 'one': the text is "0". -/
def numD (neg one : Bool) (d : List UInt8) : Option Int := match d with
  | [] => none
  | c :: l => if 19 < (c :: l).length ∨ (c = 48 ∧ one = false) then none else match negs 0 (c :: l) with
    | none => none
    | some n => if neg then some n else if n = -9223372036854775808 then none else some (0 - n)
def refNum : List UInt8 → Option Int
  | [] => none
  | c :: r => if c = 45 then numD true false r else numD false (decide (c :: r = [48])) (c :: r)
def resNum : Option Int → CVal
  | some n => .tuple [.int .i64 n, .bool true]
  | none => .tuple [.int .i64 0, .bool false]

theorem QUON.neg {a b : Int} {K : Int → Prop} (h : -9223372036854775808 ≤ a ∧ a ≤ 0 ∧ 2 ≤ b) (k : K (-(-a / b))) : QUON .i64 a b K := by
  have e : a.tdiv b = -(-a / b) := by
    rw [← Int.tdiv_eq_ediv_of_nonneg (show 0 ≤ -a by omega), Int.neg_tdiv, Int.neg_neg]
  have d0 : 0 ≤ -a / b := Int.ediv_nonneg (by omega) (by omega)
  have d1 : -a / b ≤ -a := Int.ediv_le_self _ (by omega)
  refine ⟨by omega, ?_⟩
  rw [e, i64_in _ (by omega)]
  exact k

theorem u8_48 {b : UInt8} : b = 48 ↔ b.toNat = 48 := by rw [← UInt8.toNat_inj]; exact Iff.rfl
theorem u8_45 {b : UInt8} : b = 45 ↔ b.toNat = 45 := by rw [← UInt8.toNat_inj]; exact Iff.rfl

theorem negs_cons {n : Int} {c : UInt8} {l : List UInt8} : negs n (c :: l) = if isDig c ∧ -9223372036854775808 ≤ 10 * n - ((c.toNat : Int) - 48) then negs (10 * n - ((c.toNat : Int) - 48)) l else none := by rw [negs]
theorem negs_some (l : List UInt8) : ∀ (m : Nat) (n : Int), (m : Int) ≤ 9223372036854775808 → negs (-(m : Int)) l = some n → (∀ c ∈ l, isDig c) ∧ n = -(val m l : Int) ∧ -9223372036854775808 ≤ n := by
  induction l with
  | nil =>
    intro m n hm h
    rw [negs] at h
    simp only [Option.some.injEq] at h
    subst h
    exact ⟨fun c hc => by simp at hc, rfl, by omega⟩
  | cons c l ih =>
    intro m n hm h
    rw [negs_cons] at h
    split at h
    · next hc =>
      have hd := hc.1
      unfold isDig at hd
      have e : 10 * -(m : Int) - ((c.toNat : Int) - 48) = -((m * 10 + (c.toNat - 48) : Nat) : Int) := by omega
      rw [e] at h hc
      obtain ⟨h1, h2, h3⟩ := ih _ n (by omega) h
      refine ⟨fun x hx => ?_, h2, h3⟩
      rcases List.mem_cons.1 hx with rfl | hx
      · exact hc.1
      · exact h1 x hx
    · simp at h
theorem negs_of (l : List UInt8) : ∀ m : Nat, (∀ c ∈ l, isDig c) → val m l ≤ 9223372036854775808 → negs (-(m : Int)) l = some (-(val m l : Int)) := by
  induction l with
  | nil => intro m _ _; rfl
  | cons c l ih =>
    intro m hd hv
    have h0 := hd c (List.mem_cons_self ..)
    have h0' := h0
    unfold isDig at h0
    rw [val_cons] at hv
    have hg := val_ge l (m * 10 + (c.toNat - 48))
    have e : 10 * -(m : Int) - ((c.toNat : Int) - 48) = -((m * 10 + (c.toNat - 48) : Nat) : Int) := by omega
    rw [negs_cons, e, if_pos ⟨h0', by omega⟩, ih _ (fun x hx => hd x (List.mem_cons_of_mem _ hx)) hv, val_cons]

theorem refNum_some {w : List UInt8} {n : Int} (h : refNum w = some n) : w = Lib.itoa n ∧ -9223372036854775808 ≤ n ∧ n ≤ 9223372036854775807 := by
  have dig : ∀ {neg one : Bool} {d : List UInt8} {x : Int}, numD neg one d = some x → ∃ c l y, d = c :: l ∧ ¬ (19 < (c :: l).length ∨ (c = 48 ∧ one = false)) ∧ (∀ q ∈ c :: l, isDig q) ∧ y = -(val 0 (c :: l) : Int) ∧ -9223372036854775808 ≤ y ∧ (if neg then some y else if y = -9223372036854775808 then none else some (0 - y)) = some x := by
    intro neg one d x h
    cases d with
    | nil => simp [numD] at h
    | cons c l =>
      rw [numD] at h
      split at h
      · simp at h
      · next hc =>
        cases hq : negs 0 (c :: l) with
        | none => rw [hq] at h; simp at h
        | some y =>
          rw [hq] at h
          obtain ⟨h1, h2, h3⟩ := negs_some (c :: l) 0 y (by omega) hq
          exact ⟨c, l, y, rfl, hc, h1, h2, h3, h⟩
  cases w with
  | nil => simp [refNum] at h
  | cons c r =>
    rw [refNum] at h
    split at h
    · next hc =>
      subst hc
      obtain ⟨c, l, y, rfl, h1, h2, h3, h4, h5⟩ := dig h
      simp only [if_true, Option.some.injEq] at h5
      subst h5
      have c48 : c ≠ 48 := fun e => h1 (.inr ⟨e, rfl⟩)
      have e := decDigits_of h2 c48
      have pos : val 0 (c :: l) ≠ 0 := fun e0 => by
        rw [e0, decDigits_zero] at e
        exact c48 (List.cons.inj e).1.symm
      refine ⟨?_, h4, by omega⟩
      rw [Lib.itoa, if_pos (by omega), show y.natAbs = val 0 (c :: l) by omega, e]
    · next hc =>
      obtain ⟨c', l, y, e', h1, h2, h3, h4, h5⟩ := dig h
      obtain ⟨rfl, rfl⟩ := List.cons.inj e'
      simp only [Bool.false_eq_true, if_false] at h5
      split at h5
      · simp at h5
      · next hy =>
        simp only [Option.some.injEq] at h5
        subst h5
        refine ⟨?_, by omega, by omega⟩
        rw [Lib.itoa, if_neg (by omega), show (0 - y).toNat = val 0 (c :: r) by omega]
        by_cases c48 : c = 48
        · by_cases hz : c :: r = [48]
          · rw [hz]
            exact decDigits_zero.symm
          · exact (h1 (.inr ⟨c48, decide_eq_false hz⟩)).elim
        · exact (decDigits_of h2 c48).symm

theorem decDigits_short {u : Nat} (h : u < 10 ^ 19) : (Lib.decDigits u).length ≤ 19 := by
  rw [← decC_eq 19 u (by omega) h]
  exact decC_length 19 u
theorem refNum_itoa {n : Int} (h0 : -9223372036854775808 ≤ n) (h1 : n ≤ 9223372036854775807) : refNum (Lib.itoa n) = some n := by
  rw [Lib.itoa]
  split
  · next hn =>
    obtain ⟨c, l, e, hc⟩ := decDigits_head n.natAbs
    have hs := decDigits_short (u := n.natAbs) (by omega)
    have hd := decDigits_dig n.natAbs
    have hv := decDigits_val n.natAbs
    rw [e] at hs hd hv ⊢
    have ng := negs_of (c :: l) 0 hd (by omega)
    rw [refNum, if_pos rfl, numD, if_neg]
    · rw [show (-((0 : Nat) : Int)) = 0 from rfl] at ng
      rw [ng, hv]
      simp only [if_true, Option.some.injEq]
      omega
    · rintro (h | ⟨h, _⟩)
      · omega
      · have := hc h; omega
  · next hn =>
    obtain ⟨c, l, e, hc⟩ := decDigits_head n.toNat
    have hs := decDigits_short (u := n.toNat) (by omega)
    have hd := decDigits_dig n.toNat
    have hv := decDigits_val n.toNat
    rw [e] at hs hd hv ⊢
    have ng := negs_of (c :: l) 0 hd (by omega)
    have h0 := hd c (List.mem_cons_self ..)
    unfold isDig at h0
    rw [refNum, if_neg (fun e => by have := u8_45.1 e; omega), numD, if_neg]
    · rw [show (-((0 : Nat) : Int)) = 0 from rfl] at ng
      rw [ng, hv]
      simp only [Bool.false_eq_true, if_false]
      rw [if_neg (by omega)]
      simp only [Option.some.injEq]
      omega
    · rintro (h | ⟨h, h'⟩)
      · omega
      · have h2 := hc h
        rw [h2, decDigits_zero] at e
        rw [← e] at h'
        simp at h'
theorem refNum_eq (w : List UInt8) : refNum w = if Lib.itoa (parseV w) = w then some (parseV w) else none := by
  have r := parseV_range w
  split
  · next h =>
    have := refNum_itoa r.1 r.2
    rwa [h] at this
  · next h =>
    cases hq : refNum w with
    | none => rfl
    | some n =>
      obtain ⟨e, h0, h1⟩ := refNum_some hq
      exfalso
      apply h
      rw [e, parseV_itoa h0 h1]

/-- The words, put together again. -/
def unB : List (List UInt8) → List UInt8
  | [] => []
  | [w] => w
  | w :: ws => w ++ 32 :: unB ws
theorem unB_cons {w : List UInt8} {ws : List (List UInt8)} (h : ws ≠ []) : unB (w :: ws) = w ++ 32 :: unB ws := by
  cases ws with
  | nil => exact (h rfl).elim
  | cons => rfl
theorem unB_split (s : List UInt8) : unB (splitB s) = s := by
  induction s with
  | nil => rfl
  | cons c s ih =>
    rw [splitB]
    split
    · next h => rw [unB_cons (splitB_ne s), ih, h]; rfl
    · next h =>
      cases hq : splitB s with
      | nil => exact (splitB_ne s hq).elim
      | cons w ws =>
        rw [hq] at ih
        rw [← ih]
        cases ws with
        | nil => rfl
        | cons => rfl

theorem splitB_mem : ∀ {s w : List UInt8}, w ∈ splitB s → w.length ≤ s.length
  | [], w, h => by simp [splitB] at h; simp [h]
  | c :: s, w, h => by
    unfold splitB at h
    split at h
    · rcases List.mem_cons.1 h with rfl | h
      · simp
      · have := splitB_mem h; simp; omega
    · cases hq : splitB s with
      | nil => exact (splitB_ne s hq).elim
      | cons x xs =>
        rw [hq] at h
        rcases List.mem_cons.1 h with rfl | h
        · have : x ∈ splitB s := by rw [hq]; exact List.mem_cons_self ..
          have := splitB_mem this
          simp; omega
        · have : w ∈ splitB s := by rw [hq]; exact List.mem_cons_of_mem _ h
          have := splitB_mem this
          simp; omega

end Go.Proofs.YtlggkknkbbhooaaGreat.Cm

/-
  The clean machine, part YO: strings.Fields of a text below 128 and strings.IndexByte as known from their contracts.
-/
namespace Go.Proofs.YtlggkknkbbhooaaGreat.Cm
open Go.RowKit

def asciiB (s : List UInt8) : Bool := s.all fun b => b.toNat < 128
def fieldsP : List CVal → Heap → Option (CVal × Heap)
  | [.str s], h => if asciiB s = true ∧ s.length ≤ 1000000 then some (.slice h.next 0 (Lib.fields s).length (Lib.fields s).length, h.new (.cells ((Lib.fields s).map .str) true none)) else none
  | _, _ => none

theorem VRs.strsL {ι : Emb} : ∀ l : List (List UInt8), VRs ι (l.map CVal.str) (l.map fun x => Value.string ⟨x.toArray⟩)
  | [] => .nil
  | s :: l => .cons _ _ _ _ (by have := VR.str (ι := ι) ⟨s.toArray⟩; simpa using this) (VRs.strsL l)

theorem fields_ok {P : Program} {glb : Gl} {f : FuncId} (hb : HasBody P f) {T : TypeId}
    (C : ∀ (s : ByteArray) (w : World), s.size < 4294967281 → (∀ (j : Nat) b, s.data.toList[j]? = some b → b.toNat < 128) → glb.fact w → Calls P f #[.string s] w fun e w' =>
      e = .returned (.slice (some ⟨w.heap.size, 0, none⟩) (Lib.fields s.data.toList).length (Lib.fields s.data.toList).length) ∧ w' = w.alloc (.cells ((Lib.fields s.data.toList).map fun l => Value.string ⟨l.toArray⟩).toArray T)) : PrimOk P glb f fieldsP := by
  refine ⟨hb, fun K ι h w args args' v h' hk H R ev => ?_⟩
  obtain ⟨l'⟩ := args'
  simp only at R
  subst hk
  unfold fieldsP at ev
  split at ev
  · next s =>
    split at ev
    · next hn =>
      obtain ⟨ha, hs⟩ := hn
      simp only [Option.some.injEq, Prod.mk.injEq] at ev
      obtain ⟨rfl, rfl⟩ := ev
      cases R with
      | cons _ _ x' r' r1 r2 =>
        cases r2
        obtain ⟨S, rfl, rfl⟩ := r1.str_inv
        have hs' : S.size < 4294967281 := by
          have : S.data.toList.length = S.size := rfl
          omega
        have ha' : ∀ (j : Nat) b, S.data.toList[j]? = some b → b.toNat < 128 := fun j b hj => by
          have := List.all_eq_true.1 ha b (List.mem_of_getElem? hj)
          simpa using this
        refine (C S w hs' ha' H.fact).mono ?_
        rintro e w' ⟨he, hw⟩
        have R' : VRs ι ((Lib.fields S.data.toList).map CVal.str) ((Lib.fields S.data.toList).map fun l => Value.string ⟨l.toArray⟩).toArray.toList := VRs.strsL _
        have nr := (H.newRow (P := P) (elem := T) R' (strs_one _)).2
        refine ⟨ι.put h.next (w.heap.size, 0, 0), _, ι.le_put h.next _ (H.fresh h.next (Nat.le_refl _)).1, he, ?_, ?_⟩
        · subst hw; exact nr
        · exact .slice h.next 0 _ _ w.heap.size 0 0 ⟨w.heap.size, 0, none⟩ (Emb.put_same _ _ _) (.inl rfl) (Nat.le_refl _)
    · simp at ev
  · simp at ev

def indexP : List CVal → Heap → Option (CVal × Heap)
  | [.str s, .int .u8 c], h => some (.int .i64 (Lib.indexByte s c.toNat.toUInt8), h)
  | _, _ => none
theorem index_ok {P : Program} {glb : Gl} {f : FuncId} (hb : HasBody P f)
    (C : ∀ (s : ByteArray) (c : Int) (w : World), Calls P f #[.string s, .int .u8 c] w fun e w' => e = .returned (.int .i64 (Lib.indexByte s.data.toList c.toNat.toUInt8)) ∧ w' = w) : PrimOk P glb f indexP := by
  refine ⟨hb, fun K ι h w args args' v h' hk H R ev => ?_⟩
  obtain ⟨l'⟩ := args'
  simp only at R
  unfold indexP at ev
  split at ev
  · next s c =>
    simp only [Option.some.injEq, Prod.mk.injEq] at ev
    obtain ⟨rfl, rfl⟩ := ev
    cases R with
    | cons _ _ x' r' r1 r2 =>
      cases r2 with
      | cons _ _ y' r'' r3 r4 =>
        cases r4
        obtain ⟨S, rfl, rfl⟩ := r1.str_inv
        rw [r3.int_inv]
        refine (C S c w).mono ?_
        rintro e w' ⟨he, rfl⟩
        exact ⟨ι, _, Emb.le.refl _, he, H, .int _ _⟩
  · simp at ev

/-- strconv.Atoi, with whether there is an error. -/
def atoiE (T : TypeId) : List CVal → Heap → Option (CVal × Heap)
  | [.str s], h => if s.length ≤ 281474976710656 then (match Lib.atoiAll s with
    | .ok v => some (.tuple [.int .i64 v, .nilIface], h)
    | .range => some (.tuple [.int .i64 (Lib.atoiSat s), .iface T .undef], h)
    | _ => some (.tuple [.int .i64 0, .iface T .undef], h)) else none
  | _, _ => none
theorem atoiE_ok {P : Program} {glb : Gl} {f : FuncId} (hb : HasBody P f) {T U : TypeId}
    (C0 : ∀ (s : ByteArray) (v : Int) (w : World), s.size ≤ 281474976710656 → Lib.atoiAll s.data.toList = .ok v → glb.fact w → Calls P f #[.string s] w fun e w' => e = .returned (.tuple #[.int .i64 v, .nilIface]) ∧ (w' = w ∨ ∃ t, w' = Lib.bytesWorld w U t))
    (C1 : ∀ (s : ByteArray) (w : World), s.size ≤ 281474976710656 → (∀ v, Lib.atoiAll s.data.toList ≠ .ok v) → Lib.atoiAll s.data.toList ≠ .range → glb.fact w → Calls P f #[.string s] w fun e w' => (∃ x, e = .returned (.tuple #[.int .i64 0, .iface T x])) ∧ Below w.heap.size w w')
    (C2 : ∀ (s : ByteArray) (w : World), s.size ≤ 281474976710656 → Lib.atoiAll s.data.toList = .range → glb.fact w → Calls P f #[.string s] w fun e w' => (∃ x, e = .returned (.tuple #[.int .i64 (Lib.atoiSat s.data.toList), .iface T x])) ∧ Below w.heap.size w w') :
    PrimOk P glb f (atoiE T) := by
  refine ⟨hb, fun K ι h w args args' v h' hk H R ev => ?_⟩
  obtain ⟨l'⟩ := args'
  simp only at R
  subst hk
  unfold atoiE at ev
  split at ev
  · next s =>
    split at ev
    · next hs =>
      cases R with
      | cons _ _ x' r' r1 r2 =>
        cases r2
        obtain ⟨S, rfl, rfl⟩ := r1.str_inv
        have hs' : S.size ≤ 281474976710656 := by
          have : S.data.toList.length = S.size := rfl
          omega
        have fin : ∀ {e : Ending} {w' : World} {n : Int}, (∃ x, e = .returned (.tuple #[.int .i64 n, .iface T x])) → Keeps (fun b => b < w.heap.size) w w' → ∃ ι' v', ι.le ι' ∧ e = .returned v' ∧ Inv K ι' h w' ∧ VR ι' (.tuple [.int .i64 n, .iface T .undef]) v' := by
          rintro e w' n ⟨x, rfl⟩ hk
          exact ⟨ι, _, Emb.le.refl _, rfl, H.later hk, .tuple _ _ (.cons _ _ _ _ (.int _ _) (.cons _ _ _ _ (.iface _ _ _ (.undef _)) .nil))⟩
        cases hq : Lib.atoiAll S.data.toList with
        | ok n =>
          simp only [hq, Option.some.injEq, Prod.mk.injEq] at ev
          obtain ⟨rfl, rfl⟩ := ev
          refine (C0 S n w hs' hq H.fact).mono ?_
          rintro e w' ⟨he, hw⟩
          refine ⟨ι, _, Emb.le.refl _, he, H.later ?_, .tuple _ _ (.cons _ _ _ _ (.int _ _) (.cons _ _ _ _ .nilIface .nil))⟩
          rcases hw with rfl | ⟨t, rfl⟩
          · exact ⟨rfl, rfl, rfl, Nat.le_refl _, fun _ _ => rfl⟩
          · exact keeps_of_below (Lib.bytesWorld_below _ _ _)
        | range =>
          simp only [hq, Option.some.injEq, Prod.mk.injEq] at ev
          obtain ⟨rfl, rfl⟩ := ev
          refine (C2 S w hs' hq H.fact).mono ?_
          rintro e w' ⟨he, hw⟩
          exact fin he (keeps_of_below hw)
        | _ =>
          simp only [hq, Option.some.injEq, Prod.mk.injEq] at ev
          obtain ⟨rfl, rfl⟩ := ev
          refine (C1 S w hs' (fun v h => by rw [hq] at h; cases h) (fun h => by rw [hq] at h; cases h) H.fact).mono ?_
          rintro e w' ⟨he, hw⟩
          exact fin he (keeps_of_below hw)
    · simp at ev
  · simp at ev

/-! ### Maps from strings to yes or no -/
def lookB (x : List UInt8) : List (CVal × CVal) → Bool
  | [] => false
  | (.str a, .bool b) :: es => if x = a then b else lookB x es
  | _ :: es => lookB x es
def BoolMap (es : List (CVal × CVal)) : Prop := ∀ e ∈ es, ∃ a b, e = (.str a, .bool b)
theorem findK_bool {x : List UInt8} : ∀ {es : List (CVal × CVal)} (i : Nat), BoolMap es →
    (findK (.one .str) (.str x) es i = some none ∧ lookB x es = false ∧ ∀ z, BoolMap (es ++ [(.str x, .bool z)]) ∧ ∀ y, lookB y (es ++ [(.str x, .bool z)]) = if y = x then z else lookB y es) ∨
    ∃ j, findK (.one .str) (.str x) es i = some (some (i + j, .bool (lookB x es))) ∧ ∀ z, BoolMap (es.set j (.str x, .bool z)) ∧ ∀ y, lookB y (es.set j (.str x, .bool z)) = if y = x then z else lookB y es
  | [], i, _ => .inl ⟨rfl, rfl, fun z => ⟨fun e m => by simp at m; exact ⟨x, z, m⟩, fun y => rfl⟩⟩
  | e :: es, i, h => by
    obtain ⟨a, b, rfl⟩ := h e (List.mem_cons_self ..)
    have hes : BoolMap es := fun e m => h e (List.mem_cons_of_mem _ m)
    by_cases hx : x = a
    · subst hx
      refine .inr ⟨0, ?_, fun z => ⟨fun e m => ?_, fun y => ?_⟩⟩
      · simp [findK, keyeq, peq, lookB]
      · simp at m
        rcases m with rfl | m
        · exact ⟨x, z, rfl⟩
        · exact hes e m
      · simp only [List.set_cons_zero, lookB]
        split <;> simp_all
    · have hk : keyeq (.one .str) (.str x) (.str a) = some false := by simp [keyeq, peq, hx]
      rcases findK_bool (x := x) (i + 1) hes with ⟨f, l, u⟩ | ⟨j, f, u⟩
      · refine .inl ⟨by simp only [findK, hk, f], by simp only [lookB, if_neg hx, l], fun z => ⟨fun e m => ?_, fun y => ?_⟩⟩
        · rcases List.mem_cons.1 m with rfl | m
          · exact ⟨a, b, rfl⟩
          · exact (u z).1 e m
        · simp only [List.cons_append, lookB, (u z).2 y]
          by_cases hy : y = x
          · subst hy; simp [hx]
          · simp [hy]
      · refine .inr ⟨j + 1, by simp only [findK, hk, f, lookB, if_neg hx]; congr 3; omega, fun z => ⟨fun e m => ?_, fun y => ?_⟩⟩
        · rcases List.mem_cons.1 m with rfl | m
          · exact ⟨a, b, rfl⟩
          · exact (u z).1 e m
        · simp only [List.set_cons_succ, lookB, (u z).2 y]
          by_cases hy : y = x
          · subst hy; simp [hx]
          · simp [hy]
theorem LKN.bool {x : List UInt8} {es : List (CVal × CVal)} {K : CVal → Prop} (h : BoolMap es) (k : K (.bool (lookB x es))) : LKN (.one .str) (.bool false) false (.str x) es K := by
  rcases findK_bool (x := x) 0 h with ⟨f, l, _⟩ | ⟨j, f, _⟩
  · rw [l] at k; exact .mk f k
  · exact .mk f k
theorem UPN.bool {x : List UInt8} {z : Bool} {i : Nat} {es : List (CVal × CVal)} {st : Option (List Nat × Nat)} {hh : Heap} {K : Heap → Prop} (h : BoolMap es) (k : ∀ es' st', BoolMap es' → (∀ y, lookB y es' = if y = x then z else lookB y es) → K (hh.set i (.map es' true st'))) : UPN (.one .str) i (.str x) (.bool z) es st hh K := by
  rcases findK_bool (x := x) 0 h with ⟨f, _, u⟩ | ⟨j, f, u⟩
  · exact .mk f (k _ _ (u z).1 (u z).2)
  · exact .mk f (by simp only [Nat.zero_add]; exact k _ _ (u z).1 (u z).2)

/-- A great build, told once. -/
theorem Cal.run2 {T : Tab} {f : FuncId} {fn : CFunc} {args : List CVal} {h : Heap} {Q : CVal → Heap → Prop} (hp : T.prim f = none) (hf : T.code f = some fn) (hl : Nat.ble args.length fn.ntmps = true) (k : wC T fn.ntmps fn.code (argsE args) [] h (endE T fn.ntmps fn.results Q)) : Cal T f args h Q := by
  cases fn
  exact Cal.run hp hf rfl hl k
theorem wC_buildS {T : Tab} {N : Nat} {d0 d : Option Nat} {v0 : List UInt8} {zero : List CVal} {parts : List (Nat × Nat × CX)} {os : List COper} {y : CCode} {ρ : Env} {ds : DS} {h : Heap} {Q : QT} {cs : List CVal}
    (e : fillC zero (parts.map fun p => (p.1, p.2.1, p.2.2.on N (ρ.putO d0 (.str v0)))) = some cs) (k : wC T N (.seq (.region os) y) ((ρ.putO d0 (.str v0)).putO d (.agg cs)) ds h Q) :
    wC T N (.seq (.region [⟨d0, .move (.c (.str v0)), none⟩]) (.seq (.region (⟨d, .build zero parts, none⟩ :: os)) y)) ρ ds h Q := by
  show SM (fillC zero (parts.map fun p => (p.1, p.2.1, p.2.2.on N (ρ.putO d0 (.str v0))))) _
  refine SM.of e ?_
  exact argsK_any k
theorem wC_buildB {T : Tab} {N : Nat} {d0 d : Option Nat} {v0 : Bool} {zero : List CVal} {parts : List (Nat × Nat × CX)} {os : List COper} {y : CCode} {ρ : Env} {ds : DS} {h : Heap} {Q : QT} {cs : List CVal}
    (e : fillC zero (parts.map fun p => (p.1, p.2.1, p.2.2.on N (ρ.putO d0 (.bool v0)))) = some cs) (k : wC T N (.seq (.region os) y) ((ρ.putO d0 (.bool v0)).putO d (.agg cs)) ds h Q) :
    wC T N (.seq (.region [⟨d0, .move (.c (.bool v0)), none⟩]) (.seq (.region (⟨d, .build zero parts, none⟩ :: os)) y)) ρ ds h Q := by
  show SM (fillC zero (parts.map fun p => (p.1, p.2.1, p.2.2.on N (ρ.putO d0 (.bool v0))))) _
  refine SM.of e ?_
  exact argsK_any k
theorem at_strs {l : List (List UInt8)} {k : Nat} (hk : k < l.length) : (l.map CVal.str)[0 + ((k : Nat) : Int).toNat * 1]? = some (.str (l.getD k [])) := by
  rw [Int.toNat_natCast, Nat.zero_add, Nat.mul_one, List.getElem?_map, List.getElem?_eq_getElem hk]
  simp [List.getD, hk]
end Go.Proofs.YtlggkknkbbhooaaGreat.Cm

/-
  The clean machine, part YP: how a source's tokens are found, by numbers and lists alone.
-/
namespace Go.Proofs.YtlggkknkbbhooaaGreat.Cm
open Go.RowKit

/-- A token. -/
structure Tok where
  kind : Int
  at_ : Int
  num : Int
  text : List UInt8
deriving DecidableEq, Inhabited

def Tok.cs (t : Tok) : List CVal := [.int .i64 t.kind, .int .i64 t.at_, .int .i64 t.num, .str t.text]
theorem Tok.cs_length (t : Tok) : t.cs.length = 4 := rfl

/-- With how many bytes that are so a text begins. -/
def runB (p : UInt8 → Bool) (r : List UInt8) : Nat := (r.takeWhile p).length
theorem runB_le {p : UInt8 → Bool} : ∀ {r : List UInt8}, runB p r ≤ r.length
  | [] => Nat.le_refl _
  | c :: r => by
    have ih := runB_le (p := p) (r := r)
    rw [runB, List.takeWhile_cons]
    split
    · simp only [List.length_cons]; rw [runB] at ih; omega
    · simp
theorem runB_is {p : UInt8 → Bool} : ∀ {r : List UInt8} {n : Nat}, n ≤ r.length → (∀ j (hj : j < r.length), j < n → p r[j] = true) → (∀ hj : n < r.length, p r[n] = false) → runB p r = n
  | [], n, hn, _, _ => by simp at hn; subst hn; rfl
  | c :: r, 0, _, _, e => by
    have := e (by simp)
    simp at this
    simp [runB, this]
  | c :: r, n + 1, hn, h, e => by
    have h0 := h 0 (by simp) (by omega)
    have ih := runB_is (p := p) (r := r) (n := n) (by simpa using hn) (fun j hj hl => h (j + 1) (by rw [List.length_cons]; omega) (by omega)) (fun hj => e (by rw [List.length_cons]; omega))
    simp at h0
    rw [runB] at ih
    simp [runB, h0, ih]
theorem runB_so {p : UInt8 → Bool} {r : List UInt8} {j : Nat} (h : j < runB p r) (hj : j < r.length) : p r[j] = true := by
  rw [runB] at h
  have e : r[j] = (r.takeWhile p)[j] := by
    have h2 := List.takeWhile_prefix p (l := r)
    exact (h2.getElem h).symm
  rw [e]
  exact List.all_eq_true.1 (List.all_takeWhile (l := r) (p := p)) _ (List.getElem_mem h)
theorem runB_pos {p : UInt8 → Bool} {c : UInt8} {r : List UInt8} (h : p c = true) : 1 ≤ runB p (c :: r) := by simp [runB, h]
theorem runB_take {p : UInt8 → Bool} {r : List UInt8} : ∀ c ∈ r.take (runB p r), p c = true := fun c hc => by
  obtain ⟨j, hj, rfl⟩ := List.getElem_of_mem hc
  rw [List.length_take] at hj
  rw [List.getElem_take]
  exact runB_so (by omega) (by omega)
/-- At another place. -/
theorem runB_at {p : UInt8 → Bool} {s : List UInt8} {a t : Nat} (h1 : a ≤ t) (h2 : t ≤ s.length) (h : ∀ j (hj : j < s.length), a ≤ j → j < t → p s[j] = true) (e : ∀ hj : t < s.length, p s[t] = false) : runB p (s.drop a) = t - a :=
  runB_is (by rw [List.length_drop]; omega) (fun j hj hl => by rw [List.length_drop] at hj; rw [List.getElem_drop]; exact h (a + j) (by omega) (by omega) (by omega))
    (fun hj => by rw [List.length_drop] at hj; rw [List.getElem_drop]; have := e (by omega); simpa [show a + (t - a) = t by omega] using this)

def letB (c : UInt8) : Bool := decide (97 ≤ c.toNat ∧ c.toNat ≤ 122)
def digB (c : UInt8) : Bool := decide (48 ≤ c.toNat ∧ c.toNat ≤ 57)
def ldB (c : UInt8) : Bool := letB c || digB c
def noB (c : UInt8) : Bool := decide (c.toNat ≠ 125)

theorem indexByte_run : ∀ r : List UInt8, Lib.indexByte r 125 = if runB noB r < r.length then (runB noB r : Int) else -1
  | [] => rfl
  | c :: r => by
    have ih := indexByte_run r
    have le := runB_le (p := noB) (r := r)
    by_cases hc : c = 125
    · subst hc
      simp [Lib.indexByte, runB, noB]
    · have hn : noB c = true := by
        rw [noB, decide_eq_true_eq]; intro h; exact hc (UInt8.toNat_inj.1 h)
      have er : runB noB (c :: r) = runB noB r + 1 := by simp [runB, hn]
      have ei : Lib.indexByte (c :: r) 125 = if Lib.indexByte r 125 == -1 then -1 else Lib.indexByte r 125 + 1 := by
        rw [Lib.indexByte, if_neg (by simpa using hc)]
      rw [ei, er, ih, List.length_cons]
      by_cases h : runB noB r < r.length
      · rw [if_pos h, if_pos (show runB noB r + 1 < r.length + 1 by omega), if_neg (by simp)]
        omega
      · rw [if_neg h, if_neg (show ¬ runB noB r + 1 < r.length + 1 by omega)]
        rfl

/-- The number that digits spell, if it is one. -/
def numV (l : List UInt8) : Option Int := if val 0 l ≤ 9223372036854775807 then some (val 0 l : Int) else none
theorem parse10_dig (l : List UInt8) : ∀ acc : Nat, (∀ c ∈ l, isDig c) → acc < 18446744073709551616 → Lib.parseUint10 acc l = if val acc l < 18446744073709551616 then .ok (val acc l) else .range := by
  induction l with
  | nil => intro acc _ ha; rw [val_nil, if_pos ha]; rfl
  | cons c l ih =>
    intro acc hd ha
    have hc := hd c (by simp)
    unfold isDig at hc
    rw [Lib.parseUint10, if_pos hc, val_cons]
    have ge := val_ge l (acc * 10 + (c.toNat - 48))
    by_cases h1 : 1844674407370955162 ≤ acc
    · rw [if_pos h1, if_neg (by omega)]
    · rw [if_neg h1]
      by_cases h2 : 18446744073709551616 ≤ acc * 10 + (c.toNat - 48)
      · rw [if_pos h2, if_neg (by omega)]
      · rw [if_neg h2, ih _ (fun x hx => hd x (by simp [hx])) (by omega)]
theorem atoi_dig {c : UInt8} {l : List UInt8} (hd : ∀ x ∈ c :: l, isDig x) : Lib.atoiAll (c :: l) = match numV (c :: l) with
    | some v => .ok v
    | none => .range := by
  have hc := hd c (by simp)
  unfold isDig at hc
  have e : Lib.parseMag (c :: l) = if val 0 (c :: l) < 18446744073709551616 then .ok (val 0 (c :: l)) else .range := by
    rw [Lib.parseMag, if_neg (by simp), parse10_dig _ 0 hd (by omega)]
  simp only [Lib.atoiAll, numV]
  rw [if_neg (show ¬ (c.toNat = 43 ∨ c.toNat = 45) by omega), e]
  by_cases h1 : val 0 (c :: l) ≤ 9223372036854775807
  · rw [if_pos (show val 0 (c :: l) < 18446744073709551616 by omega), if_pos h1]
    simp only
    rw [if_neg (by omega), if_neg (by omega), if_neg (by omega)]
  · rw [if_neg h1]
    by_cases h2 : val 0 (c :: l) < 18446744073709551616
    · rw [if_pos h2]
      simp only
      rw [if_pos (by omega)]
    · rw [if_neg h2]

/-- The signs. -/
def twos : List (List UInt8) := [[58, 61], [60, 62], [60, 61], [62, 61], [47, 47]]
def ones : List UInt8 := [59, 44, 40, 41, 91, 93, 43, 45, 42, 47, 37, 61, 60, 62, 46]
def signWords : List (List UInt8) := twos ++ ones.map fun b => [b]
def oneB : List UInt8 → List UInt8
  | [] => []
  | c :: _ => if c ∈ ones then [c] else []
def signB (r : List UInt8) : List UInt8 := if r.take 2 ∈ twos then r.take 2 else oneB r
theorem twos_two : ∀ x ∈ twos, x.length = 2 := by decide
theorem sign_hit {r : List UInt8} {i : Nat} (hi : i < signWords.length) (h : signWords[i] <+: r) (hn : ∀ j (hj : j < signWords.length), j < i → ¬ signWords[j] <+: r) : signB r = signWords[i] := by
  have l5 : twos.length = 5 := rfl
  by_cases h5 : i < 5
  · have e : signWords[i] = twos[i]'(by omega) := List.getElem_append_left (by omega)
    have m : signWords[i] ∈ twos := by rw [e]; exact List.getElem_mem _
    have e2 : r.take 2 = signWords[i] := by
      have := List.prefix_iff_eq_take.1 h
      rw [twos_two _ m] at this
      exact this.symm
    rw [signB, if_pos (by rw [e2]; exact m), e2]
  · have hl : i - 5 < (ones.map fun b => [b]).length := by
      have : signWords.length = 20 := rfl
      have : (ones.map fun b => [b]).length = 15 := rfl
      omega
    have e : signWords[i] = (ones.map fun b => [b])[i - 5] := by
      simp only [signWords]; rw [List.getElem_append_right (by omega)]; simp only [l5]
    rw [List.getElem_map] at e
    rw [e] at h
    obtain ⟨t, rfl⟩ := h
    have no : ¬ ([ones[i - 5]'(by simpa using hl)] ++ t).take 2 ∈ twos := fun hm => by
      obtain ⟨j, hj, ej⟩ := List.getElem_of_mem hm
      have e3 : signWords[j]'(by have : signWords.length = 20 := rfl; omega) = twos[j] := List.getElem_append_left hj
      refine hn j (by have : signWords.length = 20 := rfl; omega) (by omega) ?_
      rw [e3, ej]
      exact List.take_prefix _ _
    rw [signB, if_neg no, e]
    rw [List.cons_append, List.nil_append, oneB, if_pos (List.getElem_mem _)]
theorem sign_none {r : List UInt8} (hn : ∀ j (hj : j < signWords.length), ¬ signWords[j] <+: r) : signB r = [] := by
  have no : ∀ x ∈ signWords, ¬ x <+: r := fun x hx => by
    obtain ⟨j, hj, rfl⟩ := List.getElem_of_mem hx
    exact hn j hj
  rw [signB, if_neg fun hm => no _ (by rw [signWords]; exact List.mem_append_left _ hm) (List.take_prefix _ _)]
  cases r with
  | nil => rfl
  | cons c t =>
    rw [oneB, if_neg fun hm => no [c] (by rw [signWords]; exact List.mem_append_right _ (List.mem_map.2 ⟨c, hm, rfl⟩)) ⟨t, rfl⟩]

/-- What stands at a place. -/
inductive Lx where
  | skip (n : Nat)
  | tok (kind num : Int) (text : List UInt8) (n : Nat)
  | bad (code : Int)

def stepB (ws : List (List UInt8)) (r : List UInt8) : Lx := match r with
  | [] => .bad 11
  | c :: _ =>
    if c.toNat = 32 ∨ c.toNat = 9 ∨ c.toNat = 10 ∨ c.toNat = 13 then .skip 1
    else if c.toNat = 123 then (if runB noB r < r.length then .skip (runB noB r + 1) else .bad 11)
    else if c.toNat = 80 ∨ c.toNat = 86 then .tok 3 0 [c] 1
    else if letB c = true then (if r.take (runB ldB r) ∈ ws then .tok 3 0 (r.take (runB ldB r)) (runB ldB r) else if 12 < runB ldB r then .bad 12 else .tok 1 0 (r.take (runB ldB r)) (runB ldB r))
    else if digB c = true then (match numV (r.take (runB digB r)) with
      | some v => .tok 2 v [] (runB digB r)
      | none => .bad 13)
    else if signB r = [] then .bad 11 else .tok 4 0 (signB r) (signB r).length

/-- The tokens, the fault's code, its place. -/
def lex (ws : List (List UInt8)) (s : List UInt8) (at_ : Nat) (out : List Tok) : List Tok × Int × Nat :=
  if h : s.length ≤ at_ then (out ++ [⟨5, s.length, 0, []⟩], 0, 0)
  else match stepB ws (s.drop at_) with
    | .skip n => lex ws s (at_ + max 1 n) out
    | .tok k v t n => lex ws s (at_ + max 1 n) (out ++ [⟨k, at_, v, t⟩])
    | .bad c => ([], c, at_)
termination_by s.length - at_
theorem lex_end {ws : List (List UInt8)} {s : List UInt8} {a : Nat} {out : List Tok} (h : s.length ≤ a) : lex ws s a out = (out ++ [⟨5, s.length, 0, []⟩], 0, 0) := by rw [lex, dif_pos h]
theorem lex_skip {ws : List (List UInt8)} {s : List UInt8} {a n : Nat} {out : List Tok} (h : a < s.length) (e : stepB ws (s.drop a) = .skip n) (hn : 1 ≤ n) : lex ws s a out = lex ws s (a + n) out := by
  rw [lex, dif_neg (by omega), e]; simp only; rw [show max 1 n = n by omega]
theorem lex_tok {ws : List (List UInt8)} {s : List UInt8} {a n : Nat} {k v : Int} {t : List UInt8} {out : List Tok} (h : a < s.length) (e : stepB ws (s.drop a) = .tok k v t n) (hn : 1 ≤ n) : lex ws s a out = lex ws s (a + n) (out ++ [⟨k, a, v, t⟩]) := by
  rw [lex, dif_neg (by omega), e]; simp only; rw [show max 1 n = n by omega]
theorem lex_bad {ws : List (List UInt8)} {s : List UInt8} {a : Nat} {c : Int} {out : List Tok} (h : a < s.length) (e : stepB ws (s.drop a) = .bad c) : lex ws s a out = ([], c, a) := by
  rw [lex, dif_neg (by omega), e]
end Go.Proofs.YtlggkknkbbhooaaGreat.Cm

/-
  The clean machine, part YQ: rows of tokens; bytes that come in; a text's bytes, one by one.
-/
namespace Go.Proofs.YtlggkknkbbhooaaGreat.Cm
open Go.RowKit

theorem Tok.cs_inj {e f : Tok} (h : e.cs = f.cs) : e = f := by
  cases e; cases f
  simp [Tok.cs] at h
  simp [h]
/-- A row of them that can be read. -/
def RTok (h : Heap) (v : CVal) (E : List Tok) : Prop :=
  (v = .nilSlice ∧ E = []) ∨ ∃ i o c, v = .slice i o E.length c ∧ E.length ≤ c ∧ i < h.next ∧ (E = [] ∨ ∃ cs wr opn, h.get i = some (.cells cs wr opn) ∧ ∀ j (hj : j < E.length), (cs.drop (o + j * 4)).take 4 = E[j].cs)
theorem RTok.exd {h h' : Heap} {v : CVal} {E : List Tok} (s : RTok h v E) (e : Exd h h') : RTok h' v E := by
  rcases s with s | ⟨i, o, c, s1, s2, s3, s4⟩
  · exact .inl s
  · exact .inr ⟨i, o, c, s1, s2, Nat.lt_of_lt_of_le s3 e.le, s4.imp id fun ⟨cs, wr, opn, g, a⟩ => ⟨cs, wr, opn, (e.get i s3).trans g, a⟩⟩

/-- AlikeT, so far. -/
def AlikeT (A B : List Tok) (n : Nat) : Prop := ∀ j, j < n → A[j]? = B[j]?
theorem AlikeT.zero {A B : List Tok} : AlikeT A B 0 := fun j h => by omega
theorem AlikeT.succ {A B : List Tok} {n : Nat} (h : AlikeT A B n) (e : A[n]? = B[n]?) : AlikeT A B (n + 1) := fun j hj => by
  rcases Nat.lt_or_ge j n with h1 | h1
  · exact h j h1
  · obtain rfl : j = n := by omega
    exact e


theorem alikeT_eq {A B : List Tok} : (A.length = B.length ∧ AlikeT A B A.length) ↔ A = B := by
  refine ⟨fun ⟨h1, h2⟩ => List.ext_getElem? fun j => ?_, fun h => by subst h; exact ⟨rfl, fun _ _ => rfl⟩⟩
  rcases Nat.lt_or_ge j A.length with h3 | h3
  · exact h2 j h3
  · rw [List.getElem?_eq_none h3, List.getElem?_eq_none (by omega)]

/-- The cells of a row. -/
def cellsT (E : List Tok) : List CVal := E.flatMap Tok.cs
theorem cellsT_length (E : List Tok) : (cellsT E).length = E.length * 4 := by
  induction E with
  | nil => rfl
  | cons e E ih => rw [cellsT, List.flatMap_cons, List.length_append, ← cellsT, ih, Tok.cs_length, List.length_cons]; omega
theorem cellsT_one (E : List Tok) : (cellsT E).all CVal.one = true := by
  induction E with
  | nil => rfl
  | cons e E ih => rw [cellsT, List.flatMap_cons, List.all_append, ← cellsT, ih]; rfl
theorem cellsT_get {E : List Tok} {j : Nat} (hj : j < E.length) : ((cellsT E).drop (j * 4)).take 4 = E[j].cs := by
  induction E generalizing j with
  | nil => simp at hj
  | cons e E ih =>
    rw [cellsT, List.flatMap_cons, ← cellsT]
    cases j with
    | zero => rw [Nat.zero_mul, List.drop_zero, List.take_append_of_le_length (by rw [Tok.cs_length]; omega), List.take_of_length_le (by rw [Tok.cs_length]; omega)]; rfl
    | succ j =>
      rw [show (j + 1) * 4 = e.cs.length + j * 4 by rw [Tok.cs_length]; omega, ← List.drop_drop, List.drop_left]
      simpa using ih (by simpa using hj)
theorem cellsT_of {cs : List CVal} : ∀ {E : List Tok} {o : Nat}, (∀ j (hj : j < E.length), (cs.drop (o + j * 4)).take 4 = E[j].cs) → (cs.drop o).take (E.length * 4) = cellsT E
  | [], _, _ => by simp [cellsT]
  | e :: E, o, h => by
    have h0 := h 0 (by simp)
    have ih := cellsT_of (cs := cs) (E := E) (o := o + 4) fun j hj => by
      have := h (j + 1) (by simpa using hj)
      rw [show o + (j + 1) * 4 = o + 4 + j * 4 by omega] at this
      simpa using this
    rw [cellsT, List.flatMap_cons, ← cellsT, ← ih, List.length_cons, show (E.length + 1) * 4 = 4 + E.length * 4 by omega, List.take_add, List.drop_drop]
    congr 1
    all_goals simpa using h0
theorem RTok.src {h : Heap} {v : CVal} {E : List Tok} (s : RTok h v E) : srcC h 4 v = some (E.length, cellsT E) := by
  rcases s with ⟨rfl, rfl⟩ | ⟨i, o, c, rfl, _, _, s⟩
  · rfl
  · rcases s with rfl | ⟨cs, wr, opn, g, a⟩
    · rfl
    · by_cases h0 : E.length = 0
      · obtain rfl : E = [] := by simpa using h0
        rfl
      · simp only [srcC, if_neg h0, g, cellsT_of a, cellsT_length, if_true]


theorem Own.toks {h₀ h : Heap} {v : CVal} {E : List Tok} (O : Own h₀ h v 4 E.length (cellsT E)) : RTok h v E := by
  rcases O.cases with ⟨rfl, h1, _⟩ | ⟨i, rfl, h1, h2⟩
  · exact .inl ⟨rfl, by simpa using h1⟩
  · obtain ⟨wr, opn, g⟩ := O.get
    exact .inr ⟨i, 0, E.length, rfl, Nat.le_refl _, h2, .inr ⟨_, wr, opn, g, fun j hj => by rw [Nat.zero_add]; exact cellsT_get hj⟩⟩

theorem OPN.eqT {N : Nat} {ρ : Env} {h : Heap} {neg : Bool} {X Y : CX} {a b : Tok} {K : CVal → Heap → Prop} (hx : X.on N ρ = .agg a.cs) (hy : Y.on N ρ = .agg b.cs) (k : a = b → K (.bool (!neg)) h) (k' : a ≠ b → K (.bool neg) h) : OPN N (.eqS [.int, .int, .int, .str] neg X Y) ρ h K := by
  have e : peqs [.int, .int, .int, .str] a.cs b.cs = some (decide (a = b)) := by
    cases a with | mk a1 a2 a3 a4 =>
    cases b with | mk b1 b2 b3 b4 =>
    simp only [Tok.cs, peqs, peq, if_true]
    by_cases h1 : a1 = b1 <;> by_cases h2 : a2 = b2 <;> by_cases h3 : a3 = b3 <;> by_cases h4 : a4 = b4 <;> simp [h1, h2, h3, h4]
  refine .mk (v := .bool (if neg then !decide (a = b) else decide (a = b))) (h' := h) (by simp only [cop, CX.on_ev, hx, hy, e]) ?_
  by_cases hab : a = b
  · have := k hab; subst hab; cases neg <;> simpa using this
  · have := k' hab; cases neg <;> simpa [hab] using this

/-- Bytes that came in, to be read: so many. -/
def bytesZ (len : Nat) (zs : List Int) : List UInt8 := (zs.take len).map fun z => UInt8.ofNat z.toNat
theorem bytesZ_length {len : Nat} {zs : List Int} (h : len ≤ zs.length) : (bytesZ len zs).length = len := by rw [bytesZ, List.length_map, List.length_take]; omega
theorem u8_wf {z : Int} (h : (Lit.int .u8 z).wf = true) : 0 ≤ z ∧ z ≤ 255 := by
  have w2 : (decide (IntKind.u8.min ≤ z) && decide (z ≤ IntKind.u8.max)) = true := h
  rw [Bool.and_eq_true, decide_eq_true_eq, decide_eq_true_eq] at w2
  have e1 : IntKind.u8.min = 0 := by decide
  have e2 : IntKind.u8.max = 255 := by decide
  omega
theorem bytesZ_get {len : Nat} {zs : List Int} (hl : len ≤ zs.length) (hz : ∀ n ∈ zs, (Lit.int .u8 n).wf = true) {j : Nat} (hj : j < len) (hj' : j < (bytesZ len zs).length) : zs[j]? = some ((bytesZ len zs)[j].toNat : Int) := by
  have hz' := u8_wf (hz zs[j] (List.getElem_mem (by omega)))
  simp only [bytesZ, List.getElem_map, List.getElem_take]
  rw [List.getElem?_eq_getElem (by omega)]
  congr 1
  have : (UInt8.ofNat zs[j].toNat).toNat = zs[j].toNat := by
    rw [UInt8.toNat_ofNat']; omega
  rw [this]; omega
theorem bytesC_map : ∀ zs : List Int, bytesC (zs.map (CVal.int .u8)) = some (zs.map fun z => UInt8.ofNat z.toNat)
  | [] => rfl
  | z :: zs => by simp only [List.map_cons, bytesC, byteC, bytesC_map zs]
/-- A row of bytes that can be read. -/
def RBy (h : Heap) (v : CVal) (s : List UInt8) : Prop :=
  (v = .nilSlice ∧ s = []) ∨ ∃ i o c, v = .slice i o s.length c ∧ s.length ≤ c ∧ i < h.next ∧ (s = [] ∨ ∃ cs wr opn, h.get i = some (.cells cs wr opn) ∧ (cs.drop o).take s.length = s.map fun b => CVal.int .u8 b.toNat)
theorem RBy.exd {h h' : Heap} {v : CVal} {s : List UInt8} (r : RBy h v s) (e : Exd h h') : RBy h' v s := by
  rcases r with r | ⟨i, o, c, s1, s2, s3, s4⟩
  · exact .inl r
  · exact .inr ⟨i, o, c, s1, s2, Nat.lt_of_lt_of_le s3 e.le, s4.imp id fun ⟨cs, wr, opn, g, a⟩ => ⟨cs, wr, opn, (e.get i s3).trans g, a⟩⟩
theorem RBy.at_ {h : Heap} {i o l c : Nat} {s : List UInt8} (r : RBy h (.slice i o l c) s) : l = s.length ∧ s.length ≤ c ∧ (s = [] ∨ ∃ cs wr opn, h.get i = some (.cells cs wr opn) ∧ (cs.drop o).take s.length = s.map (fun b => CVal.int .u8 b.toNat) ∧ ∀ j (hj : j < s.length), cs[o + j]? = some (.int .u8 s[j].toNat)) := by
  rcases r with ⟨e, _⟩ | ⟨i', o', c', e, h1, _, h2⟩
  · simp at e
  · simp only [CVal.slice.injEq] at e
    obtain ⟨rfl, rfl, rfl, rfl⟩ := e
    refine ⟨rfl, h1, h2.imp id fun ⟨cs, wr, opn, g, a⟩ => ⟨cs, wr, opn, g, a, fun j hj => ?_⟩⟩
    have e2 : ((cs.drop o).take s.length)[j]? = some (.int .u8 s[j].toNat) := by rw [a]; simp [hj]
    rw [List.getElem?_take, if_pos hj, List.getElem?_drop] at e2
    exact e2
theorem bytesC_bytes : ∀ s : List UInt8, bytesC (s.map fun b => CVal.int .u8 b.toNat) = some s
  | [] => rfl
  | b :: s => by simp [bytesC, byteC, bytesC_bytes s]
/-- The text of bytes. -/
theorem OPN.strOf {N : Nat} {ρ : Env} {h : Heap} {X : CX} {v : CVal} {s : List UInt8} {K : CVal → Heap → Prop} (hx : X.on N ρ = v) (r : RBy h v s) (k : K (.str s) h) : OPN N (.strOf X) ρ h K := by
  refine .mk ?_ k
  rcases r with ⟨rfl, rfl⟩ | ⟨i, o, c, rfl, _, _, r⟩
  · simp only [cop, CX.on_ev, hx]
  · simp only [cop, CX.on_ev, hx]
    by_cases h0 : s.length = 0
    · obtain rfl : s = [] := by simpa using h0
      rfl
    · rw [if_neg h0]
      rcases r with rfl | ⟨cs, wr, opn, g, a⟩
      · exact absurd rfl h0
      · simp only [g, a, bytesC_bytes, if_true]
theorem ArgSl.bytes {h : Heap} {v : CVal} {len : Nat} {zs : List Int} (s : ArgSl h v .u8 len zs) : RBy h v (bytesZ len zs) := by
  obtain ⟨h1, h2, h3⟩ := s
  have hl := bytesZ_length h1
  rcases h3 with ⟨rfl, rfl⟩ | ⟨i, rfl, hi, h4⟩
  · exact .inl ⟨rfl, by simp [bytesZ]⟩
  · refine .inr ⟨i, 0, zs.length, by rw [hl], by omega, hi, ?_⟩
    rcases h4 with rfl | g
    · exact .inl (by simp [bytesZ])
    · refine .inr ⟨_, _, _, g, ?_⟩
      refine List.ext_getElem? fun j => ?_
      rw [List.drop_zero, List.getElem?_take, List.getElem?_map, List.getElem?_map]
      by_cases hj : j < (bytesZ len zs).length
      · rw [if_pos hj, bytesZ_get h1 h2 (by omega) hj, List.getElem?_eq_getElem hj]
        rfl
      · rw [if_neg hj, List.getElem?_eq_none (by omega)]
        rfl
/-- What is read next of a string: a byte below 128 is itself. -/
theorem dec_any {s : List UInt8} {i c w : Nat} (h : i < s.length) (e : Utf8.decode ⟨s.toArray⟩ i = (c, w)) : (s[i].toNat < 128 → c = s[i].toNat ∧ w = 1) ∧ (128 ≤ s[i].toNat → 128 ≤ c) := by
  rw [Lib.decode_N] at e
  simp only at e
  have g0 := get_toNat h
  rw [← g0]
  unfold Lib.decodeN at e
  generalize (s.getD i 0).toNat = b0 at *
  repeat' split at e
  all_goals
    simp only [Prod.mk.injEq] at e
    obtain ⟨rfl, rfl⟩ := e
    omega
end Go.Proofs.YtlggkknkbbhooaaGreat.Cm

/-
  The clean machine, part YR: an argument that is a row of whole numbers (bytes, too), out of what the row's opening tells.
-/
namespace Go.Proofs.YtlggkknkbbhooaaGreat.Cm
open Go.RowKit Go.ChangeShapes

theorem row_in {P : Program} {w : World} {H : Type} {enc : TypeId × Value → H} {r : Reach} {base : Nat} {t e : TypeId} {k : IntKind} {v : Value} {x : DataW H × List MemPlace} (ht : P.underlying t = some (.slice e)) (he : P.underlying e = some (.int k)) (hc : P.cellsOf e = 1)
    (hv : Value.okWide P w r base t v) (h : ∃ m, DataW.trod enc P w 0 (fun _ => true) true m t v.cells.toList = some x) : ∃ (a : Option Addr) (len cap : Nat) (zs : List Int), v = .slice a len cap ∧ IsRow k w a len cap zs := by
  obtain ⟨a, len, cap, rfl, hn, hs⟩ := okw_slice5 ht hv
  obtain ⟨m, hf⟩ := h
  rcases open_ints ht he hc hf with ⟨hcs, _⟩ | ⟨x, l, c, zs, hcs, _, hl, _, hz, _, hcell, hw⟩
  · simp [Value.cells] at hcs
    obtain ⟨rfl, rfl, rfl⟩ := hcs
    exact ⟨none, 0, 0, [], rfl, .inl ⟨rfl, rfl, rfl, rfl⟩⟩
  · simp [Value.cells] at hcs
    obtain ⟨rfl, rfl, rfl⟩ := hcs
    obtain ⟨_, _, C, el, fz, hb⟩ := hs x rfl
    exact ⟨some x, len, cap, zs, rfl, .inr ⟨x, rfl, (Array.getElem?_eq_some_iff.1 hb).1, hl, by simpa using hz, hcell, hw⟩⟩
end Go.Proofs.YtlggkknkbbhooaaGreat.Cm

/-
  The clean machine, part YS: a source's tokens when blanks and a remark are laid in ahead of a token, by numbers and lists alone.
-/
namespace Go.Proofs.YtlggkknkbbhooaaGreat.Cm
open Go.RowKit

theorem runB_nil {p : UInt8 → Bool} : runB p [] = 0 := rfl
theorem runB_no {p : UInt8 → Bool} {c : UInt8} {r : List UInt8} (h : p c = false) : runB p (c :: r) = 0 := by simp [runB, h]
theorem runB_yes {p : UInt8 → Bool} {c : UInt8} {r : List UInt8} (h : p c = true) : runB p (c :: r) = runB p r + 1 := by simp [runB, h]
/-- A run that ends within the first part. -/
theorem runB_app {p : UInt8 → Bool} {d : UInt8} (hd : p d = false) (v w : List UInt8) : ∀ u : List UInt8, runB p (u ++ v) ≤ u.length → runB p (u ++ d :: w) = runB p (u ++ v)
  | [], h => by
    simp only [List.nil_append, List.length_nil, Nat.le_zero_eq] at h ⊢
    rw [runB_no hd, h]
  | c :: u, h => by
    rw [List.cons_append, List.cons_append]
    rw [List.cons_append] at h
    cases hc : p c with
    | false => rw [runB_no hc, runB_no hc]
    | true =>
      rw [runB_yes hc] at h
      rw [runB_yes hc, runB_yes hc, runB_app hd v w u (by rw [List.length_cons] at h; omega)]
theorem runB_app_lt {p : UInt8 → Bool} (v w : List UInt8) : ∀ u : List UInt8, runB p (u ++ v) < u.length → runB p (u ++ w) = runB p (u ++ v)
  | [], h => by simp at h
  | c :: u, h => by
    rw [List.cons_append, List.cons_append]
    rw [List.cons_append] at h
    cases hc : p c with
    | false => rw [runB_no hc, runB_no hc]
    | true =>
      rw [runB_yes hc] at h
      rw [runB_yes hc, runB_yes hc, runB_app_lt v w u (by rw [List.length_cons] at h; omega)]
theorem runB_all {p : UInt8 → Bool} {d : UInt8} (hd : p d = false) (w : List UInt8) : ∀ u : List UInt8, (∀ c ∈ u, p c = true) → runB p (u ++ d :: w) = u.length
  | [], _ => runB_no hd
  | c :: u, h => by
    rw [List.cons_append, runB_yes (h c (by simp)), runB_all hd w u fun x hx => h x (by simp [hx])]; rfl

/-- How far a thing reaches. -/
def Lx.size : Lx → Nat
  | .skip n => n
  | .tok _ _ _ n => n
  | .bad _ => 0
def Lx.good : Lx → Bool
  | .bad _ => false
  | _ => true

theorem oneB_len {r : List UInt8} (h : oneB r ≠ []) : (oneB r).length = 1 := by
  cases r with
  | nil => exact (h rfl).elim
  | cons c t => rw [oneB] at h ⊢; split <;> simp_all
theorem signB_len {r : List UInt8} (h : signB r ≠ []) : 1 ≤ (signB r).length ∧ (signB r).length ≤ r.length := by
  rw [signB] at h ⊢
  split
  · next m => have := twos_two _ m; rw [List.length_take] at this ⊢; omega
  · next m =>
    rw [if_neg m] at h
    have := oneB_len h
    cases r with
    | nil => exact (h rfl).elim
    | cons c t => rw [this]; simp

theorem stepB_size {ws : List (List UInt8)} {r : List UInt8} (hr : r ≠ []) (h : (stepB ws r).good = true) : 1 ≤ (stepB ws r).size ∧ (stepB ws r).size ≤ r.length := by
  obtain ⟨c, t, rfl⟩ : ∃ c t, r = c :: t := by cases r with | nil => exact (hr rfl).elim | cons c t => exact ⟨c, t, rfl⟩
  have l1 : 1 ≤ (c :: t).length := by simp
  revert h
  simp only [stepB]
  split
  · intro _; exact ⟨Nat.le_refl _, l1⟩
  split
  · split
    · next h => intro _; simp only [Lx.size]; omega
    · intro h; cases h
  split
  · intro _; exact ⟨Nat.le_refl _, l1⟩
  split
  · next hl =>
    have := runB_pos (p := ldB) (r := t) (show ldB c = true by simp [ldB, hl])
    have := runB_le (p := ldB) (r := c :: t)
    split
    · intro _; simp only [Lx.size]; omega
    · split
      · intro h; cases h
      · intro _; simp only [Lx.size]; omega
  split
  · next hl =>
    have := runB_pos (p := digB) (r := t) hl
    have := runB_le (p := digB) (r := c :: t)
    split
    · intro _; simp only [Lx.size]; omega
    · intro h; cases h
  split
  · intro h; cases h
  · next hs => intro _; exact signB_len hs

theorem signB_app {u v w : List UInt8} (hu : u ≠ []) (h0 : signB (u ++ v) ≠ []) (hl : (signB (u ++ v)).length ≤ u.length) : signB (u ++ 32 :: w) = signB (u ++ v) := by
  obtain ⟨c, t, rfl⟩ : ∃ c t, u = c :: t := by cases u with | nil => exact (hu rfl).elim | cons c t => exact ⟨c, t, rfl⟩
  have o : ∀ x : List UInt8, oneB (c :: t ++ x) = oneB (c :: t) := fun x => by rw [List.cons_append, oneB, oneB]
  cases t with
  | cons d t =>
    have k : ∀ x : List UInt8, (c :: d :: t ++ x).take 2 = [c, d] := fun x => by simp
    rw [signB, signB, k, k, o, o]
  | nil =>
    have hn : ¬ [c, 32] ∈ twos := by
      intro hm
      have hs : ∀ x ∈ twos, x.getD 1 0 ≠ 32 := by decide
      exact hs _ hm rfl
    have k : (([c] ++ 32 :: w : List UInt8)).take 2 = [c, 32] := by simp
    rw [signB, k, if_neg hn, o]
    rw [signB] at hl ⊢
    split
    · next m =>
      rw [if_pos m, twos_two _ m] at hl
      simp at hl
    · rw [o]

/-- What stands at a place goes by the bytes that it takes alone, where a blank stands behind. -/
theorem stepB_app {ws : List (List UInt8)} {u v : List UInt8} (w : List UInt8) (hu : u ≠ []) (hg : (stepB ws (u ++ v)).good = true) (hl : (stepB ws (u ++ v)).size ≤ u.length) : stepB ws (u ++ 32 :: w) = stepB ws (u ++ v) := by
  obtain ⟨c, t, e⟩ : ∃ c t, u = c :: t := by cases u with | nil => exact (hu rfl).elim | cons c t => exact ⟨c, t, rfl⟩
  have es : ∀ x : List UInt8, u ++ x = c :: (t ++ x) := fun x => by rw [e]; rfl
  have st : ∀ x : List UInt8, stepB ws (u ++ x) = (if c.toNat = 32 ∨ c.toNat = 9 ∨ c.toNat = 10 ∨ c.toNat = 13 then .skip 1
    else if c.toNat = 123 then (if runB noB (u ++ x) < (u ++ x).length then .skip (runB noB (u ++ x) + 1) else .bad 11)
    else if c.toNat = 80 ∨ c.toNat = 86 then .tok 3 0 [c] 1
    else if letB c = true then (if (u ++ x).take (runB ldB (u ++ x)) ∈ ws then .tok 3 0 ((u ++ x).take (runB ldB (u ++ x))) (runB ldB (u ++ x)) else if 12 < runB ldB (u ++ x) then .bad 12 else .tok 1 0 ((u ++ x).take (runB ldB (u ++ x))) (runB ldB (u ++ x)))
    else if digB c = true then (match numV ((u ++ x).take (runB digB (u ++ x))) with
      | some v => .tok 2 v [] (runB digB (u ++ x))
      | none => .bad 13)
    else if signB (u ++ x) = [] then .bad 11 else .tok 4 0 (signB (u ++ x)) (signB (u ++ x)).length) := fun x => by
      rw [es x, stepB]; try rfl
  rw [st, st]
  rw [st] at hg hl
  revert hl; revert hg
  split
  · intros; rfl
  split
  · split
    · next h =>
      intro _ hl
      simp only [Lx.size] at hl
      have lt : runB noB (u ++ v) < u.length := by omega
      rw [runB_app_lt v (32 :: w) u lt, if_pos (by rw [List.length_append]; omega)]
    · intro hg; cases hg
  split
  · intros; rfl
  split
  · have key : runB ldB (u ++ v) ≤ u.length → runB ldB (u ++ 32 :: w) = runB ldB (u ++ v) ∧ (u ++ 32 :: w).take (runB ldB (u ++ 32 :: w)) = (u ++ v).take (runB ldB (u ++ v)) := fun h => by
      have e := runB_app (p := ldB) (d := 32) rfl v w u h
      refine ⟨e, ?_⟩
      rw [e, List.take_append_of_le_length h, List.take_append_of_le_length h]
    split
    · next hw =>
      intro _ hl
      obtain ⟨e1, e2⟩ := key hl
      rw [e2, e1, if_pos hw]
    · next hw =>
      split
      · intro hg; cases hg
      · next h12 =>
        intro _ hl
        obtain ⟨e1, e2⟩ := key hl
        rw [e2, e1, if_neg hw, if_neg h12]
  split
  · split
    · next z hz =>
      intro _ hl
      simp only [Lx.size] at hl
      have e := runB_app (p := digB) (d := 32) rfl v w u hl
      have e2 : (u ++ 32 :: w).take (runB digB (u ++ 32 :: w)) = (u ++ v).take (runB digB (u ++ v)) := by
        rw [e, List.take_append_of_le_length hl, List.take_append_of_le_length hl]
      rw [e2, e, hz]
    · intro hg; cases hg
  split
  · intro hg; cases hg
  · next hs =>
    intro _ hl
    rw [signB_app hu hs hl, if_neg hs]

theorem lex_pre {ws : List (List UInt8)} {s : List UInt8} {toks : List Tok} : ∀ (n a : Nat) (out : List Tok), s.length - a ≤ n → a ≤ s.length → lex ws s a out = (toks, 0, 0) → ∀ k, (toks.take out.length = out ∧ (out.length ≤ k → ∀ hk : k < toks.length, (a : Int) ≤ toks[k].at_)) ∨ toks = []
  | n, a, out, hn, ha, e, k => by
    by_cases he : s.length ≤ a
    · rw [lex_end he] at e
      simp only [Prod.mk.injEq, and_true] at e
      subst e
      refine .inl ⟨by simp, fun hk h2 => ?_⟩
      rw [List.length_append, List.length_singleton] at h2
      obtain rfl : k = out.length := by omega
      rw [List.getElem_append_right (Nat.le_refl _)]
      simp; omega
    · have hne : s.drop a ≠ [] := fun h => by have := List.length_drop (l := s) (i := a); rw [h] at this; simp at this; omega
      cases hs : stepB ws (s.drop a) with
      | skip m =>
        have := stepB_size (ws := ws) hne (by rw [hs]; rfl)
        rw [hs, List.length_drop] at this
        simp only [Lx.size] at this
        rw [lex_skip (by omega) hs (by omega)] at e
        match n, hn with
        | 0, hn => omega
        | n + 1, hn =>
          rcases lex_pre n (a + m) out (by omega) (by omega) e k with ⟨h1, h2⟩ | h
          · exact .inl ⟨h1, fun h3 hk => by have := h2 h3 hk; omega⟩
          · exact .inr h
      | tok kd v t m =>
        have := stepB_size (ws := ws) hne (by rw [hs]; rfl)
        rw [hs, List.length_drop] at this
        simp only [Lx.size] at this
        rw [lex_tok (by omega) hs (by omega)] at e
        match n, hn with
        | 0, hn => omega
        | n + 1, hn =>
          rcases lex_pre n (a + m) _ (by omega) (by omega) e k with ⟨h1, h2⟩ | h
          · rw [List.length_append, List.length_singleton] at h1 h2
            refine .inl ⟨?_, fun h3 hk => ?_⟩
            · have h4 := congrArg (List.take out.length) h1
              rw [List.take_take, Nat.min_eq_left (by omega)] at h4
              rw [h4]; simp
            · by_cases h5 : out.length = k
              · subst h5
                have h6 : (toks.take (out.length + 1))[out.length]? = some ⟨kd, a, v, t⟩ := by rw [h1]; simp
                rw [List.getElem?_take_of_lt (by omega), List.getElem?_eq_getElem hk] at h6
                simp only [Option.some.injEq] at h6
                rw [h6]; exact Int.le_refl _
              · have := h2 (by omega) hk; omega
          · exact .inr h
      | bad c =>
        rw [lex_bad (by omega) hs] at e
        simp only [Prod.mk.injEq] at e
        exact .inr e.1.symm

/-- Up to the token. -/
theorem lex_upto {ws : List (List UInt8)} {s w : List UInt8} {toks : List Tok} {k p : Nat} (hk : k < toks.length) (hp : toks[k].at_ = p) (hps : p ≤ s.length) : ∀ (n a : Nat) (out : List Tok), s.length - a ≤ n → a ≤ p → out.length ≤ k → lex ws s a out = (toks, 0, 0) →
    lex ws (s.take p ++ 32 :: w) a out = lex ws (s.take p ++ 32 :: w) p (toks.take k) ∧ lex ws s p (toks.take k) = (toks, 0, 0)
  | n, a, out, hn, ha, ho, e => by
    have ne : toks ≠ [] := fun h => by subst h; simp at hk
    obtain ⟨tk, le⟩ := (lex_pre (s.length - a) a out (Nat.le_refl _) (by omega) e k).resolve_right ne
    have done : out.length = k → a = p → lex ws (s.take p ++ 32 :: w) a out = lex ws (s.take p ++ 32 :: w) p (toks.take k) ∧ lex ws s p (toks.take k) = (toks, 0, 0) := fun h1 h2 => by
      subst h1; subst h2; rw [tk]; exact ⟨rfl, e⟩
    by_cases he : s.length ≤ a
    · have e0 := e
      rw [lex_end he] at e0
      simp only [Prod.mk.injEq, and_true] at e0
      refine done ?_ (by omega)
      have := hk; rw [← e0, List.length_append, List.length_singleton] at this; omega
    · have hne : s.drop a ≠ [] := fun h => by have := List.length_drop (l := s) (i := a); rw [h] at this; simp at this; omega
      have hl' : a < p → a < (s.take p ++ 32 :: w).length := fun h => by rw [List.length_append, List.length_take]; omega
      have move : a < p → (stepB ws (s.drop a)).good = true → a + (stepB ws (s.drop a)).size ≤ p → stepB ws ((s.take p ++ 32 :: w).drop a) = stepB ws (s.drop a) := fun h1 hg h2 => by
        have e1 : s.drop a = (s.take p).drop a ++ s.drop p := by
          have h3 := congrArg (List.drop a) (List.take_append_drop p s)
          rw [List.drop_append_of_le_length (by rw [List.length_take]; omega)] at h3
          exact h3.symm
        rw [e1] at hg h2 ⊢
        rw [List.drop_append_of_le_length (by rw [List.length_take]; omega)]
        have hl : ((s.take p).drop a).length = p - a := by rw [List.length_drop, List.length_take]; omega
        exact stepB_app w (fun h => by rw [h] at hl; simp at hl; omega) hg (by rw [hl]; omega)
      cases hs : stepB ws (s.drop a) with
      | skip m =>
        have hz := stepB_size (ws := ws) hne (by rw [hs]; rfl)
        rw [hs, List.length_drop] at hz
        simp only [Lx.size] at hz
        rw [lex_skip (by omega) hs (by omega)] at e
        have le2 := ((lex_pre (s.length - (a + m)) (a + m) out (Nat.le_refl _) (by omega) e k).resolve_right ne).2 ho hk
        rw [hp] at le2
        match n, hn with
        | 0, hn => omega
        | n + 1, hn =>
          obtain ⟨h1, h2⟩ := lex_upto (w := w) hk hp hps n (a + m) out (by omega) (by omega) ho e
          refine ⟨?_, h2⟩
          rw [lex_skip (hl' (by omega)) (by rw [move (by omega) (by rw [hs]; rfl) (by rw [hs]; simp only [Lx.size]; omega)]; exact hs) (by omega)]
          exact h1
      | tok kd v t m =>
        have hz := stepB_size (ws := ws) hne (by rw [hs]; rfl)
        rw [hs, List.length_drop] at hz
        simp only [Lx.size] at hz
        have e' := e
        rw [lex_tok (by omega) hs (by omega)] at e
        by_cases h5 : out.length = k
        · refine done h5 ?_
          obtain ⟨h1, -⟩ := (lex_pre (s.length - (a + m)) (a + m) _ (Nat.le_refl _) (by omega) e k).resolve_right ne
          rw [List.length_append, List.length_singleton] at h1
          have h6 : (toks.take (out.length + 1))[out.length]? = some ⟨kd, a, v, t⟩ := by rw [h1]; simp
          rw [List.getElem?_take_of_lt (by omega), h5, List.getElem?_eq_getElem hk] at h6
          simp only [Option.some.injEq] at h6
          rw [h6] at hp
          simp only at hp; omega
        · have le2 := ((lex_pre (s.length - (a + m)) (a + m) _ (Nat.le_refl _) (by omega) e k).resolve_right ne).2 (by rw [List.length_append, List.length_singleton]; omega) hk
          rw [hp] at le2
          match n, hn with
          | 0, hn => omega
          | n + 1, hn =>
            obtain ⟨h1, h2⟩ := lex_upto (w := w) hk hp hps n (a + m) _ (by omega) (by omega) (by rw [List.length_append, List.length_singleton]; omega) e
            refine ⟨?_, h2⟩
            rw [lex_tok (hl' (by omega)) (by rw [move (by omega) (by rw [hs]; rfl) (by rw [hs]; simp only [Lx.size]; omega)]; exact hs) (by omega)]
            exact h1
      | bad c =>
        rw [lex_bad (by omega) hs] at e
        simp only [Prod.mk.injEq] at e
        exact (ne e.1.symm).elim

/-- A token, so much further on. -/
def Tok.on (t : Tok) (n : Int) : Tok := { t with at_ := t.at_ + n }
/-- From the k-th on. -/
def shiftT (k : Nat) (n : Int) (l : List Tok) : List Tok := l.take k ++ (l.drop k).map (·.on n)
theorem shiftT_take {k : Nat} {n : Int} {l : List Tok} : shiftT k n (l.take k) = l.take k := by simp [shiftT, List.take_take, List.drop_eq_nil_of_le, List.length_take, Nat.min_le_left]
theorem shiftT_snoc {k : Nat} {n : Int} {l : List Tok} {t : Tok} (h : k ≤ l.length) : shiftT k n (l ++ [t]) = shiftT k n l ++ [t.on n] := by
  simp only [shiftT, List.take_append_of_le_length h, List.drop_append_of_le_length h, List.map_append, List.append_assoc]; rfl

theorem lex_from {ws : List (List UInt8)} {s x : List UInt8} {toks : List Tok} {k p : Nat} (hps : p ≤ s.length) : ∀ (n a : Nat) (out : List Tok), s.length - a ≤ n → p ≤ a → a ≤ s.length → k ≤ out.length → lex ws s a out = (toks, 0, 0) → toks ≠ [] →
    lex ws (s.take p ++ (x ++ s.drop p)) (a + x.length) (shiftT k x.length out) = (shiftT k x.length toks, 0, 0)
  | n, a, out, hn, hp, ha, ho, e, ne => by
    have hl : (s.take p ++ (x ++ s.drop p)).length = s.length + x.length := by simp only [List.length_append, List.length_take, List.length_drop]; omega
    have hd : (s.take p ++ (x ++ s.drop p)).drop (a + x.length) = s.drop a := by
      rw [List.drop_append, List.drop_eq_nil_of_le (by rw [List.length_take]; omega), List.nil_append, List.length_take, Nat.min_eq_left hps, List.drop_append, List.drop_eq_nil_of_le (by omega), List.nil_append, List.drop_drop]
      congr 1; omega
    by_cases he : s.length ≤ a
    · rw [lex_end he] at e
      simp only [Prod.mk.injEq, and_true] at e
      rw [lex_end (by rw [hl]; omega), ← e, shiftT_snoc ho, hl]
      simp [Tok.on]
    · have hne : s.drop a ≠ [] := fun h => by have := List.length_drop (l := s) (i := a); rw [h] at this; simp at this; omega
      cases hs : stepB ws (s.drop a) with
      | skip m =>
        have hz := stepB_size (ws := ws) hne (by rw [hs]; rfl)
        rw [hs, List.length_drop] at hz
        simp only [Lx.size] at hz
        rw [lex_skip (by omega) hs (by omega)] at e
        rw [lex_skip (by rw [hl]; omega) (by rw [hd]; exact hs) (by omega)]
        match n, hn with
        | 0, hn => omega
        | n + 1, hn =>
          have := lex_from (x := x) hps n (a + m) out (by omega) (by omega) (by omega) ho e ne
          rw [show a + x.length + m = a + m + x.length by omega]; exact this
      | tok kd v t m =>
        have hz := stepB_size (ws := ws) hne (by rw [hs]; rfl)
        rw [hs, List.length_drop] at hz
        simp only [Lx.size] at hz
        rw [lex_tok (by omega) hs (by omega)] at e
        rw [lex_tok (by rw [hl]; omega) (by rw [hd]; exact hs) (by omega)]
        match n, hn with
        | 0, hn => omega
        | n + 1, hn =>
          have := lex_from (k := k) (x := x) hps n (a + m) _ (by omega) (by omega) (by omega) (by rw [List.length_append, List.length_singleton]; omega) e ne
          rw [shiftT_snoc ho] at this
          rw [show a + x.length + m = a + m + x.length by omega]
          simpa [Tok.on] using this
      | bad c =>
        rw [lex_bad (by omega) hs] at e
        simp only [Prod.mk.injEq] at e
        exact (ne e.1.symm).elim

theorem lex_skips {ws : List (List UInt8)} {s r : List UInt8} {a n : Nat} {out : List Tok} (hd : s.drop a = r) (hr : r ≠ []) (e : stepB ws r = .skip n) (hn : 1 ≤ n) : lex ws s a out = lex ws s (a + n) out := by
  refine lex_skip ?_ (by rw [hd]; exact e) hn
  have := List.length_drop (l := s) (i := a)
  rcases Nat.lt_or_ge a s.length with h | h
  · exact h
  · rw [List.drop_eq_nil_of_le h] at hd; exact (hr hd.symm).elim

/-- Blanks and a remark, laid in ahead of a token. -/
def putB (remark : List UInt8) : List UInt8 := 32 :: 9 :: 123 :: (remark ++ [125, 10, 13])
theorem putB_len (remark : List UInt8) : (putB remark).length = remark.length + 6 := by simp [putB]
theorem lex_put {ws : List (List UInt8)} {s remark : List UInt8} {toks : List Tok} {k p : Nat} (hk : k < toks.length) (hp : toks[k].at_ = p) (hps : p ≤ s.length) (hr : ∀ c ∈ remark, c ≠ 125) (e : lex ws s 0 [] = (toks, 0, 0)) :
    lex ws (s.take p ++ (putB remark ++ s.drop p)) 0 [] = (shiftT k (remark.length + 6 : Nat) toks, 0, 0) := by
  have ne : toks ≠ [] := fun h => by subst h; simp at hk
  obtain ⟨h1, h2⟩ := lex_upto (w := 9 :: 123 :: (remark ++ [125, 10, 13]) ++ s.drop p) hk hp hps s.length 0 [] (by omega) (by omega) (by simp) e
  have es : s.take p ++ (putB remark ++ s.drop p) = s.take p ++ 32 :: (9 :: 123 :: (remark ++ [125, 10, 13]) ++ s.drop p) := rfl
  rw [es, h1, ← es]
  have d0 : (s.take p ++ (putB remark ++ s.drop p)).drop p = putB remark ++ s.drop p := by
    rw [List.drop_append, List.drop_eq_nil_of_le (by rw [List.length_take]; omega), List.nil_append, List.length_take, Nat.min_eq_left hps, Nat.sub_self, List.drop_zero]
  have dn : ∀ (i : Nat) (r : List UInt8), (putB remark ++ s.drop p).drop i = r → (s.take p ++ (putB remark ++ s.drop p)).drop (p + i) = r := fun i r h => by rw [← List.drop_drop, d0]; exact h
  generalize hS : s.take p ++ (putB remark ++ s.drop p) = S at *
  have rn : runB noB (123 :: remark ++ 125 :: ([10, 13] ++ s.drop p)) = remark.length + 1 := by
    have := runB_all (p := noB) (d := 125) rfl ([10, 13] ++ s.drop p) (123 :: remark) fun c hc => by
      rcases List.mem_cons.1 hc with rfl | hc
      · rfl
      · rw [noB, decide_eq_true_eq]; intro h; exact hr c hc (UInt8.toNat_inj.1 h)
    rw [this]; rfl
  rw [lex_skips (r := 32 :: (9 :: 123 :: (remark ++ [125, 10, 13]) ++ s.drop p)) (n := 1) d0 (by simp) rfl (by omega)]
  rw [lex_skips (r := 9 :: 123 :: (remark ++ [125, 10, 13]) ++ s.drop p) (n := 1) (dn 1 _ rfl) (by simp) rfl (by omega)]
  have e2 : (putB remark ++ s.drop p).drop 2 = 123 :: remark ++ 125 :: ([10, 13] ++ s.drop p) := by simp [putB]
  rw [lex_skips (r := 123 :: remark ++ 125 :: ([10, 13] ++ s.drop p)) (n := remark.length + 2) (dn 2 _ e2) (by simp) ?_ (by omega)]
  rotate_left
  · show stepB ws (123 :: (remark ++ 125 :: ([10, 13] ++ s.drop p))) = _
    simp only [stepB]
    rw [if_neg (by decide), if_pos (by decide)]
    have rn' : runB noB (123 :: (remark ++ 125 :: ([10, 13] ++ s.drop p))) = remark.length + 1 := rn
    rw [rn', if_pos (by simp only [List.length_cons, List.length_append]; omega)]
  have e3 : (putB remark ++ s.drop p).drop (remark.length + 4) = 10 :: 13 :: s.drop p := by
    have : remark.length + 4 = 3 + (remark.length + 1) := by omega
    rw [this, ← List.drop_drop]
    show List.drop (remark.length + 1) (remark ++ [125, 10, 13] ++ s.drop p) = _
    rw [List.append_assoc, ← List.drop_drop, List.drop_left]; rfl
  rw [show p + 1 + 1 + (remark.length + 2) = p + (remark.length + 4) by omega]
  rw [lex_skips (r := 10 :: 13 :: s.drop p) (n := 1) (dn _ _ e3) (by simp) rfl (by omega)]
  rw [show p + (remark.length + 4) + 1 = p + (remark.length + 5) by omega]
  have e4 : (putB remark ++ s.drop p).drop (remark.length + 5) = 13 :: s.drop p := by
    rw [show remark.length + 5 = remark.length + 4 + 1 from rfl, ← List.drop_drop, e3]; rfl
  rw [lex_skips (r := 13 :: s.drop p) (n := 1) (dn _ _ e4) (by simp) rfl (by omega)]
  have := lex_from (x := putB remark) (k := k) hps s.length p (toks.take k) (by omega) (Nat.le_refl _) hps (by rw [List.length_take]; omega) h2 ne
  rw [shiftT_take, putB_len, hS] at this
  exact this
theorem stepB_bad {ws : List (List UInt8)} {r : List UInt8} {c : Int} (h : stepB ws r = .bad c) : c ≠ 0 := by
  cases r with
  | nil => simp only [stepB, Lx.bad.injEq] at h; omega
  | cons b t =>
    simp only [stepB] at h
    repeat' split at h
    all_goals first | (cases h; done) | (simp only [Lx.bad.injEq] at h; omega)
/-- Where there is no fault. -/
theorem lex_fine {ws : List (List UInt8)} {s : List UInt8} : ∀ (n a : Nat) (out : List Tok), s.length - a ≤ n → (lex ws s a out).2.1 = 0 → (∀ t ∈ out, 0 ≤ t.at_ ∧ t.at_ ≤ s.length) → ∃ toks, lex ws s a out = (toks, 0, 0) ∧ toks ≠ [] ∧ ∀ t ∈ toks, 0 ≤ t.at_ ∧ t.at_ ≤ s.length
  | n, a, out, hn, e, ho => by
    by_cases he : s.length ≤ a
    · rw [lex_end he]
      refine ⟨_, rfl, by simp, fun t ht => ?_⟩
      rcases List.mem_append.1 ht with h | h
      · exact ho t h
      · obtain rfl := List.mem_singleton.1 h; simp
    · have hne : s.drop a ≠ [] := fun h => by have := List.length_drop (l := s) (i := a); rw [h] at this; simp at this; omega
      cases hs : stepB ws (s.drop a) with
      | skip m =>
        have hz := stepB_size (ws := ws) hne (by rw [hs]; rfl)
        rw [hs, List.length_drop] at hz
        simp only [Lx.size] at hz
        rw [lex_skip (by omega) hs (by omega)] at e ⊢
        match n, hn with
        | 0, hn => omega
        | n + 1, hn => exact lex_fine n (a + m) out (by omega) e ho
      | tok kd v t m =>
        have hz := stepB_size (ws := ws) hne (by rw [hs]; rfl)
        rw [hs, List.length_drop] at hz
        simp only [Lx.size] at hz
        rw [lex_tok (by omega) hs (by omega)] at e ⊢
        match n, hn with
        | 0, hn => omega
        | n + 1, hn =>
          refine lex_fine n (a + m) _ (by omega) e fun x hx => ?_
          rcases List.mem_append.1 hx with h | h
          · exact ho x h
          · obtain rfl := List.mem_singleton.1 h; simp only; omega
      | bad c =>
        rw [lex_bad (by omega) hs] at e
        exact (stepB_bad hs e).elim
theorem shiftT_len {k : Nat} {n : Int} {l : List Tok} : (shiftT k n l).length = l.length := by
  rw [shiftT, List.length_append, List.length_map, ← List.length_append, List.take_append_drop]
theorem shiftT_get {k : Nat} {n : Int} {l : List Tok} {i : Nat} (h : i < l.length) (h' : i < (shiftT k n l).length) : (shiftT k n l)[i] = if i < k then l[i] else l[i].on n := by
  simp only [shiftT, List.getElem_append, List.length_take]
  split
  · next h1 => rw [if_pos (by omega), List.getElem_take]
  · next h1 =>
    rw [if_neg (by omega), List.getElem_map, List.getElem_drop]
    congr 2; omega
end Go.Proofs.YtlggkknkbbhooaaGreat.Cm

/-
  The clean machine: a block that a call has made, wherever it lies; strings.Fields of any text.
-/
namespace Go.Proofs.YtlggkknkbbhooaaGreat.Cm
open Go.RowKit

theorem Inv.adopt {K : Ctx} {ι : Emb} {h : Heap} {w w' : World} (H : Inv K ι h w) (k : Keeps (fun b => b < w.heap.size) w w') (o : CObj) {A e : Nat} (hA : w.heap.size ≤ A) (hA' : A < w'.heap.size)
    (ho : ObjR (ι.put h.next (A, 0, e)) w' K.glb.mod K.F h.next o) : Inv K (ι.put h.next (A, 0, e)) (h.new o) w' := by
  have H' := H.later k
  have hfr := (H.fresh h.next (Nat.le_refl _)).1
  have hle := ι.le_put h.next (A, 0, e) hfr
  refine ⟨H.hF, H'.keep, fun g hg => hle _ _ (H.glob g hg), ?_, ?_, ?_, ?_, H.hG, ?_, fun i hi => ?_, fun i hi => ?_⟩
  · intro i oi hi
    rw [Heap.get_new] at hi
    by_cases e1 : i = h.next
    · subst e1; simp at hi; subst hi; exact ho
    · rw [if_neg e1] at hi
      exact (H'.obj i oi hi).mono hle fun b β e2 he => rfl
  · intro i j oi oj b β e1 b' β' e2 hne hi hj hw hbi hbj
    rw [Heap.get_new] at hi hj
    by_cases i1 : i = h.next
    · subst i1
      rw [Emb.put_same] at hbi; simp at hbi
      rw [Emb.put_ne _ _ _ _ (Ne.symm hne)] at hbj
      have := H.inb _ _ _ _ hbj
      omega
    · by_cases j1 : j = h.next
      · subst j1
        rw [Emb.put_same] at hbj; simp at hbj
        rw [Emb.put_ne _ _ _ _ hne] at hbi
        have := H.inb _ _ _ _ hbi
        omega
      · rw [if_neg i1] at hi; rw [if_neg j1] at hj
        rw [Emb.put_ne _ _ _ _ i1] at hbi; rw [Emb.put_ne _ _ _ _ j1] at hbj
        exact H.excl i j oi oj b β e1 b' β' e2 hne hi hj hw hbi hbj
  · intro i hi
    simp at hi
    rw [Emb.put_ne _ _ _ _ (by omega), Heap.get_new_ne _ _ _ (by omega)]
    exact H.fresh i (by omega)
  · intro i b β e1 hb
    by_cases i1 : i = h.next
    · subst i1; rw [Emb.put_same] at hb; simp at hb; omega
    · rw [Emb.put_ne _ _ _ _ i1] at hb; have := H'.inb _ _ _ _ hb; omega
  · intro i oi b β e1 hi hb hg
    rw [Heap.get_new] at hi
    by_cases i1 : i = h.next
    · subst i1
      rw [Emb.put_same] at hb; simp at hb
      have := H.hF _ (H.hG.1 _ hg); have := H.keep.size; omega
    · rw [if_neg i1] at hi; rw [Emb.put_ne _ _ _ _ i1] at hb
      exact H.hid i oi b β e1 hi hb hg
  · obtain ⟨h1, h2⟩ := H.nev i hi
    exact ⟨by simp; omega, by rw [Heap.get_new_ne _ _ _ (by omega)]; exact h2⟩
  · obtain ⟨h1, h2⟩ := H.nul i hi
    exact ⟨by simp; omega, by rw [Emb.put_ne _ _ _ _ (by omega)]; exact h2⟩

/-- A row of texts that a call has made. -/
theorem Inv.ownStrs {K : Ctx} {ι : Emb} {h : Heap} {w w' : World} (H : Inv K ι h w) {T : TypeId} {A : Nat} {l : List (List UInt8)} (hA : w.heap.size ≤ A)
    (o : w'.ownsRow w.heap.size T 1 (.slice (some ⟨A, 0, none⟩) l.length l.length) l.length (l.map fun x => Value.string ⟨x.toArray⟩)) (b : Below w.heap.size w w') :
    Inv K (ι.put h.next (A, 0, 0)) (h.new (.cells (l.map .str) true none)) w' := by
  have hle := ι.le_put h.next (A, 0, 0) (H.fresh _ (Nat.le_refl _)).1
  obtain ⟨_, o⟩ := o
  rcases o with ⟨o, _⟩ | ⟨g, cap, cur, ev, hg, hc, hcap, _, hsz, ht⟩
  · simp at o
  · simp only [Value.slice.injEq, Option.some.injEq, Addr.mk.injEq] at ev
    obtain ⟨⟨rfl, _⟩, _, rfl⟩ := ev
    have hA' := (Array.getElem?_eq_some_iff.1 hc).1
    refine H.adopt (keeps_of_below b) _ hA hA' ⟨A, 0, 0, cur, T, 0, 0, Emb.put_same _ _ _, hc, fun j v hv => ?_, fun _ => rfl, fun _ => ⟨fun hk => ?_, fun j hj => ?_⟩⟩
    · have ho := List.all_eq_true.1 (strs_one l) v (List.mem_of_getElem? hv)
      obtain ⟨v', h2, h3⟩ := (VRs.strsL (ι := ι) l).get j v hv
      refine ⟨ho, v', ?_, h3.mono hle⟩
      rw [← ht] at h2
      rw [List.getElem?_take] at h2
      split at h2
      · simpa using h2
      · simp at h2
    · have := H.hF _ hk; have := H.keep.size; omega
    · simp at hj
      exact ⟨by omega, by omega⟩

def fieldsA : List CVal → Heap → Option (CVal × Heap)
  | [.str s], h => if s.length ≤ 1000000 then some (.slice h.next 0 (Lib.fieldsD s).length (Lib.fieldsD s).length, h.new (.cells ((Lib.fieldsD s).map .str) true none)) else none
  | _, _ => none
theorem fieldsA_ok {P : Program} {glb : Gl} {f : FuncId} (hb : HasBody P f) {T : TypeId}
    (C : ∀ (s : ByteArray) (w : World), s.size < 4294967281 → glb.fact w → Calls P f #[.string s] w fun e w' => ∃ A, e = .returned (.slice (some ⟨A, 0, none⟩) (Lib.fieldsD s.data.toList).length (Lib.fieldsD s.data.toList).length) ∧ w.heap.size ≤ A ∧
      w'.ownsRow w.heap.size T 1 (.slice (some ⟨A, 0, none⟩) (Lib.fieldsD s.data.toList).length (Lib.fieldsD s.data.toList).length) (Lib.fieldsD s.data.toList).length ((Lib.fieldsD s.data.toList).map fun x => Value.string ⟨x.toArray⟩) ∧ Below w.heap.size w w') : PrimOk P glb f fieldsA := by
  refine ⟨hb, fun K ι h w args args' v h' hk H R ev => ?_⟩
  obtain ⟨l'⟩ := args'
  simp only at R
  subst hk
  unfold fieldsA at ev
  split at ev
  · next s =>
    split at ev
    · next hs =>
      simp only [Option.some.injEq, Prod.mk.injEq] at ev
      obtain ⟨rfl, rfl⟩ := ev
      cases R with
      | cons _ _ x' r' r1 r2 =>
        cases r2
        obtain ⟨S, rfl, rfl⟩ := r1.str_inv
        have hs' : S.size < 4294967281 := by
          have : S.data.toList.length = S.size := rfl
          omega
        refine (C S w hs' H.fact).mono ?_
        rintro e w' ⟨A, he, hA, ho, hb⟩
        refine ⟨ι.put h.next (A, 0, 0), _, ι.le_put h.next _ (H.fresh h.next (Nat.le_refl _)).1, he, H.ownStrs hA ho hb, ?_⟩
        exact .slice h.next 0 _ _ A 0 0 ⟨A, 0, none⟩ (Emb.put_same _ _ _) (.inl rfl) (Nat.le_refl _)
    · simp at ev
  · simp at ev
end Go.Proofs.YtlggkknkbbhooaaGreat.Cm

/-
  The clean machine, part YU: maps.DeleteFunc told by the very entries and their order: a loop over a map that strikes what is named.
-/
namespace Go.Proofs.YtlggkknkbbhooaaGreat.Cm
open Go Go.RowKit Go.Maps Go.WideElems
open Go.ChangeMaps Go.MapKept

theorem sub_filter {α : Type} {p : α → Bool} : ∀ {l' l : List α}, l'.Sublist l → l.Nodup → (∀ x, x ∈ l' ↔ x ∈ l ∧ p x = true) → l' = l.filter p
  | _, _, .slnil, _, _ => rfl
  | l', x :: l, .cons _ s, nd, m => by
    have hx : x ∉ l := (List.nodup_cons.1 nd).1
    have hp : p x = false := by
      cases h : p x
      · rfl
      · have := (m x).2 ⟨List.mem_cons_self .., h⟩
        exact absurd (s.subset this) hx
    rw [List.filter_cons_of_neg (by simp [hp])]
    refine sub_filter s (List.nodup_cons.1 nd).2 fun y => ?_
    constructor
    · intro hy
      exact ⟨s.subset hy, ((m y).1 hy).2⟩
    · rintro ⟨hy, hpy⟩
      exact (m y).2 ⟨List.mem_cons_of_mem _ hy, hpy⟩
  | x :: l', _ :: l, .cons_cons _ s, nd, m => by
    have hx : x ∉ l := (List.nodup_cons.1 nd).1
    have hp := ((m x).1 (List.mem_cons_self ..)).2
    rw [List.filter_cons_of_pos hp]
    congr 1
    refine sub_filter s (List.nodup_cons.1 nd).2 fun y => ?_
    constructor
    · intro hy
      exact ⟨s.subset hy, ((m y).1 (List.mem_cons_of_mem _ hy)).2⟩
    · rintro ⟨hy, hpy⟩
      rcases List.mem_cons.1 ((m y).2 ⟨List.mem_cons_of_mem _ hy, hpy⟩) with h | h
      · subst h; exact absurd hy hx
      · exact h

section
variable {H : Type} {P : Program} {k : TypeId} {R : Value → Option (DataW H × List MemPlace)} {w0 w : World} {b r clock : Nat} {E : Array MapEntry} {pd : MapEntry → Bool} {seen : Array Nat}

/-- A loop over a map that strikes what 'pd' names is under way: what was seen and named is gone, all else stands in its order. -/
def Strk (w0 : World) (b r : Nat) (E : Array MapEntry) (clock : Nat) (pd : MapEntry → Bool) (seen : Array Nat) (w : World) : Prop :=
  ∃ E' : Array MapEntry, w.heap[b]? = some (.map E' clock) ∧ E'.toList = E.toList.filter (fun e => !(seen.contains e.born && pd e)) ∧
    (∃ c0, clock ≤ c0 ∧ w.heap[r]? = some (.mapIter (some b) clock seen c0)) ∧ w0.grownBy w (some b)

/-- .. and the entry 'e' has just come. -/
def Come (w0 : World) (b r : Nat) (E : Array MapEntry) (clock : Nat) (pd : MapEntry → Bool) (seen : Array Nat) (e : MapEntry) (w : World) : Prop :=
  e ∈ E.toList ∧ seen.contains e.born = false ∧ ∃ E' : Array MapEntry, w.heap[b]? = some (.map E' clock) ∧ E'.toList = E.toList.filter (fun e => !(seen.contains e.born && pd e)) ∧
    w.heap[r]? = some (.mapIter (some b) clock (seen.push e.born) clock) ∧ w0.grownBy w (some b)

theorem Strk.start {t e : TypeId} (ht : P.underlying t = some (.map k e)) (hb : w.heap[b]? = some (.map E clock)) :
    ∃ w', (Instr.range t (.map (some b))).run P w = .ok (.pointer (some ⟨w.heap.size, 0, none⟩)) w' ∧ Strk w b w.heap.size E clock pd #[] w' := by
  have hlt : b < w.heap.size := (Array.getElem?_eq_some_iff.1 hb).1
  refine ⟨_, run_range_map w t k e b E clock ht hb, E, ((MapKept.heap_alloc w _).2 b hlt).trans hb, ?_, ⟨clock, Nat.le_refl _, (MapKept.heap_alloc w _).1⟩, (World.grownBy_alloc w _ none).but _⟩
  symm
  exact List.filter_eq_self.2 fun e _ => by simp

theorem Strk.left (h : Strk w0 b r E clock pd seen w) : w.rangeLeft b r = (E.toList.filter fun e => !seen.contains e.born).length := by
  obtain ⟨E', hb, hE, ⟨c0, _, hr⟩, _⟩ := h
  simp only [World.rangeLeft, hb, hr]
  unfold leftOf
  rw [← Array.length_toList, Array.toList_filter, hE, List.filter_filter]
  congr 1
  refine List.filter_congr fun e _ => ?_
  cases seen.contains e.born <;> simp

theorem Strk.next (h : Strk w0 b r E clock pd seen w) (hrb : r ≠ b) (hr0 : w0.heap.size ≤ r) (hold : ∀ x ∈ E.toList, x.born < clock) (ty : TypeId) :
    ((∀ e ∈ E.toList, seen.contains e.born = true) ∧ (Instr.next (.pointer (some ⟨r, 0, none⟩)) false ty).run P w = .ok (.tuple #[.bool false]) w) ∨
    ∃ e w', (Instr.next (.pointer (some ⟨r, 0, none⟩)) false ty).run P w = .ok (.tuple #[.bool true, e.key, e.val]) w' ∧ Come w0 b r E clock pd seen e w' := by
  have hleft := h.left
  obtain ⟨E', hb, hE, ⟨c0, hc, hr⟩, hg⟩ := h
  have hold' : ∀ x ∈ E'.toList, x.born < clock := fun x hx => hold x (by rw [hE] at hx; exact (List.mem_filter.1 hx).1)
  rcases run_next_at (P := P) w ty r b clock c0 seen E' clock hr hb hold' hc with ⟨h0, hrun⟩ | ⟨e, he, w1, hal, hrun⟩
  · refine .inl ⟨fun e he => ?_, hrun⟩
    simp only [World.rangeLeft, hb, hr] at hleft
    rw [h0] at hleft
    have h2 := List.eq_nil_of_length_eq_zero hleft.symm
    cases hs : seen.contains e.born
    · have := (List.filter_eq_nil_iff.1 h2) e he
      rw [hs] at this
      simp at this
    · rfl
  · obtain ⟨hem, hes⟩ := mem_left he
    have hr1 : w1.heap[r]? = some (.mapIter (some b) clock seen c0) := by rcases hal with rfl | rfl <;> exact hr
    have hb1 : w1.heap[b]? = some (.map E' clock) := by rcases hal with rfl | rfl <;> exact hb
    have hset := heap_set (o' := .mapIter (some b) clock (seen.push e.born) clock) hr1
    rw [hE] at hem
    refine .inr ⟨e, _, hrun, (List.mem_filter.1 hem).1, hes, E', (hset.2 b (fun e1 => hrb e1.symm)).trans hb1, hE, hset.1, ?_⟩
    refine hg.andThen (b' := w) (row' := some r) ?_ (fun j hj => by cases hj; exact .inl hr0)
    rcases hal with rfl | rfl <;> exact ⟨rfl, rfl, rfl, by simp [setBlock], fun i _ hi => hset.2 i (fun e1 => hi (by rw [e1]))⟩

theorem Come.stay {e : MapEntry} (h : Come w0 b r E clock pd seen e w) (hn : (E.toList.map (·.born)).Nodup) (hp : pd e = false) : Strk w0 b r E clock pd (seen.push e.born) w := by
  obtain ⟨hm, hs, E', hb, hE, hr, hg⟩ := h
  refine ⟨E', hb, ?_, ⟨clock, Nat.le_refl _, hr⟩, hg⟩
  rw [hE]
  refine List.filter_congr fun x hx => ?_
  rw [contains_push]
  by_cases hb : x.born = e.born
  · obtain rfl := born_inj hn hx hm hb
    simp [hp]
  · have : (x.born == e.born) = false := by simp [hb]
    rw [this, Bool.or_false]

theorem Come.kept {e : MapEntry} {w' : World} (h : Come w0 b r E clock pd seen e w) (hg' : w.grownBy w' none) : Come w0 b r E clock pd seen e w' := by
  obtain ⟨hm, hs, E', hb, hE, hr, hg⟩ := h
  have lb := (Array.getElem?_eq_some_iff.1 hb).1
  have lr := (Array.getElem?_eq_some_iff.1 hr).1
  exact ⟨hm, hs, E', (hg'.block b lb (by simp)).trans hb, hE, (hg'.block r lr (by simp)).trans hr, hg.andThen hg' (fun j hj => by cases hj)⟩

theorem Come.drop {t e : TypeId} {x : MapEntry} (h : Come w0 b r E clock pd seen x w) (hrb : r ≠ b) (K : Keyed P k) (ht : P.underlying t = some (.map k e)) (F : Fit P k R E clock) {kl : Lit} (hkey : keyOf P k x.key = some kl) (hp : pd x = true) (ty : TypeId) :
    ∃ w', (Builtin.delete_ #[t, k] ty #[.map (some b), x.key]).run P w = .ok (.tuple #[]) w' ∧ Strk w0 b r E clock pd (seen.push x.born) w' := by
  obtain ⟨hm, hs, E', hb, hE, hr, hg⟩ := h
  have hst := (MapKept.stamped_iff E clock).1 F.stamped
  have nd : E.toList.Nodup := by
    have := hst.2.1
    exact List.Pairwise.of_map (·.born) (fun a b h e => h (by rw [e])) this
  have F' : Fit P k R E' clock := by
    refine ⟨?_, ?_, fun y hy => F.reads y (by rw [hE] at hy; exact (List.mem_filter.1 hy).1)⟩
    · have := List.length_filter_le (fun e => !(seen.contains e.born && pd e)) E.toList
      rw [← hE] at this
      have := F.size
      simp at *
      omega
    · refine (MapKept.stamped_iff E' clock).2 ⟨fun y hy => hst.1 y (by rw [hE] at hy; exact (List.mem_filter.1 hy).1), ?_, ?_⟩
      · rw [hE]; exact (List.filter_sublist.map _).nodup hst.2.1
      · rw [hE]; exact hst.2.2.sublist List.filter_sublist
  obtain ⟨E'', hrun, _, _, _, hsub, hwho⟩ := fit_drop_who (ty := ty) K ht hb F' hkey
  refine ⟨_, hrun, E'', heap_setBlock_same hb _, ?_, ⟨clock, Nat.le_refl _, (heap_setBlock_other hb _ hrb).trans hr⟩, ?_⟩
  · rw [sub_filter (p := fun y => !(y.born == x.born)) hsub (by rw [hE]; exact nd.sublist List.filter_sublist) fun y => ?_, hE, List.filter_filter]
    · refine List.filter_congr fun y hy => ?_
      rw [contains_push]
      by_cases hb : y.born = x.born
      · obtain rfl := born_inj hst.2.1 hy hm hb
        simp [hp]
      · have : (y.born == x.born) = false := by simp [hb]
        rw [this, Bool.or_false]; simp
    · rw [hwho y]
      refine and_congr_right fun hy => ?_
      have hy' : y ∈ E.toList := by rw [hE] at hy; exact (List.mem_filter.1 hy).1
      by_cases hb : y.born = x.born
      · obtain rfl := born_inj hst.2.1 hy' hm hb
        simp
      · simp only [hb, Bool.not_eq_true', beq_eq_false_iff_ne, ne_eq, not_false_eq_true, iff_true]
        intro e1
        exact hb (congrArg MapEntry.born (entry_eq_of_key hst.2.2 hy' hm e1))
  · exact ⟨hg.os, hg.tape, hg.output, by rw [show (setBlock w b (.map E'' clock)).heap.size = w.heap.size by simp [setBlock]]; exact hg.size, fun i hi hne => by
      rw [heap_setBlock_other hb _ (fun e1 => hne (by rw [e1]))]; exact hg.block i hi hne⟩

theorem Strk.done (h : Strk w0 b r E clock pd seen w) (hall : ∀ e ∈ E.toList, seen.contains e.born = true) : ∃ E' : Array MapEntry, w.heap[b]? = some (.map E' clock) ∧ E'.toList = E.toList.filter (fun e => !pd e) ∧ w0.grownBy w (some b) := by
  obtain ⟨E', hb, hE, _, hg⟩ := h
  exact ⟨E', hb, by rw [hE]; exact List.filter_congr fun e he => by rw [hall e he]; simp, hg⟩
end
end Go.Proofs.YtlggkknkbbhooaaGreat.Cm

/-
  The clean machine, part YV: slices.Sorted(maps.Keys(m)), m a map keyed by whole numbers; maps.DeleteFunc over keys that are pairs of numbers.
-/
namespace Go.Proofs.YtlggkknkbbhooaaGreat.Cm
open Go Go.RowKit Go.Maps Go.WideElems

def insI (x : Int) : List Int → List Int
  | [] => [x]
  | y :: l => if x ≤ y then x :: y :: l else y :: insI x l
def isort : List Int → List Int
  | [] => []
  | x :: l => insI x (isort l)
theorem insI_perm (x : Int) : ∀ l, (insI x l).Perm (x :: l)
  | [] => .refl _
  | y :: l => by
    unfold insI
    split
    · exact .refl _
    · exact ((insI_perm x l).cons y).trans (.swap x y l)
theorem isort_perm : ∀ l, (isort l).Perm l
  | [] => .refl _
  | x :: l => (insI_perm x _).trans ((isort_perm l).cons x)
theorem insI_sorted (x : Int) : ∀ {l : List Int}, l.Pairwise (· ≤ ·) → (insI x l).Pairwise (· ≤ ·)
  | [], _ => by simp [insI]
  | y :: l, h => by
    obtain ⟨h1, h2⟩ := List.pairwise_cons.1 h
    unfold insI
    split
    · next hxy =>
      refine List.pairwise_cons.2 ⟨fun z hz => ?_, h⟩
      rcases List.mem_cons.1 hz with rfl | hz
      · exact hxy
      · exact Int.le_trans hxy (h1 z hz)
    · next hxy =>
      refine List.pairwise_cons.2 ⟨fun z hz => ?_, insI_sorted x h2⟩
      rcases List.mem_cons.1 ((insI_perm x l).mem_iff.1 hz) with rfl | hz
      · omega
      · exact h1 z hz
theorem isort_sorted : ∀ l, (isort l).Pairwise (· ≤ ·)
  | [] => .nil
  | x :: l => insI_sorted x (isort_sorted l)
theorem isort_length (l : List Int) : (isort l).length = l.length := (isort_perm l).length_eq
theorem isort_merge {ss ks : List Int} (h : ss.Perm ks) : ss.mergeSort (fun x y => decide (x ≤ y)) = isort ks := by
  have tr : ∀ a b c : Int, decide (a ≤ b) = true → decide (b ≤ c) = true → decide (a ≤ c) = true := fun a b c h1 h2 => by simp only [decide_eq_true_eq] at *; omega
  have tot : ∀ a b : Int, (decide (a ≤ b) || decide (b ≤ a)) = true := fun a b => by simp only [Bool.or_eq_true, decide_eq_true_eq]; omega
  refine List.Perm.eq_of_pairwise (le := fun a b => decide (a ≤ b) = true) (fun a b _ _ h1 h2 => ?_) (List.pairwise_mergeSort tr tot ss) ((isort_sorted ks).imp fun h => by simpa using h) (((List.mergeSort_perm ss _).trans h).trans (isort_perm ks).symm)
  simp only [decide_eq_true_eq] at h1 h2
  omega

/-- Keys that are whole numbers. -/
def intKeysC : List (CVal × CVal) → Option (List Int)
  | [] => some []
  | (.int .i64 n, _) :: es => match intKeysC es with
    | some l => if -9223372036854775808 ≤ n ∧ n ≤ 9223372036854775807 then some (n :: l) else none
    | none => none
  | _ => none
theorem intKeysC_some : ∀ {es : List (CVal × CVal)} {ks : List Int}, intKeysC es = some ks → es.map (·.1) = ks.map (CVal.int .i64) ∧ ∀ n ∈ ks, -9223372036854775808 ≤ n ∧ n ≤ 9223372036854775807
  | [], ks, h => by simp [intKeysC] at h; subst h; exact ⟨rfl, fun n m => by simp at m⟩
  | (k, v) :: es, ks, h => by
    unfold intKeysC at h
    split at h
    · next heq => simp at heq
    · next n v' es' heq =>
      simp only [List.cons.injEq, Prod.mk.injEq] at heq
      obtain ⟨⟨rfl, rfl⟩, rfl⟩ := heq
      split at h
      · next l hl =>
        split at h
        · next hn =>
          simp only [Option.some.injEq] at h
          subst h
          obtain ⟨h1, h2⟩ := intKeysC_some hl
          exact ⟨by simp [h1], fun m hm => by rcases List.mem_cons.1 hm with rfl | hm; exact hn; exact h2 m hm⟩
        · simp at h
      · simp at h
    · simp at h
/-- Stamps that may be: each once, each before the clock; as many as entries. -/
def stOk (es : List (CVal × CVal)) (bs : List Nat) (c : Nat) : Bool := decide (bs.length = es.length) && decide (bs.Nodup) && bs.all (fun b => Nat.blt b c) && decide (es.length ≤ 1000000)
theorem stOk_iff {es : List (CVal × CVal)} {bs : List Nat} {c : Nat} : stOk es bs c = true ↔ bs.length = es.length ∧ bs.Nodup ∧ (∀ b ∈ bs, b < c) ∧ es.length ≤ 1000000 := by
  simp only [stOk, Bool.and_eq_true, decide_eq_true_eq, List.all_eq_true, Nat.blt_eq]
  constructor
  · rintro ⟨⟨⟨a, b⟩, c⟩, d⟩; exact ⟨a, b, c, d⟩
  · rintro ⟨a, b, c, d⟩; exact ⟨⟨⟨a, b⟩, c⟩, d⟩

def sortedP (g : FuncId) : List CVal → Heap → Option (CVal × Heap)
  | [.func f [] [.ptr i 0]], h => if f = g then match h.get i with
    | some (.kbox (.map m)) => match h.get m with
      | some (.map es _ (some (bs, c))) => match intKeysC es with
        | some ks => if stOk es bs c = true ∧ ks.Nodup then (match ks with
          | [] => some (.nilSlice, h)
          | _ :: _ => some (.slice h.next 0 ks.length ks.length, h.new (.cells ((isort ks).map (.int .i64)) true (some 1)))) else none
        | none => none
      | _ => none
    | _ => none
    else none
  | _, _ => none

/-- A map keyed by whole numbers, whatever its elements. -/
theorem ownsMap_ints {P : Program} {k : TypeId} (hk : P.underlying k = some (.int .i64)) {w : World} {b clock : Nat} {E : Array MapEntry} {ks : List Int} (hb : w.heap[b]? = some (.map E clock)) (keys : E.toList.map (·.key) = ks.map (.int .i64))
    (hr : ∀ n ∈ ks, -9223372036854775808 ≤ n ∧ n ≤ 9223372036854775807) (nd : ks.Nodup) (bn : (E.toList.map (·.born)).Nodup) (bc : ∀ x ∈ E.toList, x.born < clock) (hs : ks.length ≤ 1000000) :
    ∃ D : DataW Unit, w.ownsMap P k (fun _ => some (.nil, [])) b E.size D ∧ (intKeys D).Perm ks ∧ Maps.size D = ks.length := by
  have hlen : E.size = ks.length := by
    have := congrArg List.length keys
    simpa using this
  have rd : ∀ x ∈ E.toList, ∃ n : Int, x.key = .int .i64 n ∧ rd (H := Unit) P k (fun _ => some (.nil, [])) x = some (.int .i64 n, .nil) := by
    intro x hx
    have : x.key ∈ ks.map (Value.int .i64) := by rw [← keys]; exact List.mem_map.2 ⟨x, hx, rfl⟩
    obtain ⟨n, hn, e⟩ := List.mem_map.1 this
    have hw : (Lit.int .i64 n).wf = true := by
      have := hr n hn
      show (decide (IntKind.i64.min ≤ n) && decide (n ≤ IntKind.i64.max)) = true
      have e1 : IntKind.i64.min = -9223372036854775808 := by decide
      have e2 : IntKind.i64.max = 9223372036854775807 := by decide
      rw [Bool.and_eq_true, decide_eq_true_eq, decide_eq_true_eq]
      omega
    refine ⟨n, e.symm, ?_⟩
    have hkey := Maps.keyOf_int_mk (k := k) hk hw
    simp only [WideElems.rd, ← e, hkey, Option.bind_some, Option.map_some]
  have L : E.toList.map (fun x => _root_.Go.intOf (rg (H := Unit) P k (fun _ => some (.nil, [])) x).1) = ks := by
    have h1 : (E.toList.map (·.key)).map (fun v => match v with | .int _ n => n | _ => 0) = ks := by rw [keys, List.map_map]; exact (List.map_congr_left (fun _ _ => rfl)).trans (List.map_id ks)
    rw [← h1, List.map_map]
    refine List.map_congr_left fun x hx => ?_
    obtain ⟨n, e1, e2⟩ := rd x hx
    rw [rg_of e2]
    simp [e1, _root_.Go.intOf]
  refine ⟨.map ((E.toList.map (rg P k fun _ => some (.nil, []))).foldr DataW.insert []), ⟨E, clock, hb, ⟨?_, ?_, fun x hx => ?_⟩, Nat.le_refl _, rfl⟩, ?_, ?_⟩
  · have : (1000000 : Nat) ≤ maxLen := by decide
    omega
  · refine ⟨bc, bn, ?_⟩
    rw [keys]
    exact List.Pairwise.map _ (fun a b h e => h (by simpa using e)) nd
  · obtain ⟨n, _, e2⟩ := rd x hx
    exact ⟨_, e2⟩
  · show (((E.toList.map (rg P k fun _ => some (.nil, []))).foldr DataW.insert []).map fun p => _root_.Go.intOf p.1).Perm ks
    refine ((Go.WideShapes.sorted_perm _).map _).trans ?_
    rw [List.map_map]
    exact L ▸ .refl _
  · show ((E.toList.map (rg P k fun _ => some (.nil, []))).foldr DataW.insert []).length = _
    rw [(Go.WideShapes.sorted_perm _).length_eq, List.length_map, Array.length_toList, hlen]

theorem Inv.ownInts {K : Ctx} {ι : Emb} {h : Heap} {w w' : World} (H : Inv K ι h w) {T : TypeId} {A cap : Nat} {l : List Int} (hA : w.heap.size ≤ A)
    (o : w'.ownsRow w.heap.size T 1 (.slice (some ⟨A, 0, none⟩) l.length cap) l.length (l.map (Value.int .i64))) (b : Below w.heap.size w w') :
    Inv K (ι.put h.next (A, 0, cap - l.length)) (h.new (.cells (l.map (.int .i64)) true (some 1))) w' ∧ l.length ≤ cap := by
  have hle := ι.le_put h.next (A, 0, cap - l.length) (H.fresh _ (Nat.le_refl _)).1
  obtain ⟨_, o⟩ := o
  rcases o with ⟨o, _⟩ | ⟨g, cap', cur, ev, hg, hc, hcap, _, hsz, ht⟩
  · simp at o
  · simp only [Value.slice.injEq, Option.some.injEq, Addr.mk.injEq] at ev
    obtain ⟨⟨rfl, _⟩, _, rfl⟩ := ev
    have hA' := (Array.getElem?_eq_some_iff.1 hc).1
    refine ⟨H.adopt (keeps_of_below b) _ hA hA' ⟨A, 0, cap - l.length, cur, T, 0, 0, Emb.put_same _ _ _, hc, fun j v hv => ?_, fun e => by simp at e, fun _ => ⟨fun hk => ?_, fun j hj => ?_⟩⟩, hcap⟩
    · rw [List.getElem?_map] at hv
      cases hq : l[j]? with
      | none => rw [hq] at hv; simp at hv
      | some z =>
        rw [hq] at hv
        simp only [Option.map_some, Option.some.injEq] at hv
        subst hv
        refine ⟨rfl, .int .i64 z, ?_, .int _ _⟩
        have h2 : (l.map (Value.int .i64))[j]? = some (.int .i64 z) := by rw [List.getElem?_map, hq]; rfl
        rw [← ht, List.getElem?_take] at h2
        split at h2
        · simpa using h2
        · simp at h2
    · have := H.hF _ hk; have := H.keep.size; omega
    · simp at hj
      exact ⟨by omega, by omega⟩

theorem VRs.intsL {ι : Emb} : ∀ {l : List Int} {l' : List Value}, VRs ι (l.map (CVal.int .i64)) l' → l' = l.map (Value.int .i64)
  | [], _, .nil => rfl
  | n :: l, _, .cons _ _ _ _ h1 h2 => by
    cases h1
    rw [VRs.intsL h2]; rfl

def keysP (g : FuncId) : List CVal → Heap → Option (CVal × Heap)
  | [.map m], h => some (.func g [] [.ptr h.next 0], h.new (.kbox (.map m)))
  | _, _ => none
theorem keys_ok {P : Program} {glb : Gl} {f g : FuncId} (hb : HasBody P f) {T : TypeId}
    (C : ∀ (b : Nat) (w : World), Calls P f #[.map (some b)] w fun e w' => e = .returned (.func (.func g) #[] #[.pointer (some ⟨w.heap.size, 0, none⟩)]) ∧ w' = w.alloc (.cells #[.map (some b)] T)) : PrimOk P glb f (keysP g) := by
  refine ⟨hb, fun K ι h w args args' v h' hk H R ev => ?_⟩
  obtain ⟨l'⟩ := args'
  simp only at R
  subst hk
  unfold keysP at ev
  split at ev
  · next m =>
    simp only [Option.some.injEq, Prod.mk.injEq] at ev
    obtain ⟨rfl, rfl⟩ := ev
    cases R with
    | cons _ _ x' r' r1 r2 =>
      cases r2
      cases r1 with
      | map _ bm βm em hm =>
        have hfr := (H.fresh h.next (Nat.le_refl _)).1
        have hle := ι.le_put h.next (w.heap.size, 0, 0) hfr
        refine (C bm w).mono ?_
        rintro e w' ⟨he, rfl⟩
        refine ⟨_, _, hle, he, H.new (.kbox (.map m)) (.cells #[.map (some bm)] T) 0 w.drawn ⟨w.heap.size, 0, .map (some bm), #[.map (some bm)], T, (0, 0), Emb.put_same _ _ _, by simp, rfl, .map _ _ _ _ (hle _ _ hm)⟩, ?_⟩
        refine .func _ _ _ _ _ .nil (.cons _ _ _ _ ?_ .nil)
        exact .ptr h.next 0 w.heap.size 0 0 (Emb.put_same _ _ _)
  · simp at ev

theorem sorted_ok {P : Program} {glb : Gl} {f g : FuncId} (hb : HasBody P f) {T : TypeId}
    (C : ∀ (A b clock : Nat) (E : Array MapEntry) (ks : List Int) (w : World), w.cell? ⟨A, 0, none⟩ = some (.map (some b)) → w.heap[b]? = some (.map E clock) → E.toList.map (·.key) = ks.map (.int .i64) →
      (∀ n ∈ ks, -9223372036854775808 ≤ n ∧ n ≤ 9223372036854775807) → ks.Nodup → (E.toList.map (·.born)).Nodup → (∀ x ∈ E.toList, x.born < clock) → ks.length ≤ 1000000 →
      Calls P f #[.func (.func g) #[] #[.pointer (some ⟨A, 0, none⟩)]] w fun e w' => ∃ v, e = .returned v ∧ w'.ownsRow w.heap.size T 1 v ks.length ((isort ks).map (Value.int .i64)) ∧ (v = .slice none 0 0 ↔ ks = []) ∧ Below w.heap.size w w') : PrimOk P glb f (sortedP g) := by
  refine ⟨hb, fun K ι h w args args' v h' hk H R ev => ?_⟩
  obtain ⟨l'⟩ := args'
  simp only at R
  subst hk
  unfold sortedP at ev
  split at ev
  · next f' i =>
    split at ev
    · next hf =>
      subst hf
      split at ev
      · next m hgi =>
        split at ev
        · next es wr bs c hgm =>
          split at ev
          · next ks hks =>
            split at ev
            · next hg =>
              obtain ⟨hst, hnd⟩ := hg
              obtain ⟨q1, q2, q3, q4⟩ := stOk_iff.1 hst
              obtain ⟨k1, k2⟩ := intKeysC_some hks
              cases R with
              | cons _ _ x' r' r1 r2 =>
                cases r2
                cases r1 with
                | func f₁ p₁ c₁ p₂ c₂ rp rc =>
                  obtain ⟨p₂⟩ := p₂
                  obtain ⟨c₂⟩ := c₂
                  simp only at rp rc
                  cases rp
                  cases rc with
                  | cons _ _ x2 r3 r4 r5 =>
                    cases r5
                    cases r4 with
                    | ptr i₁ o₁ b₁ β₁ e₁ hi₁ =>
                      obtain ⟨bA, eA, mv, CA, elA, fz, g1, g2, g4, g5⟩ := H.obj i _ hgi
                      rw [hi₁] at g1
                      simp only [Option.some.injEq, Prod.mk.injEq] at g1
                      obtain ⟨rfl, rfl, rfl⟩ := g1
                      cases g5 with
                      | map _ bm βm em hm =>
                        obtain ⟨bm', em', E, clock, g6, g7, g8, g9, _⟩ := H.obj m _ hgm
                        rw [hm] at g6
                        simp only [Option.some.injEq, Prod.mk.injEq] at g6
                        obtain ⟨rfl, rfl, rfl⟩ := g6
                        obtain ⟨g9, rfl⟩ := g9
                        have keys : E.toList.map (·.key) = ks.map (Value.int .i64) := VRs.intsL (k1 ▸ g8.1)
                        have hA : w.cell? ⟨b₁, 0, none⟩ = some (.map (some bm)) := by
                          unfold World.cell?
                          simp only [g2, Option.isSome_none, Bool.false_eq_true, if_false]
                          exact g4
                        refine (C b₁ bm clock E ks w hA g7 keys k2 hnd (by rw [g9]; exact q2) (fun x hx => q3 _ (by rw [← g9]; exact List.mem_map.2 ⟨x, hx, rfl⟩)) ?_).mono ?_
                        · have := congrArg List.length k1
                          simp at this; omega
                        · rintro e w' ⟨v, he, ho, hnil, hbl⟩
                          cases ks with
                          | nil =>
                            simp only [Option.some.injEq, Prod.mk.injEq] at ev
                            obtain ⟨rfl, rfl⟩ := ev
                            obtain rfl := hnil.2 rfl
                            exact ⟨ι, _, Emb.le.refl _, he, H.later (keeps_of_below hbl), .nilSlice⟩
                          | cons k₀ ks₀ =>
                            simp only [Option.some.injEq, Prod.mk.injEq] at ev
                            obtain ⟨rfl, rfl⟩ := ev
                            have hne : v ≠ .slice none 0 0 := fun e1 => by simpa using hnil.1 e1
                            have ho' := ho
                            obtain ⟨_, ho⟩ := ho
                            rcases ho with ⟨e1, _⟩ | ⟨A, cap, cur, rfl, hA', _⟩
                            · exact (hne e1).elim
                            · rw [← isort_length] at ho'
                              obtain ⟨H', hcap⟩ := H.ownInts hA' ho' hbl
                              refine ⟨_, _, ι.le_put h.next _ (H.fresh _ (Nat.le_refl _)).1, he, H', ?_⟩
                              rw [isort_length] at hcap ⊢
                              have := VR.slice (ι := ι.put h.next (A, 0, cap - (k₀ :: ks₀).length)) h.next 0 (k₀ :: ks₀).length (k₀ :: ks₀).length A 0 (cap - (k₀ :: ks₀).length) ⟨A, 0, none⟩ (Emb.put_same _ _ _) (.inl rfl) (Nat.le_refl _)
                              rw [Nat.add_sub_cancel' hcap] at this
                              exact this
            · simp at ev
          · simp at ev
        · simp at ev
      · simp at ev
    · simp at ev
  · simp at ev
/-! ### maps.DeleteFunc over keys that are pairs of numbers, the first of which is held against one that a closure has caught -/

def pairKeysC : List (CVal × CVal) → Option (List (Int × Int))
  | [] => some []
  | (.agg [.int .i64 p, .int .i64 q], .int .i64 _) :: es => match pairKeysC es with
    | some l => if (-9223372036854775808 ≤ p ∧ p ≤ 9223372036854775807) ∧ -9223372036854775808 ≤ q ∧ q ≤ 9223372036854775807 then some ((p, q) :: l) else none
    | none => none
  | _ => none
def isPid (pid : Int) : CVal → Bool
  | .agg [.int .i64 p, _] => p == pid
  | _ => false
def pdKey (pid : Int) : List Value → Bool
  | [.int .i64 p, _] => p == pid
  | _ => false
def pdPid (pid : Int) (x : MapEntry) : Bool := match x.key with
  | .agg cs => pdKey pid cs.toList
  | _ => false
def strikeC (pid : Int) (es : List (CVal × CVal)) (bs : List Nat) : List ((CVal × CVal) × Nat) := (es.zip bs).filter fun x => !isPid pid x.1.1
def delP (g : FuncId) : List CVal → Heap → Option (CVal × Heap)
  | [.map i, .func f [] [.ptr j o]], h => if f = g then match h.get j with
    | some (.cells vs _ _) => match vs[o]? with
      | some (.int .i64 pid) => match h.get i with
        | some (.map es true (some (bs, c))) => match pairKeysC es with
          | some ks => if stOk es bs c = true ∧ ks.Nodup then some (.un, h.set i (.map ((strikeC pid es bs).map (·.1)) true (some ((strikeC pid es bs).map (·.2), c)))) else none
          | none => none
        | _ => none
      | _ => none
    | _ => none
    else none
  | _, _ => none

/-- An entry whose key is a pair of numbers and whose element is a number. -/
def PairE (x : MapEntry) (k : Int × Int) : Prop := x.key = .agg #[.int .i64 k.1, .int .i64 k.2] ∧ ∃ n : Int, x.val = .int .i64 n
def PairsE : List MapEntry → List (Int × Int) → Prop
  | [], [] => True
  | x :: E, k :: ks => PairE x k ∧ PairsE E ks
  | _, _ => False
theorem PairsE.get : ∀ {E : List MapEntry} {ks : List (Int × Int)}, PairsE E ks → E.map (·.key) = ks.map (fun k => Value.agg #[.int .i64 k.1, .int .i64 k.2]) ∧ ∀ x ∈ E, ∃ k ∈ ks, PairE x k
  | [], [], _ => ⟨rfl, fun x m => by simp at m⟩
  | x :: E, k :: ks, h => by
    obtain ⟨h1, h2⟩ := h
    obtain ⟨e1, e2⟩ := PairsE.get h2
    refine ⟨by rw [List.map_cons, List.map_cons, e1, h1.1], fun y hy => ?_⟩
    rcases List.mem_cons.1 hy with rfl | hy
    · exact ⟨k, List.mem_cons_self .., h1⟩
    · obtain ⟨k', m, h⟩ := e2 y hy
      exact ⟨k', List.mem_cons_of_mem _ m, h⟩
theorem pairs_rel {ι : Emb} {pid : Int} : ∀ {es : List (CVal × CVal)} {E : List MapEntry} {bs : List Nat} {ks : List (Int × Int)}, pairKeysC es = some ks → EsR ι es E → E.map (·.born) = bs →
    PairsE E ks ∧ (∀ k ∈ ks, (-9223372036854775808 ≤ k.1 ∧ k.1 ≤ 9223372036854775807) ∧ -9223372036854775808 ≤ k.2 ∧ k.2 ≤ 9223372036854775807) ∧
    EsR ι ((strikeC pid es bs).map (·.1)) (E.filter fun x => !pdPid pid x) ∧ (E.filter fun x => !pdPid pid x).map (·.born) = (strikeC pid es bs).map (·.2)
  | [], E, bs, ks, h, R, hb => by
    obtain rfl := R.nil_inv
    subst hb
    simp only [pairKeysC, Option.some.injEq] at h
    subst h
    exact ⟨trivial, fun k m => by simp at m, ⟨.nil, .nil⟩, rfl⟩
  | e :: es, E, bs, ks, h, R, hb => by
    obtain ⟨x, xs, rfl, r1, r2, r3⟩ := R.cons_inv
    subst hb
    unfold pairKeysC at h
    split at h
    · next heq => simp at heq
    · next p q n es' heq =>
      simp only [List.cons.injEq] at heq
      obtain ⟨rfl, rfl⟩ := heq
      split at h
      · next l hl =>
        split at h
        · next hr =>
          simp only [Option.some.injEq] at h
          subst h
          obtain ⟨i1, i2, i3, i4⟩ := pairs_rel (pid := pid) hl r3 rfl
          have ek : x.key = .agg #[.int .i64 p, .int .i64 q] := by
            generalize x.key = k at r1
            cases r1 with
            | agg _ cs' rr =>
              obtain ⟨l⟩ := cs'
              simp only at rr
              cases rr with
              | cons _ _ _ _ a b =>
                cases a
                cases b with
                | cons _ _ _ _ a b => cases a; cases b; rfl
          have ev : x.val = .int .i64 n := by
            generalize x.val = k at r2
            cases r2; rfl
          have ep : pdPid pid x = (p == pid) := by unfold pdPid; rw [ek]; rfl
          have ec : isPid pid (.agg [.int .i64 p, .int .i64 q]) = (p == pid) := rfl
          refine ⟨⟨⟨ek, n, ev⟩, i1⟩, fun k hk => ?_, ?_⟩
          · rcases List.mem_cons.1 hk with rfl | hk
            · exact hr
            · exact i2 k hk
          · have es : strikeC pid ((.agg [.int .i64 p, .int .i64 q], .int .i64 n) :: es) ((x :: xs).map (·.born)) = if (p == pid) = true then strikeC pid es (xs.map (·.born)) else ((.agg [.int .i64 p, .int .i64 q], .int .i64 n), x.born) :: strikeC pid es (xs.map (·.born)) := by
              simp only [strikeC, List.map_cons, List.zip_cons_cons, List.filter_cons, ec]
              cases p == pid <;> rfl
            rw [es, List.filter_cons, ep]
            cases hp : p == pid
            · simp only [Bool.not_false, if_true, Bool.false_eq_true, if_false, List.map_cons]
              exact ⟨⟨.cons _ _ _ _ r1 i3.1, .cons _ _ _ _ r2 i3.2⟩, by rw [i4]⟩
            · simp only [Bool.not_true, Bool.false_eq_true, if_false, if_true]
              exact ⟨i3, i4⟩
        · simp at h
      · simp at h
    · simp at h
theorem Inv.struck {K : Ctx} {ι : Emb} {h : Heap} {w w' : World} (H : Inv K ι h w) {i : Nat} {es es' : List (CVal × CVal)} {st : Option (List Nat × Nat)} {bs' : List Nat} {clock : Nat} (hget : h.get i = some (.map es true st)) {b ex : Nat} (hi : ι i = some (b, 0, ex)) {E' : Array MapEntry}
    (hb : w'.heap[b]? = some (.map E' clock)) (R : EsR ι es' E'.toList) (hbs : E'.toList.map (·.born) = bs') (hg : w.grownBy w' (some b)) : Inv K ι (h.set i (.map es' true (some (bs', clock)))) w' := by
  obtain ⟨b1, e1, E, c, h1, h2, h3, hst, h4⟩ := H.obj i _ hget
  rw [hi] at h1; simp at h1; obtain ⟨rfl, rfl⟩ := h1
  have hlt := (Array.getElem?_eq_some_iff.1 h2).1
  have hlt' := (Array.getElem?_eq_some_iff.1 hb).1
  -- the world in which that block stands as it did
  have H1 : Inv K ι h { w' with heap := w'.heap.setIfInBounds b (.map E c) } := H.later ⟨hg.os, hg.tape, hg.output, by simp; exact hg.size, fun k hk => by
    show (w'.heap.setIfInBounds b (.map E c))[k]? = _
    by_cases e : b = k
    · subst e; simp [hlt', h2]
    · rw [Array.getElem?_setIfInBounds_ne e]
      exact hg.block k hk (fun e' => e (by simpa using e'.symm))⟩
  refine H1.turn (o' := .map es' true (some (bs', clock))) hget rfl hi w' rfl rfl rfl (by simp) (fun k hk => ?_) ⟨b, ex, E', clock, hi, hb, R, ⟨hbs, rfl⟩, fun hw => h4 hw⟩
  show _ = (w'.heap.setIfInBounds b (.map E c))[k]?
  rw [Array.getElem?_setIfInBounds_ne (Ne.symm hk)]

theorem del_ok {P : Program} {glb : Gl} {f g : FuncId} (hb : HasBody P f)
    (C : ∀ (b clock bx o : Nat) (pid : Int) (E : Array MapEntry) (ks : List (Int × Int)) (w : World), w.heap[b]? = some (.map E clock) → PairsE E.toList ks → (∀ k ∈ ks, (-9223372036854775808 ≤ k.1 ∧ k.1 ≤ 9223372036854775807) ∧ -9223372036854775808 ≤ k.2 ∧ k.2 ≤ 9223372036854775807) → ks.Nodup →
      (E.toList.map (·.born)).Nodup → (∀ x ∈ E.toList, x.born < clock) → E.size ≤ 1000000 → w.cell? ⟨bx, o, none⟩ = some (.int .i64 pid) → bx ≠ b →
      Calls P f #[.map (some b), .func (.func g) #[] #[.pointer (some ⟨bx, o, none⟩)]] w fun e w' => e = .returned (.tuple #[]) ∧ ∃ E' : Array MapEntry, w'.heap[b]? = some (.map E' clock) ∧ E'.toList = E.toList.filter (fun x => !pdPid pid x) ∧ w.grownBy w' (some b)) : PrimOk P glb f (delP g) := by
  refine ⟨hb, fun K ι h w args args' v h' hk H R ev => ?_⟩
  obtain ⟨l'⟩ := args'
  simp only at R
  subst hk
  unfold delP at ev
  split at ev
  · next i f' j o =>
    split at ev
    · next hf =>
      subst hf
      split at ev
      · next vs wr opn hgj =>
        split at ev
        · next pid hvo =>
          split at ev
          · next es bs c hgi =>
            split at ev
            · next ks hks =>
              split at ev
              · next hg =>
                simp only [Option.some.injEq, Prod.mk.injEq] at ev
                obtain ⟨rfl, rfl⟩ := ev
                obtain ⟨hst, hnd⟩ := hg
                obtain ⟨q1, q2, q3, q4⟩ := stOk_iff.1 hst
                cases R with
                | cons _ _ x1 r1 a1 a2 =>
                  cases a2 with
                  | cons _ _ x2 r2 a3 a4 =>
                    cases a4
                    cases a1 with
                    | map _ bm βm em hm =>
                      cases a3 with
                      | func f₁ p₁ c₁ p₂ c₂ rp rc =>
                        obtain ⟨p₂⟩ := p₂
                        obtain ⟨c₂⟩ := c₂
                        simp only at rp rc
                        cases rp
                        cases rc with
                        | cons _ _ x3 r3 r4 r5 =>
                          cases r5
                          cases r4 with
                          | ptr i₁ o₁ b₁ β₁ e₁ hi₁ =>
                            obtain ⟨bj, βj, ej, Cj, elj, lo, hi, g1, g2, g3, _, _⟩ := H.obj j _ hgj
                            rw [hi₁] at g1
                            simp only [Option.some.injEq, Prod.mk.injEq] at g1
                            obtain ⟨rfl, rfl, rfl⟩ := g1
                            obtain ⟨_, pv, g4, g5⟩ := g3 o (.int .i64 pid) hvo
                            cases g5
                            obtain ⟨bm', em', E, clock, g6, g7, g8, g9, _⟩ := H.obj i _ hgi
                            rw [hm] at g6
                            simp only [Option.some.injEq, Prod.mk.injEq] at g6
                            obtain ⟨rfl, rfl, rfl⟩ := g6
                            obtain ⟨g9, rfl⟩ := g9
                            obtain ⟨k1, k2, k3, k4⟩ := pairs_rel (pid := pid) hks g8 g9
                            have hcell : w.cell? ⟨b₁, β₁ + o, none⟩ = some (.int .i64 pid) := by
                              unfold World.cell?
                              simp only [g2, Option.isSome_none, Bool.false_eq_true, if_false]
                              exact g4
                            have hne : b₁ ≠ bm := fun e => by rw [e, g7] at g2; simp at g2
                            have hsz : E.size ≤ 1000000 := by
                              have := congrArg List.length g9
                              simp at this; omega
                            refine (C bm clock b₁ (β₁ + o) pid E ks w g7 k1 k2 hnd (by rw [g9]; exact q2) (fun x hx => q3 _ (by rw [← g9]; exact List.mem_map.2 ⟨x, hx, rfl⟩)) hsz hcell hne).mono ?_
                            rintro e w' ⟨he, E', hE1, hE2, hgr⟩
                            exact ⟨ι, _, Emb.le.refl _, he, H.struck hgi hm hE1 (by rw [hE2]; exact k3) (by rw [hE2]; exact k4) hgr, .tuple _ _ .nil⟩
              · simp at ev
            · simp at ev
          · simp at ev
        · simp at ev
      · simp at ev
    · simp at ev
  · simp at ev
end Go.Proofs.YtlggkknkbbhooaaGreat.Cm

/-
  The clean machine, part YW: maps whose keys are of one kind, as lists of keys and elements.
-/
namespace Go.Proofs.YtlggkknkbbhooaaGreat.Cm
open Go.RowKit

/-- Keys of one kind: the machine tells them apart as Lean does. -/
structure KeyE {α : Type} [DecidableEq α] (kt : KT) (f : α → CVal) : Prop where
  eq : ∀ a b, keyeq kt (f a) (f b) = some (decide (a = b))
  ok : ∀ a, keyok kt (f a) = true
def keyI (n : Int) : CVal := .int .i64 n
theorem KeyE.int : KeyE (.one .int) keyI where
  eq := fun a b => by
    simp only [keyeq, keyI, peq, if_true]
    by_cases h : a = b <;> simp [h]
  ok := fun _ => rfl
def keyP (p : Int × Int) : CVal := .agg [.int .i64 p.1, .int .i64 p.2]
theorem KeyE.pair : KeyE (.flat [.int, .int]) keyP where
  eq := fun a b => by
    obtain ⟨a1, a2⟩ := a
    obtain ⟨b1, b2⟩ := b
    simp only [keyeq, keyP, peqs, peq, if_true, Prod.mk.injEq]
    by_cases h1 : a1 = b1 <;> by_cases h2 : a2 = b2 <;> simp [h1, h2]
  ok := fun _ => rfl

section
variable {α : Type} [DecidableEq α] {kt : KT} {f : α → CVal}
def mapE (f : α → CVal) (L : List (α × CVal)) : List (CVal × CVal) := L.map fun x => (f x.1, x.2)
omit [DecidableEq α] in
theorem mapE_length (L : List (α × CVal)) : (mapE f L).length = L.length := List.length_map _
def findA (x : α) : List (α × CVal) → Nat → Option (Nat × CVal)
  | [], _ => none
  | e :: L, n => if x = e.1 then some (n, e.2) else findA x L (n + 1)
def lookA (x : α) (L : List (α × CVal)) : Option CVal := (findA x L 0).map (·.2)
theorem findK_A (E : KeyE kt f) (x : α) : ∀ (L : List (α × CVal)) (n : Nat), findK kt (f x) (mapE f L) n = some (findA x L n)
  | [], _ => rfl
  | e :: L, n => by
    show (match keyeq kt (f x) (f e.1) with | some true => _ | some false => _ | none => _) = _
    rw [E.eq]
    by_cases h : x = e.1
    · simp [findA, h]
    · simp only [findA, if_neg h, decide_eq_false h]
      exact findK_A E x L (n + 1)
theorem findA_shift (x : α) : ∀ (L : List (α × CVal)) (n : Nat), findA x L n = (findA x L 0).map fun q => (n + q.1, q.2)
  | [], _ => rfl
  | e :: L, n => by
    simp only [findA]
    split
    · simp
    · rw [findA_shift x L (n + 1), findA_shift x L (0 + 1)]
      cases findA x L 0 with
      | none => rfl
      | some q => simp; omega
theorem findA_at {x : α} : ∀ {L : List (α × CVal)} {j : Nat} {v : CVal}, findA x L 0 = some (j, v) → L[j]? = some (x, v) ∧ ∀ i, i < j → ∀ e, L[i]? = some e → e.1 ≠ x
  | [], _, _, h => by simp [findA] at h
  | e :: L, j, v, h => by
    simp only [findA] at h
    split at h
    · next hx =>
      simp only [Option.some.injEq, Prod.mk.injEq] at h
      obtain ⟨rfl, rfl⟩ := h
      exact ⟨by rw [hx]; rfl, fun i hi => by omega⟩
    · next hx =>
      rw [findA_shift] at h
      cases hq : findA x L 0 with
      | none => rw [hq] at h; simp at h
      | some q =>
        rw [hq] at h
        simp only [Option.map_some, Option.some.injEq, Prod.mk.injEq] at h
        obtain ⟨rfl, rfl⟩ := h
        obtain ⟨h1, h2⟩ := findA_at hq
        rw [show 0 + 1 + q.1 = q.1 + 1 by omega]
        refine ⟨by simpa using h1, fun i hi e' he => ?_⟩
        cases i with
        | zero => simp at he; subst he; exact fun e => hx e.symm
        | succ i => exact h2 i (by omega) e' (by simpa using he)
theorem findA_none {x : α} : ∀ {L : List (α × CVal)}, findA x L 0 = none → x ∉ L.map (·.1)
  | [], _ => by simp
  | e :: L, h => by
    simp only [findA] at h
    split at h
    · simp at h
    · next hx =>
      rw [findA_shift] at h
      have := findA_none (x := x) (L := L) (by cases hq : findA x L 0 with | none => rfl | some q => rw [hq] at h; simp at h)
      simp only [List.map_cons, List.mem_cons, not_or]
      exact ⟨hx, this⟩
theorem lookA_cons (x : α) (e : α × CVal) (L : List (α × CVal)) : lookA x (e :: L) = if x = e.1 then some e.2 else lookA x L := by
  simp only [lookA, findA]
  split
  · rfl
  · rw [findA_shift]; cases findA x L 0 <;> rfl
theorem lookA_mem {x : α} {L : List (α × CVal)} : lookA x L = none ↔ x ∉ L.map (·.1) := by
  induction L with
  | nil => simp [lookA, findA]
  | cons e L ih =>
    rw [lookA_cons]
    by_cases h : x = e.1
    · simp [h]
    · simp [h, ih]
theorem lookA_append {x : α} {L M : List (α × CVal)} : lookA x (L ++ M) = (lookA x L).or (lookA x M) := by
  induction L with
  | nil => simp [lookA, findA]
  | cons e L ih =>
    rw [List.cons_append, lookA_cons, lookA_cons, ih]
    split <;> simp
/-- 'm[x] = z'. -/
def setA (x : α) (z : CVal) (L : List (α × CVal)) : List (α × CVal) := match findA x L 0 with
  | some q => L.set q.1 (x, z)
  | none => L ++ [(x, z)]
theorem lookA_set {x y : α} {z : CVal} : ∀ {L : List (α × CVal)} {j : Nat} {v : CVal}, findA x L 0 = some (j, v) → lookA y (L.set j (x, z)) = if y = x then some z else lookA y L
  | [], _, _, h => by simp [findA] at h
  | e :: L, j, v, h => by
    simp only [findA] at h
    split at h
    · next hx =>
      simp only [Option.some.injEq, Prod.mk.injEq] at h
      obtain ⟨rfl, rfl⟩ := h
      rw [List.set_cons_zero, lookA_cons, lookA_cons, ← hx]
      by_cases hy : y = x <;> simp [hy]
    · next hx =>
      rw [findA_shift] at h
      cases hq : findA x L 0 with
      | none => rw [hq] at h; simp at h
      | some q =>
        rw [hq] at h
        simp only [Option.map_some, Option.some.injEq, Prod.mk.injEq] at h
        obtain ⟨rfl, rfl⟩ := h
        rw [show 0 + 1 + q.1 = q.1 + 1 by omega, List.set_cons_succ, lookA_cons, lookA_cons, lookA_set (v := q.2) hq]
        by_cases hy : y = x
        · subst hy; simp [hx]
        · simp [hy]
theorem lookA_setA (x y : α) (z : CVal) (L : List (α × CVal)) : lookA y (setA x z L) = if y = x then some z else lookA y L := by
  unfold setA
  split
  · next q hq => exact lookA_set (v := q.2) hq
  · next hq =>
    rw [lookA_append, lookA_cons]
    have : lookA x L = none := by simp [lookA, hq]
    by_cases hy : y = x
    · subst hy; simp [this]
    · simp [hy, lookA, findA]
theorem keys_setA (x : α) (z : CVal) (L : List (α × CVal)) : (setA x z L).map (·.1) = if x ∈ L.map (·.1) then L.map (·.1) else L.map (·.1) ++ [x] := by
  unfold setA
  split
  · next q hq =>
    obtain ⟨h1, _⟩ := findA_at (v := q.2) hq
    rw [if_pos (List.mem_map.2 ⟨_, List.mem_of_getElem? h1, rfl⟩), List.map_set]
    refine List.ext_getElem? fun i => ?_
    rw [List.getElem?_set]
    split
    · next e =>
      subst e
      rw [List.getElem?_map, h1]
      have := (List.getElem?_eq_some_iff.1 h1).1
      simp [this]
    · rfl
  · next hq => rw [if_neg (findA_none hq)]; simp
theorem keys_setA_nodup {x : α} {z : CVal} {L : List (α × CVal)} (h : (L.map (·.1)).Nodup) : ((setA x z L).map (·.1)).Nodup := by
  rw [keys_setA]
  split
  · exact h
  · next hx => exact List.nodup_append.2 ⟨h, by simp, fun a ha b hb => by simp at hb; subst hb; exact fun e => hx (e ▸ ha)⟩

theorem LKN.gen (E : KeyE kt f) {x : α} {L : List (α × CVal)} {zero : CVal} {ok : Bool} {K : CVal → Prop} (k : K (match lookA x L with | some v => if ok then .tuple [v, .bool true] else v | none => if ok then .tuple [zero, .bool false] else zero)) :
    LKN kt zero ok (f x) (mapE f L) K := by
  unfold lookA at k
  cases h : findA x L 0 with
  | none => rw [h] at k; exact .mk (r := .none) (by rw [findK_A E, h]) k
  | some q => rw [h] at k; exact .mk (r := .some q) (by rw [findK_A E, h]) k
theorem LKN.some (E : KeyE kt f) {x : α} {L : List (α × CVal)} {zero v : CVal} {ok : Bool} {K : CVal → Prop} (e : lookA x L = some v) (k : K (if ok then .tuple [v, .bool true] else v)) : LKN kt zero ok (f x) (mapE f L) K :=
  LKN.gen E (by rw [e]; exact k)
theorem LKN.none (E : KeyE kt f) {x : α} {L : List (α × CVal)} {zero : CVal} {ok : Bool} {K : CVal → Prop} (e : lookA x L = none) (k : K (if ok then .tuple [zero, .bool false] else zero)) : LKN kt zero ok (f x) (mapE f L) K :=
  LKN.gen E (by rw [e]; exact k)
/-- The stamps behind 'm[x] = z'. -/
def stSet (x : α) (L : List (α × CVal)) (st : Option (List Nat × Nat)) : Option (List Nat × Nat) := match findA x L 0 with
  | .some _ => st
  | .none => stPush st
theorem UPN.gen (E : KeyE kt f) {x : α} {z : CVal} {i : Nat} {L : List (α × CVal)} {st : Option (List Nat × Nat)} {hh : Heap} {K : Heap → Prop} (k : K (hh.set i (.map (mapE f (setA x z L)) true (stSet x L st)))) :
    UPN kt i (f x) z (mapE f L) st hh K := by
  unfold setA stSet at k
  cases h : findA x L 0 with
  | none => rw [h] at k; exact .mk (r := .none) (by rw [findK_A E, h]) (by simpa [mapE] using k)
  | some q => rw [h] at k; exact .mk (r := .some q) (by rw [findK_A E, h]) (by simpa [mapE, List.map_set] using k)

/-- Stamps that may be, for so many entries. -/
structure StOk (st : Option (List Nat × Nat)) (n : Nat) : Prop where
  ok : ∃ bs c, st = .some (bs, c) ∧ bs.length = n ∧ bs.Nodup ∧ ∀ b ∈ bs, b < c
theorem StOk.empty : StOk (.some ([], 0)) 0 := ⟨_, _, rfl, rfl, List.nodup_nil, fun b m => by simp at m⟩
theorem StOk.push {st : Option (List Nat × Nat)} {n : Nat} (s : StOk st n) : StOk (stPush st) (n + 1) := by
  obtain ⟨bs, c, rfl, h1, h2, h3⟩ := s.ok
  refine ⟨bs ++ [c], c + 1, rfl, by simp [h1], ?_, fun b m => ?_⟩
  · exact List.nodup_append.2 ⟨h2, by simp, fun a ha b hb => by simp at hb; subst hb; have := h3 a ha; omega⟩
  · rcases List.mem_append.1 m with m | m
    · have := h3 b m; omega
    · simp at m; omega
theorem StOk.set {st : Option (List Nat × Nat)} {x : α} {z : CVal} {L : List (α × CVal)} (s : StOk st L.length) : StOk (stSet x L st) (setA x z L).length := by
  unfold stSet setA
  split
  · rw [List.length_set]; exact s
  · rw [List.length_append]; exact s.push

/-- 'm[x] op= ..': the entry is found, or made. -/
theorem OPN.entry (E : KeyE kt f) {N : Nat} {ρ : Env} {h : Heap} {zero : CVal} {M X : CX} {i : Nat} {x : α} {L : List (α × CVal)} {st : Option (List Nat × Nat)} {K : CVal → Heap → Prop} (hm : M.on N ρ = .map i) (hx : X.on N ρ = f x) (g : h.get i = .some (.map (mapE f L) true st)) (s : StOk st L.length)
    (k : ∀ (j n : Nat) (L' : List (α × CVal)) (st' : Option (List Nat × Nat)), L'[j]? = .some (x, (lookA x L).getD zero) → StOk st' L'.length → (∃ bs c, st' = .some (bs, c) ∧ bs[j]? = .some n) → L' = setA x ((lookA x L).getD zero) L →
      K (.tuple [(lookA x L).getD zero, .int .i64 n]) (h.set i (.map (mapE f L') true st'))) : OPN N (.mapEntry kt zero M X) ρ h K := by
  obtain ⟨bs, c, rfl, s1, s2, s3⟩ := s.ok
  cases hf : findA x L 0 with
  | none =>
    have hl : lookA x L = .none := by simp [lookA, hf]
    rw [hl] at k
    refine .mk (v := .tuple [zero, .int .i64 c]) (h' := h.set i (.map (mapE f L ++ [(f x, zero)]) true (.some (bs ++ [c], c + 1)))) ?_ ?_
    · simp only [cop, CX.on_ev, hm, hx, E.ok, g, findK_A E, hf, Bool.true_eq_false, if_false]
    · have := k L.length c (L ++ [(x, zero)]) (.some (bs ++ [c], c + 1)) (by simp) (by rw [List.length_append]; exact s.push) ⟨_, _, rfl, by rw [← s1]; simp⟩ (by simp [setA, hf])
      simpa [mapE] using this
  | some q =>
    obtain ⟨j, v⟩ := q
    have hl : lookA x L = .some v := by simp [lookA, hf]
    rw [hl] at k
    obtain ⟨a1, _⟩ := findA_at hf
    have hj := (List.getElem?_eq_some_iff.1 a1).1
    have hb : bs[j]? = .some bs[j] := List.getElem?_eq_getElem (by omega)
    refine .mk (v := .tuple [v, .int .i64 bs[j]]) (h' := h.set i (.map ((mapE f L).set j (f x, v)) true (.some (bs, c)))) ?_ ?_
    · simp only [cop, CX.on_ev, hm, hx, E.ok, g, findK_A E, hf, hb, Bool.true_eq_false, if_false]
    · have := k j bs[j] (L.set j (x, v)) (.some (bs, c)) (by rw [List.getElem?_set]; simp [hj]) (by rw [List.length_set]; exact s) ⟨_, _, rfl, hb⟩ (by simp [setA, hf])
      simpa [mapE, List.map_set] using this
theorem findIdx_nodup {n : Nat} : ∀ {bs : List Nat} {j : Nat}, bs.Nodup → bs[j]? = .some n → bs.findIdx? (fun (b : Nat) => (b : Int) == (n : Int)) = .some j
  | [], j, _, h => by simp at h
  | b :: bs, 0, _, h => by
    simp only [List.getElem?_cons_zero, Option.some.injEq] at h
    subst h
    simp [List.findIdx?_cons]
  | b :: bs, j + 1, nd, h => by
    obtain ⟨h1, h2⟩ := List.nodup_cons.1 nd
    have hm : n ∈ bs := List.mem_of_getElem? (by simpa using h)
    have hne : ((b : Int) == (n : Int)) = false := by
      simp only [beq_eq_false_iff_ne, ne_eq, Int.natCast_inj]
      exact fun e => h1 (e ▸ hm)
    rw [List.findIdx?_cons, hne, findIdx_nodup h2 (by simpa using h)]
    simp
omit [DecidableEq α] in
theorem OPN.estore {N : Nat} {ρ : Env} {h : Heap} {M S X : CX} {i j n : Nat} {x : α} {v : CVal} {L : List (α × CVal)} {bs : List Nat} {c : Nat} {K : CVal → Heap → Prop} (hm : M.on N ρ = .map i) (hs : S.on N ρ = .int .i64 n) (g : h.get i = .some (.map (mapE f L) true (.some (bs, c)))) (nd : bs.Nodup) (hb : bs[j]? = .some n) (hL : L[j]? = .some (x, v))
    (k : K .un (h.set i (.map (mapE f (L.set j (x, X.on N ρ))) true (.some (bs, c))))) : OPN N (.entryStore M S X) ρ h K := by
  have hL' : (mapE f L)[j]? = .some (f x, v) := by rw [mapE, List.getElem?_map, hL]; rfl
  refine .mk (v := .un) (h' := h.set i (.map ((mapE f L).set j (f x, X.on N ρ)) true (.some (bs, c)))) ?_ (by simpa [mapE, List.map_set] using k)
  simp only [cop, CX.on_ev, hm, hs, g, findIdx_nodup nd hb, hL']
end
end Go.Proofs.YtlggkknkbbhooaaGreat.Cm

/-
  The clean machine, part YX: slices.Grow of nothing.
-/
namespace Go.Proofs.YtlggkknkbbhooaaGreat.Cm
open Go.RowKit

def growP : List CVal → Heap → Option (CVal × Heap)
  | [.nilSlice, .int .i64 n], h => if n = 0 then some (.nilSlice, h) else if 0 < n ∧ n ≤ 1000000000 then some (.slice h.next 0 0 0, h.new (.cells [] true (some 1))) else none
  | _, _ => none
theorem grow_ok {P : Program} {glb : Gl} {f : FuncId} {T : TypeId} (hb : HasBody P f)
    (C0 : ∀ w : World, Calls P f #[.slice none 0 0, .int .i64 0] w fun e w' => e = .returned (.slice none 0 0) ∧ w' = w)
    (C : ∀ (n : Nat) (w : World), 0 < n → n ≤ 1000000000 → Calls P f #[.slice none 0 0, .int .i64 n] w fun e w' => ∃ (cap : Nat) (cs : Array Value), cs.size = cap ∧ e = .returned (.slice (some ⟨w.heap.size, 0, none⟩) 0 cap) ∧ ∃ d, w' = ({ w with drawn := d } : World).alloc (.cells cs T)) : PrimOk P glb f growP := by
  refine ⟨hb, fun K ι h w args args' v h' hk H R ev => ?_⟩
  obtain ⟨l'⟩ := args'
  simp only at R
  subst hk
  unfold growP at ev
  split at ev
  · next n =>
    cases R with
    | cons _ _ x1 r1 a1 a2 =>
      cases a2 with
      | cons _ _ x2 r2 a3 a4 =>
        cases a4; cases a1; cases a3
        split at ev
        · next h0 =>
          subst h0
          simp only [Option.some.injEq, Prod.mk.injEq] at ev
          obtain ⟨rfl, rfl⟩ := ev
          refine (C0 w).mono ?_
          rintro e w' ⟨he, rfl⟩
          exact ⟨ι, _, Emb.le.refl _, he, H, .nilSlice⟩
        · split at ev
          · next hn =>
            simp only [Option.some.injEq, Prod.mk.injEq] at ev
            obtain ⟨rfl, rfl⟩ := ev
            obtain ⟨m, rfl⟩ : ∃ m : Nat, n = (m : Int) := ⟨n.toNat, by omega⟩
            refine (C m w (by omega) (by omega)).mono ?_
            rintro e w' ⟨cap, cs, hcs, he, d, rfl⟩
            have hle := ι.le_put h.next (w.heap.size, 0, cap) (H.fresh _ (Nat.le_refl _)).1
            refine ⟨_, _, hle, he, H.new (.cells [] true (some 1)) (.cells cs T) cap d ⟨w.heap.size, 0, cap, cs, T, 0, 0, Emb.put_same _ _ _, by simp, fun j v hv => by simp at hv, fun e => by simp at e, fun _ => ⟨fun hF => by have := H.hF _ hF; have := H.keep.size; omega, fun j hj => ?_⟩⟩, ?_⟩
            · simp at hj; exact ⟨by omega, by omega⟩
            · have := VR.slice (ι := ι.put h.next (w.heap.size, 0, cap)) h.next 0 0 0 w.heap.size 0 cap ⟨w.heap.size, 0, none⟩ (Emb.put_same _ _ _) (.inl rfl) (Nat.le_refl _)
              rw [Nat.zero_add] at this
              exact this
          · simp at ev
  · simp at ev
end Go.Proofs.YtlggkknkbbhooaaGreat.Cm
