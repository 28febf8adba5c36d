/-
  The clean machine, and what the law's functions do in it: part PlaysT of this claim's own texts. No conditions.
-/
import Derived.Test.YtncmoaggkdlkhaaGreatCmE
import Derived.Test.YtncmoaggkdlkhaaGreatCmL
import GoSem.ClaimJoined
import Derived.ChangeArms
namespace Go.Proofs.YtncmoaggkdlkhaaGreat.Cm
open Go.RowKit Go.ChangeShapes
def IsRow' (w : World) (a : Option Addr) (len cap : Nat) (zs : List Int) : Prop :=
 (a = none ∧ len = 0 ∧ cap = 0 ∧ zs = []) ∨
 ∃ x, a = some x ∧ len ≤ cap ∧ zs.length = cap ∧ (∀ i, i < zs.length → w.cell? (x.add i) = some (.int .i64 (zs.getD i 0))) ∧ ∀ n ∈ zs, (Lit.int .i64 n).wf = true
section
variable {K : Ctx} {ι : Emb} {h : Heap} {w : World}
theorem cell_block {x : Addr} {v : Value} (c : w.cell? x = some v) : x.block < w.heap.size := by
 unfold World.cell? at c
 split at c
 ·next hb => exact (Array.getElem?_eq_some_iff.1 hb).1
 ·simp at c
theorem IsRow'.row {a : Option Addr} {len cap : Nat} {zs : List Int} (r : IsRow' w a len cap zs) (h0 : 0 < cap) : IsRow .i64 w a len cap zs := by
 rcases r with ⟨_, _, rfl, _⟩ | ⟨x, rfl, h1, h2, h3, h4⟩
 ·omega
 ·have c := h3 0 (by omega)
  have : x.add 0 = x := by simp [Addr.add]
  rw [this] at c
  exact .inr ⟨x, rfl, cell_block c, h1, h2, h3, h4⟩
theorem open_arg' (H : Inv K ι h w) (ro : Ro h) (hg : ∀ b, ¬ K.G b) {b₀ : Nat} (hb : b₀ < w.heap.size) {a : Option Addr} {len cap : Nat} {zs : List Int} (r : IsRow' w a len cap zs) :
 ∃ ι' h' v, ι.le ι' ∧ Inv K ι' h' w ∧ Exd h h' ∧ Ro h' ∧ VR ι' v (.slice a len cap) ∧ ArgSl h' v .i64 len zs := by
 by_cases h0 : cap = 0
 ·rcases r with ⟨rfl, rfl, rfl, rfl⟩ | ⟨x, rfl, h1, h2, h3, h4⟩
  ·exact ⟨ι, h, .nilSlice, Emb.le.refl _, H, Exd.refl _, ro, .nilSlice, Nat.le_refl _, fun n m => by simp at m, .inl ⟨rfl, rfl⟩⟩
  ·subst h0
   obtain rfl : zs = [] := by cases zs; rfl; simp at h2
   obtain rfl : len = 0 := by omega
   refine ⟨_, h.room 1, .slice h.next 0 0 0, ι.le_put h.next _ (H.fresh h.next (Nat.le_refl _)).1, H.argE hb, ⟨by rw [Heap.nx_room rfl]; omega, fun i _ => Heap.room_get rfl⟩, fun i o e => ro i o (by rw [Heap.room_get rfl] at e; exact e), ?_, Nat.le_refl _, h4, .inr ⟨h.next, rfl, by rw [Heap.nx_room rfl]; omega, .inl rfl⟩⟩
   exact .slice h.next 0 0 0 b₀ 0 0 x (Emb.put_same _ _ _) (.inr rfl) (Nat.le_refl _)
 ·exact open_arg H ro hg (r.row (by omega))
def Rec3 (w : World) (x : Addr) (j : Nat) (B : Nat) (R₁ R₂ : List Int) (p : Int) : Prop :=
 ∃ a₁ l₁ c₁ z₁ a₂ l₂ c₂ z₂, w.cell? (x.add (j * 3)) = some (.slice a₁ l₁ c₁) ∧ w.cell? (x.add (j * 3 + 1)) = some (.slice a₂ l₂ c₂) ∧ w.cell? (x.add (j * 3 + 2)) = some (.int .i64 p) ∧
  IsRow' w a₁ l₁ c₁ z₁ ∧ IsRow' w a₂ l₂ c₂ z₂ ∧ R₁ = z₁.take l₁ ∧ R₂ = z₂.take l₂ ∧ c₁ ≤ B ∧ c₂ ≤ B
structure Laid3 (K : Ctx) (ι : Emb) (h : Heap) (w : World) (x : Addr) (recs : List (List Int × List Int × Int)) (n : Nat) (ι' : Emb) (h' : Heap) (cs : List CVal) : Prop where
 le : ι.le ι'
 inv : Inv K ι' h' w
 exd : Exd h h'
 ro : Ro h'
 len : cs.length = n * 3
 cells : ∀ j v, cs[j]? = some v → v.one = true ∧ ∃ v', w.cell? (x.add j) = some v' ∧ VR ι' v v'
 recs : ∀ j (hj : j < recs.length), j < n → ∃ v₁ v₂, cs[j * 3]? = some v₁ ∧ cs[j * 3 + 1]? = some v₂ ∧ cs[j * 3 + 2]? = some (.int .i64 recs[j].2.2) ∧ (∃ l z, ArgSl h' v₁ .i64 l z ∧ recs[j].1 = z.take l) ∧ ∃ l z, ArgSl h' v₂ .i64 l z ∧ recs[j].2.1 = z.take l
theorem VR.one_slice {v : CVal} {a : Option Addr} {l c : Nat} (r : VR ι v (.slice a l c)) (hs : v ≠ .undef) : v.one = true := by
 cases r with
 | undef => exact (hs rfl).elim
 | nilSlice => rfl
 | slice => rfl
theorem ArgSl.ne_undef {v : CVal} {k : IntKind} {l : Nat} {z : List Int} (s : ArgSl h v k l z) : v ≠ .undef := by
 rcases s.2.2 with ⟨rfl, _⟩ | ⟨_, rfl, _⟩ <;> simp
end
end Go.Proofs.YtncmoaggkdlkhaaGreat.Cm
namespace Go.Proofs.YtncmoaggkdlkhaaGreat.Cm
open Go.RowKit Go.IntWalk Go.ChangeShapes
abbrev Stp3 := Int × Int × List Int
def RecS (w : World) (x : Addr) (j : Nat) (q : Stp3) : Prop :=
 ∃ a l c z, w.cell? (x.add (j * 3)) = some (.int .i64 q.1) ∧ w.cell? (x.add (j * 3 + 1)) = some (.int .i64 q.2.1) ∧ w.cell? (x.add (j * 3 + 2)) = some (.slice a l c) ∧ IsRow' w a l c z ∧ q.2.2 = z.take l ∧ q.2.1 ≤ 9223372036854775807
abbrev stepE : El Stp3 := prE intE (prE intE (slE intE))
section
variable {K : Ctx} {ι : Emb} {h : Heap} {w : World}
structure LaidS (K : Ctx) (ι : Emb) (h : Heap) (w : World) (x : Addr) (recs : List Stp3) (n : Nat) (ι' : Emb) (h' : Heap) (cs : List CVal) : Prop where
 le : ι.le ι'
 inv : Inv K ι' h' w
 exd : Exd h h'
 ro : Ro h'
 len : cs.length = n * 3
 cells : ∀ j v, cs[j]? = some v → v.one = true ∧ ∃ v', w.cell? (x.add j) = some v' ∧ VR ι' v v'
 recs : ∀ j (hj : j < recs.length), j < n → ∃ v, cs[j * 3]? = some (.int .i64 recs[j].1) ∧ cs[j * 3 + 1]? = some (.int .i64 recs[j].2.1) ∧ cs[j * 3 + 2]? = some v ∧ ∃ l z, ArgSl h' v .i64 l z ∧ recs[j].2.2 = z.take l
theorem layS (H : Inv K ι h w) (ro : Ro h) (hg : ∀ b, ¬ K.G b) {x : Addr} {recs : List Stp3} (hr : ∀ j (hj : j < recs.length), RecS w x j recs[j]) :
 ∀ n, n ≤ recs.length → ∃ ι' h' cs, LaidS K ι h w x recs n ι' h' cs
 | 0, _ => ⟨ι, h, [], Emb.le.refl _, H, Exd.refl _, ro, rfl, fun j v e => by simp at e, fun j _ hj => by omega⟩
 | n + 1, hn => by
   obtain ⟨ι₁, h₁, cs, L⟩ := layS H ro hg hr n (by omega)
   obtain ⟨a, l, c, z, e₁, e₂, e₃, r, q, _⟩ := hr n (by omega)
   have hb : x.block < w.heap.size := by
    have := cell_block e₁
    unfold Addr.add at this
    split at this <;> exact this
   obtain ⟨ι₂, h₂, v, le₂, H₂, x₂, ro₂, vr, s⟩ := open_arg' L.inv L.ro hg hb r
   have len := L.len
   refine ⟨ι₂, h₂, cs ++ [.int .i64 recs[n].1, .int .i64 recs[n].2.1, v], L.le.trans le₂, H₂, L.exd.trans x₂, ro₂, by simp [len]; omega, fun j u e => ?_, fun j hj hjn => ?_⟩
   ·rcases Nat.lt_or_ge j (n * 3) with h1 | h1
    ·rw [List.getElem?_append_left (by omega)] at e
     obtain ⟨o, v', c, r⟩ := L.cells j u e
     exact ⟨o, v', c, r.mono le₂⟩
    ·rw [List.getElem?_append_right (by omega), len] at e
     have hj3 : j - n * 3 < 3 := by
      rcases Nat.lt_or_ge (j - n * 3) 3 with h2 | h2
      ·exact h2
      ·rw [List.getElem?_eq_none (by simpa using h2)] at e; simp at e
     rcases (show j = n * 3 ∨ j = n * 3 + 1 ∨ j = n * 3 + 2 by omega) with rfl | rfl | rfl
     ·rw [Nat.sub_self] at e
      simp only [List.getElem?_cons_zero, Option.some.injEq] at e
      subst e
      exact ⟨rfl, _, e₁, .int .i64 _⟩
     ·rw [show n * 3 + 1 - n * 3 = 1 by omega] at e
      simp only [List.getElem?_cons_succ, List.getElem?_cons_zero, Option.some.injEq] at e
      subst e
      exact ⟨rfl, _, e₂, .int .i64 _⟩
     ·rw [show n * 3 + 2 - n * 3 = 2 by omega] at e
      simp only [List.getElem?_cons_succ, List.getElem?_cons_zero, Option.some.injEq] at e
      subst e
      exact ⟨VR.one_slice vr s.ne_undef, _, e₃, vr⟩
   ·rcases Nat.lt_or_ge j n with h1 | h1
    ·obtain ⟨u, f₁, f₂, f₃, l', z', g₁, g₂⟩ := L.recs j hj h1
     refine ⟨u, ?_, ?_, ?_, l', z', g₁.exd x₂, g₂⟩
     ·rw [List.getElem?_append_left (by omega)]; exact f₁
     ·rw [List.getElem?_append_left (by omega)]; exact f₂
     ·rw [List.getElem?_append_left (by omega)]; exact f₃
    ·obtain rfl : j = n := by omega
     refine ⟨v, ?_, ?_, ?_, l, z, s, q⟩
     ·rw [List.getElem?_append_right (by omega), len, Nat.sub_self]; rfl
     ·rw [List.getElem?_append_right (by omega), len, show j * 3 + 1 - j * 3 = 1 by omega]; rfl
     ·rw [List.getElem?_append_right (by omega), len, show j * 3 + 2 - j * 3 = 2 by omega]; rfl
theorem open_steps (H : Inv K ι h w) (ro : Ro h) (hg : ∀ b, ¬ K.G b) {a : Option Addr} {len cap : Nat} {recs : List Stp3} (hn : a = none → len = 0 ∧ cap = 0)
 (hs : ∀ x, a = some x → len ≤ cap ∧ x.spot = none ∧ ∃ C el fz, w.heap[x.block]? = some (.cells C el fz)) (hlen : recs.length = len) (hr : ∀ x, a = some x → ∀ j (hj : j < recs.length), RecS w x j recs[j]) :
 ∃ ι' h' v, ι.le ι' ∧ Inv K ι' h' w ∧ Exd h h' ∧ Ro h' ∧ VR ι' v (.slice a len cap) ∧ ∀ Z : Nat → Prop, (∀ i, Z i → h'.next ≤ i) → RSl Z stepE h' v recs := by
 cases a with
 | none =>
   obtain ⟨rfl, rfl⟩ := hn rfl
   obtain rfl : recs = [] := by cases recs; rfl; simp at hlen
   exact ⟨ι, h, .nilSlice, Emb.le.refl _, H, Exd.refl _, ro, .nilSlice, fun _ _ => .nil⟩
 | some x =>
   obtain ⟨hle, hspot, C, el, fz, hb⟩ := hs x rfl
   obtain ⟨ι', h', cs, L⟩ := layS H ro hg (hr x rfl) recs.length (Nat.le_refl _)
   have hcell : CellsR (ι'.put h'.next (x.block, x.off, 0)) cs C x.off := by
    intro j v e
    obtain ⟨o, v', c, r⟩ := L.cells j v e
    refine ⟨o, v', ?_, r.mono (ι'.le_put h'.next _ (L.inv.fresh h'.next (Nat.le_refl _)).1)⟩
    unfold World.cell? Addr.add at c
    by_cases hj0 : j = 0
    ·subst hj0
     simp only [if_true, hb, hspot] at c
     simpa using c
    ·simp only [if_neg hj0, hb] at c
     simpa using c
   refine ⟨_, _, .slice h'.next 0 len cap, L.le.trans (ι'.le_put h'.next (x.block, x.off, 0) (L.inv.fresh h'.next (Nat.le_refl _)).1), L.inv.arg L.ro hb hcell (hg _), L.exd.new, fun i o e => ?_, ?_, fun Z hz => ?_⟩
   ·rw [Heap.get_new] at e
    split at e
    ·simp only [Option.some.injEq] at e; subst e; rfl
    ·exact L.ro i o e
   ·refine .slice h'.next 0 len cap x.block x.off 0 x (Emb.put_same _ _ _) (.inl ?_) hle
    obtain ⟨bl, of, s⟩ := x
    simp only at hspot
    subst hspot
    rfl
   ·rw [Heap.next_new] at hz
    refine .inr ⟨h'.next, 0, cap, by rw [hlen], by rw [hlen]; exact hle, by rw [Heap.next_new]; omega, fun h => by have := hz _ h; omega, .inr ⟨cs, false, none, h'.get_new_same _, fun j hj => ?_⟩⟩
    obtain ⟨v, f₁, f₂, f₃, l, z, g₁, g₂⟩ := L.recs j hj hj
    have x' : Exd h' (h'.new (.cells cs false none)) := Exd.new (Exd.refl _)
    refine ⟨[.int .i64 recs[j].1], [.int .i64 recs[j].2.1, v], ?_, rfl, [.int .i64 recs[j].2.1], [v], rfl, rfl, v, rfl, ?_⟩
    ·show (cs.drop (0 + j * 3)).take 3 = _
     refine List.ext_getElem? fun p => ?_
     rw [List.getElem?_take, List.getElem?_drop, Nat.zero_add]
     match p with
     | 0 => rw [if_pos (by omega), Nat.add_zero, f₁]; rfl
     | 1 => rw [if_pos (by omega), f₂]; rfl
     | 2 => rw [if_pos (by omega), f₃]; rfl
     | p + 3 => rw [if_neg (by omega)]; rfl
    ·rw [g₂]
     exact (argSl_rsl (Z := fun i => h'.next ≤ i) g₁ fun i hi => hi).exd x' |>.sub fun i hi h => by have := hz i h; omega
end
section
variable {H : Type} {enc : TypeId × Value → H} {P : Program} {w : World}
theorem okw_slice2 {r : Reach} {base : Nat} {t e : TypeId} {v : Value} (ht : P.underlying t = some (.slice e)) (h : Value.okWide P w r base t v) :
 ∃ a len cap, v = .slice a len cap ∧ (a = none → len = 0 ∧ cap = 0) ∧ ∀ x, a = some x → len ≤ cap ∧ x.spot = none ∧ ∃ C el fz, w.heap[x.block]? = some (.cells C el fz) := by
 simp only [Value.okWide, ht, Cell.okWide] at h
 cases v with
 | slice a len cap =>
   refine ⟨a, len, cap, rfl, fun e => ?_, fun x e => ?_⟩
   ·subst e
    cases len <;> cases cap <;> simp_all [Cell.ok]
   ·subst e
    simp only [Cell.ok, ht] at h
    obtain ⟨h1, _, _, hsp, row, cells, hs, _⟩ := h
    refine ⟨h1, hsp, ?_⟩
    unfold World.shape? at hs
    split at hs
    ·next hb => exact ⟨_, _, _, hb⟩
    ·simp at hs
 | _ => simp_all [Cell.ok]
theorem row_in2 {t e : TypeId} {fuel : Nat} {c : Value} {y : DataW H × List MemPlace} (ht : P.underlying t = some (.slice e)) (he : P.underlying e = some (.int .i64)) (hc : P.cellsOf e = 1)
 (h : DataW.trod enc P w 0 (fun _ => true) true fuel t [c] = some y) : ∃ a len cap zs, c = .slice a len cap ∧ IsRow' w a len cap zs := by
 rcases open_ints ht he hc h with ⟨hcs, _⟩ | ⟨a, len, cap, zs, hcs, _, hl, _, hz, hx, hcell, hwz⟩
 ·simp only [List.cons.injEq, and_true] at hcs
  subst hcs
  exact ⟨none, 0, 0, [], rfl, .inl ⟨rfl, rfl, rfl, rfl⟩⟩
 ·simp only [List.cons.injEq, and_true] at hcs
  subst hcs
  simp only [if_true] at hz
  exact ⟨some a, len, cap, zs, rfl, .inr ⟨a, rfl, hl, hz, hcell, hwz⟩⟩
theorem add_add2 (x : Addr) (m i : Nat) : (x.add m).add i = x.add (m + i) := by
 unfold Addr.add
 by_cases h1 : m = 0
 ·subst h1; simp
 ·by_cases h2 : i = 0
  ·subst h2; simp
  ·simp [h1, h2, Nat.add_assoc]
theorem steps_of {r : Reach} {base : Nat} {t e ti ei tn : TypeId} {f₀ f₁ f₂ : Field} {v : Value} {x : DataW H × List MemPlace} (ht : P.underlying t = some (.slice e)) (he : P.underlying e = some (.struct #[f₀, f₁, f₂])) (hc : P.cellsOf e = 3)
 (h₀ : f₀.type = tn ∧ f₀.offset = 0) (h₁ : f₁.type = tn ∧ f₁.offset = 1) (h₂ : f₂.type = ti ∧ f₂.offset = 2) (hti : P.underlying ti = some (.slice ei)) (hci : P.cellsOf ti = 1) (hei : P.underlying ei = some (.int .i64)) (hce : P.cellsOf ei = 1)
 (htn : P.underlying tn = some (.int .i64)) (hcn : P.cellsOf tn = 1)
 (hv : Value.okWide P w r base t v) (h : ∃ m, DataW.trod enc P w 0 (fun _ => true) true m t v.cells.toList = some x) :
 ∃ (a : Option Addr) (len cap : Nat) (recs : List Stp3), v = .slice a len cap ∧ (a = none → len = 0 ∧ cap = 0) ∧ (∀ x, a = some x → len ≤ cap ∧ x.spot = none ∧ ∃ C el fz, w.heap[x.block]? = some (.cells C el fz)) ∧ recs.length = len ∧
  ∀ x, a = some x → ∀ j (hj : j < recs.length), RecS w x j recs[j] := by
 obtain ⟨a, len, cap, rfl, hn, hs⟩ := okw_slice2 ht hv
 obtain ⟨m, hf⟩ := h
 rcases DataW.trod_slice ht hf with ⟨hcs, _⟩ | ⟨x, l, c, elems, rest, n, _, hcs, hx, _, hl, _, hlen, hel, _, _⟩
 ·simp [Value.cells] at hcs
  obtain ⟨rfl, rfl, rfl⟩ := hcs
  exact ⟨none, 0, 0, [], rfl, hn, hs, rfl, fun x e => by simp at e⟩
 ·simp [Value.cells] at hcs
  obtain ⟨rfl, rfl, rfl⟩ := hcs
  have each : ∀ j, j < len → ∃ q : Stp3, RecS w x j q := by
   intro j hj
   have hj' : j < elems.length := by omega
   have e1 := hel j hj
   rw [List.getElem?_eq_getElem hj', hc, Option.bind_eq_some_iff] at e1
   obtain ⟨cs, hcs, hy⟩ := e1
   obtain ⟨xs, n', _, hxs, hcl, hxl, hfs⟩ := DataW.trod_struct he hy
   obtain ⟨_, hl3, hcell⟩ := World.cells?_some hcs
   match xs, hxl, cs, hl3, hcl with
   | [y₀, y₁, y₂], _, [u₀, u₁, u₂], _, _ =>
     have t₀ := hfs 0 f₀ rfl
     have t₁ := hfs 1 f₁ rfl
     have t₂ := hfs 2 f₂ rfl
     rw [h₀.1, h₀.2, hcn] at t₀
     rw [h₁.1, h₁.2, hcn] at t₁
     rw [h₂.1, h₂.2, hci] at t₂
     simp only [List.drop_zero, List.take_succ_cons, List.take_zero, List.drop_succ_cons, List.getElem?_cons_zero, List.getElem?_cons_succ] at t₀ t₁ t₂
     obtain ⟨k, hk, _, _⟩ := DataW.trod_int htn t₀
     obtain ⟨p, hp, _, wp⟩ := DataW.trod_int htn t₁
     obtain ⟨a₂, l₂, c₂, z₂, rfl, r₂⟩ := row_in2 hti hei hce t₂
     simp only [List.cons.injEq, and_true] at hk hp
     subst hk hp
     have g₀ := hcell 0 (by omega)
     have g₁ := hcell 1 (by omega)
     have g₂ := hcell 2 (by omega)
     rw [add_add2] at g₀ g₁ g₂
     exact ⟨(k, p, z₂.take l₂), a₂, l₂, c₂, z₂, g₀, g₁, g₂, r₂, rfl, (i64_le wp).2⟩
  refine ⟨some x, len, cap, (List.range len).map fun j => if hj : j < len then Classical.choose (each j hj) else (0, 0, []), rfl, hn, hs, by simp, fun x' e j hj => ?_⟩
  simp only [Option.some.injEq] at e
  subst e
  have hj' : j < len := by simpa using hj
  simp only [List.getElem_map, List.getElem_range, hj', dif_pos]
  exact Classical.choose_spec (each j hj')
end
end Go.Proofs.YtncmoaggkdlkhaaGreat.Cm
namespace Go.Proofs.YtncmoaggkdlkhaaGreat.Cm
open Go.RowKit Go.IntWalk
attribute [local irreducible] Heap.set Heap.new Heap.kill Heap.get Heap.room Cal WP
theorem RSl.stepAt {Z : Nat → Prop} {h : Heap} {v : CVal} {M : List Stp3} {j : Nat} {k p : Int} {us : List Int} (s : RSl Z stepE h v M) (e : M[j]? = some (k, p, us)) : ∃ b o w, RSl Z intE h w us ∧ AtN h b o [.int .i64 k, .int .i64 p, w] ∧ ∀ K : Nat → Nat → Prop, K b o → Cm.idxS 3 v (j : Int) K := by
 obtain ⟨hj, e⟩ := List.getElem?_eq_some_iff.1 e
 obtain ⟨b, o, xs, ⟨c, d, e1, e2, c', d', e3, e4, w, e5, r⟩, a, q⟩ := s.atE hj
 rw [e] at e2 e4 r
 have e2 : c = [.int .i64 k] := e2
 have e4 : c' = [.int .i64 p] := e4
 subst e1 e2 e3 e4 e5
 exact ⟨b, o, w, r, a, q⟩
section
variable {h : Heap} {Q : CVal → Heap → Prop}
theorem lsmall_cal {vt vl : CVal} {T : List Int} {L : List Stp3} (rt : RIn h vt T) (rl : RSl (fun _ => False) stepE h vl L) (k : ∀ b, (b = true → T.length ≤ 20 ∧ L.length ≤ 60 ∧ ∀ q ∈ L, q.2.2.length ≤ 20) → Q (.bool b) h) : Cal tt 9 [vt, vl] h Q := by
 refine Cal.run rfl rfl rfl rfl ?_
 have ot := rt.one
 have ol := rl.one
 by_cases h1 : T.length ≤ 20
 rotate_left
 ·(repeat' first | refine go ?_ | (refine rl.lenS ?_) | refine idxS_ fun _ _ _ => ?_ | refine sp (fun _ => ?_) fun _ => ?_ | fail)
  exact k _ fun h => by simp at h
 by_cases h2 : L.length ≤ 60
 rotate_left
 ·(repeat' first | refine go ?_ | (refine rl.lenS ?_) | refine idxS_ fun _ _ _ => ?_ | refine sp (fun _ => ?_) fun _ => ?_ | fail)
  exact k _ fun h => by simp at h
 (repeat' first | refine go ?_ | (refine rl.lenS ?_) | refine idxS_ fun _ _ _ => ?_ | refine sp (fun _ => ?_) fun _ => ?_ | fail)
 refine loopC (fun j : Nat => [(1, vl), (5, .int .i64 j)]) (fun j h' => h' = h ∧ j ≤ L.length ∧ ∀ i, i < j → ∀ q, L[i]? = some q → q.2.2.length ≤ 20) (fun j => L.length - j) 0 ⟨rfl, rfl, trivial⟩ ⟨rfl, Nat.zero_le _, fun i hi => absurd hi (Nat.not_lt_zero _)⟩ ?_
 rintro j ρ h' ⟨rfl, hj, ha⟩
 by_cases hjl : j < L.length
 rotate_left
 ·(repeat' first | refine go ?_ | (refine rl.lenS ?_) | refine idxS_ fun _ _ _ => ?_ | refine sp (fun _ => ?_) fun _ => ?_ | fail)
  refine k _ fun _ => ⟨h1, h2, fun q hq => ?_⟩
  obtain ⟨i, hi, e⟩ := List.getElem_of_mem hq
  exact ha i (by omega) q (by rw [List.getElem?_eq_getElem hi, e])
 obtain ⟨⟨a, b, us⟩, ea⟩ : ∃ a, L[j]? = some a := ⟨_, List.getElem?_eq_getElem hjl⟩
 obtain ⟨b0, o0, w, r, a0, hi⟩ := rl.stepAt ea
 have a2 : At1 h' b0 (o0 + 2) w := a0.at (j := 2) rfl
 have ow := r.one
 by_cases hu : us.length ≤ 20
 ·(repeat' first | refine go ?_ | (refine rl.lenS ?_) | (refine hi _ ?_) | (refine r.lenS ?_) | refine idxS_ fun _ _ _ => ?_ | refine sp (fun _ => ?_) fun _ => ?_ | fail)
  exact ⟨rfl, j + 1, ⟨rfl, rfl, trivial⟩, ⟨rfl, hjl, fun i hi q hq => by
   rcases Nat.lt_or_ge i j with h3 | h3
   ·exact ha i h3 q hq
   ·obtain rfl : i = j := by omega
    rw [ea, Option.some.injEq] at hq
    rw [← hq]; exact hu⟩, by omega⟩
 ·(repeat' first | refine go ?_ | (refine rl.lenS ?_) | (refine hi _ ?_) | (refine r.lenS ?_) | refine idxS_ fun _ _ _ => ?_ | refine sp (fun _ => ?_) fun _ => ?_ | fail)
  exact k _ fun h => by simp at h
set_option maxHeartbeats 1000000 in
theorem allocPlays_cal {cl : Bool} {vt vl : CVal} {T : List Int} {L : List Stp3} (rt : RIn h vt T) (rl : ∀ Z : Nat → Prop, (∀ i, Z i → h.next ≤ i) → RSl Z stepE h vl L) (hp : ∀ q ∈ L, q.2.1 ≤ 9223372036854775807) : Cal tt 3 [vt, .bool cl, vl] h fun v _ => v = .bool true := by
 refine Cal.run rfl rfl rfl rfl ?_
 have ot := rt.one
 have rl0 := rl (fun _ => False) fun _ f => f.elim
 have ol := rl0.one
 (repeat' first | refine go ?_ | refine idxS_ fun _ _ _ => ?_ | refine sp (fun _ => ?_) fun _ => ?_ | fail)
 refine CALLN.of (lsmall_cal rt rl0 fun b hb => ?_)
 cases b
 ·(repeat' first | refine go ?_ | (refine CALLN.of (awake_cal ?_)) | refine idxS_ fun _ _ _ => ?_ | refine sp (fun _ => ?_) fun _ => ?_ | fail)
  rfl
 obtain ⟨l20, l60, lu⟩ := hb rfl
 cases ht : totU T
 ·(repeat' first | refine go ?_ | refine idxS_ fun _ _ _ => ?_ | refine sp (fun _ => ?_) fun _ => ?_ | fail)
  refine CALLN.of (anewP_cal rt (by omega) (fun _ => ?_) fun e => by rw [ht] at e; simp at e)
  (repeat' first | refine go ?_ | refine idxS_ fun _ _ _ => ?_ | refine sp (fun _ => ?_) fun _ => ?_ | fail)
  refine CALLN.of (anewR_cal rt (by omega) (fun _ => ?_) fun e => by rw [ht] at e; simp at e)
  (repeat' first | refine go ?_ | refine idxS_ fun _ _ _ => ?_ | refine sp (fun _ => ?_) fun _ => ?_ | fail)
  refine loop1 ?_
  by_cases h0 : L.length = 0
  ·have hl0 : (L.length : Int) = 0 := by omega
   (repeat' first | refine go ?_ | (refine rl0.lenS ?_) | (refine CALLN.of (awake_cal ?_)) | refine idxS_ fun _ _ _ => ?_ | refine sp (fun _ => ?_) fun _ => ?_ | fail)
   rfl
  ·have hl0 : 0 < (L.length : Int) := by omega
   (repeat' first | refine go ?_ | (refine rl0.lenS ?_) | (refine CALLN.of (awake_cal ?_)) | refine idxS_ fun _ _ _ => ?_ | refine sp (fun _ => ?_) fun _ => ?_ | fail)
   rfl
 (repeat' first | refine go ?_ | refine idxS_ fun _ _ _ => ?_ | refine sp (fun _ => ?_) fun _ => ?_ | fail)
 refine CALLN.of (anewP_cal rt (by omega) (fun e => by rw [ht] at e; simp at e) fun _ p h2 x2 lp lp' PN2 => ?_)
 have x2 : Exd h h2 := x2
 (repeat' first | refine go ?_ | refine idxS_ fun _ _ _ => ?_ | refine sp (fun _ => ?_) fun _ => ?_ | fail)
 refine CALLN.of (anewR_cal (rt.exd x2) (by omega) (fun e => by rw [ht] at e; simp at e) fun _ q h3 x3 lq RRf => ?_)
 have x3 : Exd h2 h3 := x3
 have lq : h2.next ≤ q := lq
 have l2 := x2.le
 have l3 := x3.le
 have R3 := RRf (fun i => i = p ∨ i = q) (.inr rfl) fun i hi => hi.imp (fun e => by rw [e]; exact lp') id
 have q3 : q < h3.next := by
  obtain ⟨_, _, _, _, _, _, R⟩ := R3
  exact R.lt
 have P3 : PN (fun i => i = p ∨ i = q) h3 (fun i => i = p) p (newS T cl) := PN2.frame (U := fun _ => False) ⟨x3.le, fun i hi _ => x3.get i hi⟩ (fun _ _ f => f.elim) (fun i hi h => h.elim id fun e => by omega) (fun _ h => .inl h) fun i h => h.elim (fun e => by omega) fun e => by omega
 have T3 : Two (fun i => i = p ∨ i = q) (fun i => i = p) h3 p q (newS T cl) := ⟨.inr P3, R3, by omega, .inr rfl, GoodS.new ht⟩
 have rl3 : RSl (fun i => i = p ∨ i = q) stepE h3 vl L := ((rl (fun i => i = p ∨ i = q) fun i h => h.elim (fun e => by omega) fun e => by omega).exd x2).exd x3
 clear x2 x3 PN2 P3 R3 RRf
 (repeat' first | refine go ?_ | refine idxS_ fun _ _ _ => ?_ | refine sp (fun _ => ?_) fun _ => ?_ | fail)
 refine loopC (fun y : Nat × (Nat → Prop) × (Nat → Prop) × AS => [(2, vl), (7, .ptr p 0), (9, .ptr q 0), (11, .int .i64 y.1)]) (fun y h' => Two y.2.1 y.2.2.1 h' p q y.2.2.2 ∧ RSl y.2.1 stepE h' vl L ∧ y.1 ≤ L.length) (fun y => L.length - y.1) (0, fun i => i = p ∨ i = q, fun i => i = p, newS T cl) ⟨rfl, rfl, rfl, rfl, trivial⟩ ⟨T3, rl3, Nat.zero_le _⟩ ?_
 rintro ⟨i, Z, F, S⟩ ρ h' ⟨TT, rL, hi⟩
 simp only at TT rL hi ⊢
 by_cases hil : i < L.length
 rotate_left
 ·(repeat' first | refine go ?_ | (refine rL.lenS ?_) | (refine CALLN.of (awake_cal ?_)) | refine idxS_ fun _ _ _ => ?_ | refine sp (fun _ => ?_) fun _ => ?_ | fail)
  rfl
 obtain ⟨⟨kind, pid, us⟩, ea⟩ : ∃ a, L[i]? = some a := ⟨_, List.getElem?_eq_getElem hil⟩
 have hm := List.mem_of_getElem? ea
 have hu := lu _ hm
 have hpp := hp _ hm
 simp only at hu hpp
 obtain ⟨b0, o0, w, r, a0, hi0⟩ := rL.stepAt ea
 have ow := r.one
 (repeat' first | refine go ?_ | (refine rL.lenS ?_) | (refine hi0 _ ?_) | (refine AtN.get a0 rfl ?_) | refine idxS_ fun _ _ _ => ?_ | refine sp (fun _ => ?_) fun _ => ?_ | fail)
 refine CALLN.of (plays_cal (kind := kind) (pid := pid) TT r (by omega) hpp fun h4 Z4 F4 g4 T4 _ => ?_)
 have rL4 := g4.rsl TT.fz rL
 (repeat' first | refine go ?_ | refine idxS_ fun _ _ _ => ?_ | refine sp (fun _ => ?_) fun _ => ?_ | fail)
 refine CALLN.of (same_cal T4 fun h5 Z5 F5 g5 T5 => ?_)
 have rL5 := g5.rsl T4.fz rL4
 (repeat' first | refine go ?_ | refine idxS_ fun _ _ _ => ?_ | refine sp (fun _ => ?_) fun _ => ?_ | fail)
 exact ⟨rfl, (i + 1, Z5, F5, _), ⟨rfl, rfl, rfl, rfl, trivial⟩, ⟨T5.two, rL5, hil⟩, by simp only; omega⟩
end
end Go.Proofs.YtncmoaggkdlkhaaGreat.Cm
