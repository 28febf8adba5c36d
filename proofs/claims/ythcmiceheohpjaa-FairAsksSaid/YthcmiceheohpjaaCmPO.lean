/-
  The steps that come in as an argument, laid into the clean heap.
-/
import Derived.Test.YthcmiceheohpjaaCmYD
import Derived.Test.YthcmiceheohpjaaCmPW
import GoSem.ClaimJoined
import Derived.ChangeArms
namespace Go.Proofs.Ythcmiceheohpjaa.Cm
open Go.RowKit Go.ChangeShapes

def toStp (r : List Int × List Int × Int) : Stp := ⟨r.1, r.2.1, r.2.2⟩

theorem argSl_RI {h : Heap} {v : CVal} {l : Nat} {z R : List Int} (s : ArgSl h v .i64 l z) (e : R = z.take l) : RI h v R := by
  subst e
  obtain ⟨h1, _, h3⟩ := s
  have hl : (z.take l).length = l := by rw [List.length_take]; omega
  rcases h3 with ⟨rfl, rfl⟩ | ⟨i, rfl, hi, g⟩
  · exact .inl ⟨rfl, by simp⟩
  · refine .inr ⟨i, 0, z.length, by rw [hl], hi, ?_⟩
    rcases g with rfl | g
    · exact .inl (by simp)
    · refine .inr ⟨_, _, _, g, fun j hj => ?_⟩
      rw [hl] at hj
      rw [Nat.zero_add, List.getElem?_map, List.getElem?_eq_getElem (by omega)]
      simp

section
variable {K : Ctx} {ι : Emb} {h : Heap} {w : World}

theorem open_recs (H : Inv K ι h w) (ro : Ro h) (hg : ∀ b, ¬ K.G b) {a : Option Addr} {len cap B : Nat} {recs : List (List Int × List Int × Int)} (hn : a = none → len = 0 ∧ cap = 0)
    (hs : ∀ x, a = some x → len ≤ cap ∧ x.spot = none ∧ ∃ C el fz, w.heap[x.block]? = some (.cells C el fz)) (hlen : recs.length = len) (hr : ∀ x, a = some x → ∀ j (hj : j < recs.length), Rec3 w x j B recs[j].1 recs[j].2.1 recs[j].2.2) :
    ∃ ι' h' v, ι.le ι' ∧ Inv K ι' h' w ∧ Exd h h' ∧ Ro h' ∧ VR ι' v (.slice a len cap) ∧ RS h' v (recs.map toStp) := by
  cases a with
  | none =>
    obtain ⟨rfl, rfl⟩ := hn rfl
    obtain rfl : recs = [] := by cases recs; rfl; simp at hlen
    exact ⟨ι, h, .nilSlice, Emb.le.refl _, H, Exd.refl _, ro, .nilSlice, .inl ⟨rfl, rfl⟩⟩
  | some x =>
    obtain ⟨hle, hspot, C, el, fz, hb⟩ := hs x rfl
    obtain ⟨ι', h', cs, L⟩ := lay3 H ro hg (hr x rfl) recs.length (Nat.le_refl _)
    have hcell : CellsR (ι'.put h'.next (x.block, x.off, 0)) cs C x.off := by
      intro j v e
      obtain ⟨o, v', c, r⟩ := L.cells j v e
      refine ⟨o, v', ?_, r.mono (ι'.le_put h'.next _ (L.inv.fresh h'.next (Nat.le_refl _)).1)⟩
      unfold World.cell? Addr.add at c
      by_cases hj0 : j = 0
      · subst hj0
        simp only [if_true, hb, hspot] at c
        simpa using c
      · simp only [if_neg hj0, hb] at c
        simpa using c
    refine ⟨_, _, .slice h'.next 0 len cap, L.le.trans (ι'.le_put h'.next (x.block, x.off, 0) (L.inv.fresh h'.next (Nat.le_refl _)).1), L.inv.arg L.ro hb hcell (hg _), L.exd.new, fun i o e => ?_, ?_, ?_⟩
    · rw [Heap.get_new] at e
      split at e
      · simp only [Option.some.injEq] at e; subst e; rfl
      · exact L.ro i o e
    · refine .slice h'.next 0 len cap x.block x.off 0 x (Emb.put_same _ _ _) (.inl ?_) hle
      obtain ⟨bl, of, s⟩ := x
      simp only at hspot
      subst hspot
      rfl
    · refine .inr ⟨h'.next, 0, cap, by rw [List.length_map, hlen], by rw [List.length_map, hlen]; exact hle, by rw [Heap.next_new]; omega, .inr ⟨cs, false, none, h'.get_new_same _, fun j hj => ?_⟩⟩
      rw [List.length_map] at hj
      obtain ⟨v₁, v₂, f₁, f₂, f₃, ⟨l, z, g₁, g₂⟩, l', z', g₃, g₄⟩ := L.recs j hj hj
      have x' : Exd h' (h'.new (.cells cs false none)) := Exd.new (Exd.refl _)
      rw [Nat.zero_add]
      refine ⟨v₁, v₂, f₁, f₂, ?_, argSl_RI (g₁.exd x') ?_, argSl_RI (g₃.exd x') ?_⟩
      · rw [f₃]; simp [toStp]
      · rw [List.getElem_map]; exact g₂
      · rw [List.getElem_map]; exact g₄
end

/-- A slice that may come in. -/
theorem okw_slice' {P : Program} {w : World} {r : Reach} {base : Nat} {t e : TypeId} {v : Value} (ht : P.underlying t = some (.slice e)) (h : Value.okWide P w r base t v) :
    ∃ a len cap, v = .slice a len cap ∧ (a = none → len = 0 ∧ cap = 0) ∧ ∀ x, a = some x → len ≤ cap ∧ x.spot = none ∧ ∃ C el fz, w.heap[x.block]? = some (.cells C el fz) := by
  simp only [Value.okWide, ht, Cell.okWide] at h
  cases v with
  | slice a len cap =>
    refine ⟨a, len, cap, rfl, fun e => ?_, fun x e => ?_⟩
    · subst e
      cases len <;> cases cap <;> simp_all [Cell.ok]
    · subst e
      simp only [Cell.ok, ht] at h
      obtain ⟨h1, _, _, hsp, row, cells, hs, _⟩ := h
      refine ⟨h1, hsp, ?_⟩
      unfold World.shape? at hs
      split at hs
      · next hb => exact ⟨_, _, _, hb⟩
      · simp at hs
  | _ => simp_all [Cell.ok]

section
variable {H : Type} {enc : TypeId × Value → H} {P : Program} {w : World}

/-- A row of numbers inside a record. -/
theorem row_in {t e : TypeId} {fuel : Nat} {c : Value} {y : DataW H × List MemPlace} (ht : P.underlying t = some (.slice e)) (he : P.underlying e = some (.int .i64)) (hc : P.cellsOf e = 1) (hb : P.bytesOf e = 8)
    (h : DataW.trod enc P w 0 (fun _ => true) true fuel t [c] = some y) (hw : (y.1.weights P t).all (· ≤ reachBytes) = true) : ∃ a len cap zs, c = .slice a len cap ∧ IsRow' w a len cap zs ∧ len ≤ cap ∧ cap * 8 ≤ reachBytes := by
  rcases open_ints ht he hc h with ⟨hcs, _⟩ | ⟨a, len, cap, zs, hcs, _, hl, _, hz, hx, hcell, hwz⟩
  · simp only [List.cons.injEq, and_true] at hcs
    subst hcs
    exact ⟨none, 0, 0, [], rfl, .inl ⟨rfl, rfl, rfl, rfl⟩, Nat.le_refl _, by simp⟩
  · simp only [List.cons.injEq, and_true] at hcs
    subst hcs
    simp only [if_true] at hz
    refine ⟨some a, len, cap, zs, rfl, .inr ⟨a, rfl, hl, hz, hcell, hwz⟩, hl, ?_⟩
    subst hx
    simp only [DataW.weights, ht, List.all_cons, Bool.and_eq_true, decide_eq_true_eq, hb] at hw
    have := hw.1
    simp only [lits, List.length_map, List.length_take, List.length_drop, hz] at this
    omega

theorem add_add (x : Addr) (m i : Nat) : (x.add m).add i = x.add (m + i) := by
  unfold Addr.add
  by_cases h1 : m = 0
  · subst h1; simp
  · by_cases h2 : i = 0
    · subst h2; simp
    · simp [h1, h2, Nat.add_assoc]

theorem all_mem_weights {e : TypeId} {ds : List (DataW H)} {d : DataW H} (h : (DataW.weightsAll P e ds).all (· ≤ reachBytes) = true) (hd : d ∈ ds) : (d.weights P e).all (· ≤ reachBytes) = true := by
  induction ds with
  | nil => simp at hd
  | cons d' ds ih =>
    rw [DataW.weightsAll, List.all_append, Bool.and_eq_true] at h
    rcases List.mem_cons.1 hd with rfl | hd
    · exact h.1
    · exact ih h.2 hd

/-- A row of records that comes in. -/
theorem recs_of {r : Reach} {base : Nat} {t e ti ei tn : TypeId} {f₀ f₁ f₂ : Field} {v : Value} {d : DataW H} {ps : List MemPlace} (ht : P.underlying t = some (.slice e)) (he : P.underlying e = some (.struct #[f₀, f₁, f₂])) (hc : P.cellsOf e = 3)
    (h₀ : f₀.type = ti ∧ f₀.offset = 0) (h₁ : f₁.type = ti ∧ f₁.offset = 1) (h₂ : f₂.type = tn ∧ f₂.offset = 2) (hti : P.underlying ti = some (.slice ei)) (hci : P.cellsOf ti = 1) (hei : P.underlying ei = some (.int .i64)) (hce : P.cellsOf ei = 1) (hbe : P.bytesOf ei = 8)
    (htn : P.underlying tn = some (.int .i64)) (hcn : P.cellsOf tn = 1)
    (hv : Value.okWide P w r base t v) (h : ∃ m, DataW.trod enc P w 0 (fun _ => true) true m t v.cells.toList = some (d, ps)) (hw : (d.weights P t).all (· ≤ reachBytes) = true) (hbe' : P.bytesOf e = 56) :
    ∃ (a : Option Addr) (len cap : Nat) (recs : List (List Int × List Int × Int)), v = .slice a len cap ∧ (a = none → len = 0 ∧ cap = 0) ∧ (∀ x, a = some x → len ≤ cap ∧ x.spot = none ∧ ∃ C el fz, w.heap[x.block]? = some (.cells C el fz)) ∧ recs.length = len ∧ len * 56 ≤ reachBytes ∧
      (∀ x, a = some x → ∀ j (hj : j < recs.length), Rec3 w x j reachBytes recs[j].1 recs[j].2.1 recs[j].2.2) ∧ ∀ q ∈ recs, q.1.length * 8 ≤ reachBytes ∧ q.2.1.length * 8 ≤ reachBytes := by
  obtain ⟨a, len, cap, rfl, hn, hs⟩ := okw_slice' ht hv
  obtain ⟨m, hf⟩ := h
  rcases DataW.trod_slice ht hf with ⟨hcs, _⟩ | ⟨x, l, c, elems, rest, n, _, hcs, hx, _, hl, _, hlen, hel, _, _⟩
  · simp [Value.cells] at hcs
    obtain ⟨rfl, rfl, rfl⟩ := hcs
    exact ⟨none, 0, 0, [], rfl, hn, hs, rfl, by simp, fun x e => by simp at e, fun q m => by simp at m⟩
  · simp [Value.cells] at hcs
    obtain ⟨rfl, rfl, rfl⟩ := hcs
    simp only [Prod.mk.injEq] at hx
    obtain ⟨rfl, _⟩ := hx
    simp only [DataW.weights, ht, List.all_cons, List.all_append, Bool.and_eq_true, decide_eq_true_eq, List.length_map, hbe', hlen] at hw
    -- each record
    have each : ∀ j, j < len → ∃ q : List Int × List Int × Int, Rec3 w x j reachBytes q.1 q.2.1 q.2.2 ∧ q.1.length * 8 ≤ reachBytes ∧ q.2.1.length * 8 ≤ reachBytes := by
      intro j hj
      have hj' : j < elems.length := by omega
      have e1 := hel j hj
      rw [List.getElem?_eq_getElem hj', hc, Option.bind_eq_some_iff] at e1
      obtain ⟨cs, hcs, hy⟩ := e1
      obtain ⟨xs, n', _, hxs, hcl, hxl, hfs⟩ := DataW.trod_struct he hy
      have hwj : ((elems[j]).1.weights P e).all (· ≤ reachBytes) = true := all_mem_weights hw.2.1 (List.mem_map.2 ⟨elems[j], List.getElem_mem hj', rfl⟩)
      obtain ⟨_, hl3, hcell⟩ := World.cells?_some hcs
      match xs, hxl, cs, hl3, hcl with
      | [y₀, y₁, y₂], _, [u₀, u₁, u₂], _, _ =>
        have t₀ := hfs 0 f₀ rfl
        have t₁ := hfs 1 f₁ rfl
        have t₂ := hfs 2 f₂ rfl
        rw [h₀.1, h₀.2, hci] at t₀
        rw [h₁.1, h₁.2, hci] at t₁
        rw [h₂.1, h₂.2, hcn] at t₂
        simp only [List.drop_zero, List.take_succ_cons, List.take_zero, List.drop_succ_cons, List.getElem?_cons_zero, List.getElem?_cons_succ] at t₀ t₁ t₂
        rw [hxs] at hwj
        simp only [List.map_cons, List.map_nil, DataW.weights, he, DataW.weightsEach, h₀.1, h₁.1, h₂.1, List.all_append, Bool.and_eq_true] at hwj
        obtain ⟨a₁, l₁, c₁, z₁, rfl, r₁, b₁, k₁⟩ := row_in hti hei hce hbe t₀ hwj.1
        obtain ⟨a₂, l₂, c₂, z₂, rfl, r₂, b₂, k₂⟩ := row_in hti hei hce hbe t₁ hwj.2.1
        obtain ⟨p, hp, _, _⟩ := DataW.trod_int htn t₂
        simp only [List.cons.injEq, and_true] at hp
        subst hp
        have g₀ := hcell 0 (by omega)
        have g₁ := hcell 1 (by omega)
        have g₂ := hcell 2 (by omega)
        rw [add_add] at g₀ g₁ g₂
        refine ⟨(z₁.take l₁, z₂.take l₂, p), ⟨a₁, l₁, c₁, z₁, a₂, l₂, c₂, z₂, g₀, g₁, g₂, r₁, r₂, rfl, rfl, by omega, by omega⟩, ?_, ?_⟩
        · simp only [List.length_take]; omega
        · simp only [List.length_take]; omega
    refine ⟨some x, len, cap, (List.range len).map fun j => if hj : j < len then Classical.choose (each j hj) else ([], [], 0), rfl, hn, hs, by simp, by omega, fun x' e j hj => ?_, fun q hq => ?_⟩
    · simp only [Option.some.injEq] at e
      subst e
      have hj' : j < len := by simpa using hj
      simp only [List.getElem_map, List.getElem_range, hj', dif_pos]
      exact (Classical.choose_spec (each j hj')).1
    · obtain ⟨j, hj, rfl⟩ := List.mem_map.1 hq
      have hj' : j < len := by simpa using hj
      simp only [hj', dif_pos]
      exact (Classical.choose_spec (each j hj')).2
end
end Go.Proofs.Ythcmiceheohpjaa.Cm
