/-
  The clean machine, part YJ: an argument that is a row of records of five numbers, laid into the clean heap to be read.
-/
import Derived.Test.YtmppoknfekdbbaaDoorCmYI
import Derived.Test.YtmppoknfekdbbaaDoorCmYD
import GoSem.ClaimJoined
import Derived.ChangeArms
namespace Go.Proofs.YtmppoknfekdbbaaDoor.Cm
open Go.RowKit Go.ChangeShapes

def Ev.nth (e : Ev) : Nat → Int
  | 0 => e.at_
  | 1 => e.kind
  | 2 => e.pid
  | 3 => e.a
  | _ => e.b
theorem Ev.cs_nth (e : Ev) {q : Nat} (h : q < 5) : e.cs[q]? = some (.int .i64 (e.nth q)) := by
  match q, h with
  | 0, _ => rfl
  | 1, _ => rfl
  | 2, _ => rfl
  | 3, _ => rfl
  | 4, _ => rfl

/-- A row of records that came in. -/
structure IsEvs (w : World) (a : Option Addr) (len cap : Nat) (E : List Ev) : Prop where
  no : a = none → len = 0 ∧ cap = 0
  at_ : ∀ x, a = some x → len ≤ cap ∧ x.spot = none ∧ ∃ C el fz, w.heap[x.block]? = some (.cells C el fz)
  len : E.length = len
  cells : ∀ x, a = some x → ∀ j (hj : j < E.length), ∀ q, q < 5 → w.cell? (x.add (j * 5 + q)) = some (.int .i64 (E[j].nth q))

theorem okw_slice5 {P : Program} {w : World} {r : Reach} {base : Nat} {t e : TypeId} {v : Value} (ht : P.underlying t = some (.slice e)) (h : Value.okWide P w r base t v) :
    ∃ a len cap, v = .slice a len cap ∧ (a = none → len = 0 ∧ cap = 0) ∧ ∀ x, a = some x → len ≤ cap ∧ x.spot = none ∧ ∃ C el fz, w.heap[x.block]? = some (.cells C el fz) := by
  simp only [Value.okWide, ht, Cell.okWide] at h
  cases v with
  | slice a len cap =>
    refine ⟨a, len, cap, rfl, fun e => ?_, fun x e => ?_⟩
    · subst e
      cases len <;> cases cap <;> simp_all [Cell.ok]
    · subst e
      simp only [Cell.ok, ht] at h
      obtain ⟨h1, _, _, hsp, row, cells, hs, _⟩ := h
      refine ⟨h1, hsp, ?_⟩
      unfold World.shape? at hs
      split at hs
      · next hb => exact ⟨_, _, _, hb⟩
      · simp at hs
  | _ => simp_all [Cell.ok]

theorem add_add5 (x : Addr) (m i : Nat) : (x.add m).add i = x.add (m + i) := by
  unfold Addr.add
  by_cases h1 : m = 0
  · subst h1; simp
  · by_cases h2 : i = 0
    · subst h2; simp
    · simp [h1, h2, Nat.add_assoc]

theorem evs_of {P : Program} {w : World} {H : Type} {enc : TypeId × Value → H} {r : Reach} {base : Nat} {t e ti : TypeId} {f₀ f₁ f₂ f₃ f₄ : Field} {v : Value} {x : DataW H × List MemPlace} (ht : P.underlying t = some (.slice e)) (he : P.underlying e = some (.struct #[f₀, f₁, f₂, f₃, f₄])) (hc : P.cellsOf e = 5)
    (h₀ : f₀.type = ti ∧ f₀.offset = 0) (h₁ : f₁.type = ti ∧ f₁.offset = 1) (h₂ : f₂.type = ti ∧ f₂.offset = 2) (h₃ : f₃.type = ti ∧ f₃.offset = 3) (h₄ : f₄.type = ti ∧ f₄.offset = 4) (hti : P.underlying ti = some (.int .i64)) (hci : P.cellsOf ti = 1)
    (hv : Value.okWide P w r base t v) (h : ∃ m, DataW.trod enc P w 0 (fun _ => true) true m t v.cells.toList = some x) : ∃ (a : Option Addr) (len cap : Nat) (E : List Ev), v = .slice a len cap ∧ IsEvs w a len cap E := by
  obtain ⟨a, len, cap, rfl, hn, hs⟩ := okw_slice5 ht hv
  obtain ⟨m, hf⟩ := h
  obtain ⟨d, ps⟩ := x
  rcases DataW.trod_slice ht hf with ⟨hcs, _⟩ | ⟨x, l, c, elems, rest, n, _, hcs, hx, _, hl, _, hlen, hel, _, _⟩
  · simp [Value.cells] at hcs
    obtain ⟨rfl, rfl, rfl⟩ := hcs
    exact ⟨none, 0, 0, [], rfl, hn, hs, rfl, fun x e => by simp at e⟩
  · simp [Value.cells] at hcs
    obtain ⟨rfl, rfl, rfl⟩ := hcs
    have each : ∀ j, j < len → ∃ e : Ev, ∀ q, q < 5 → w.cell? (x.add (j * 5 + q)) = some (.int .i64 (e.nth q)) := by
      intro j hj
      have hj' : j < elems.length := by omega
      have e1 := hel j hj
      rw [List.getElem?_eq_getElem hj', hc, Option.bind_eq_some_iff] at e1
      obtain ⟨cs, hcs, hy⟩ := e1
      obtain ⟨xs, n', _, hxs, hcl, hxl, hfs⟩ := DataW.trod_struct he hy
      obtain ⟨_, hl3, hcell⟩ := World.cells?_some hcs
      match xs, hxl, cs, hl3, hcl with
      | [y₀, y₁, y₂, y₃, y₄], _, [u₀, u₁, u₂, u₃, u₄], _, _ =>
        have t₀ := hfs 0 f₀ rfl
        have t₁ := hfs 1 f₁ rfl
        have t₂ := hfs 2 f₂ rfl
        have t₃ := hfs 3 f₃ rfl
        have t₄ := hfs 4 f₄ rfl
        rw [h₀.1, h₀.2, hci] at t₀
        rw [h₁.1, h₁.2, hci] at t₁
        rw [h₂.1, h₂.2, hci] at t₂
        rw [h₃.1, h₃.2, hci] at t₃
        rw [h₄.1, h₄.2, hci] at t₄
        simp only [List.drop_zero, List.take_succ_cons, List.take_zero, List.drop_succ_cons, List.getElem?_cons_zero, List.getElem?_cons_succ] at t₀ t₁ t₂ t₃ t₄
        obtain ⟨p₀, hp₀, _⟩ := DataW.trod_int hti t₀
        obtain ⟨p₁, hp₁, _⟩ := DataW.trod_int hti t₁
        obtain ⟨p₂, hp₂, _⟩ := DataW.trod_int hti t₂
        obtain ⟨p₃, hp₃, _⟩ := DataW.trod_int hti t₃
        obtain ⟨p₄, hp₄, _⟩ := DataW.trod_int hti t₄
        simp only [List.cons.injEq, and_true] at hp₀ hp₁ hp₂ hp₃ hp₄
        subst hp₀ hp₁ hp₂ hp₃ hp₄
        refine ⟨⟨p₀, p₁, p₂, p₃, p₄⟩, fun q hq => ?_⟩
        have g := hcell q (by simpa using hq)
        rw [add_add5] at g
        match q, hq with
        | 0, _ => exact g
        | 1, _ => exact g
        | 2, _ => exact g
        | 3, _ => exact g
        | 4, _ => exact g
    refine ⟨some x, len, cap, (List.range len).map fun j => if hj : j < len then Classical.choose (each j hj) else default, rfl, hn, hs, by simp, fun x' e j hj => ?_⟩
    simp only [Option.some.injEq] at e
    subst e
    have hj' : j < len := by simpa using hj
    simp only [List.getElem_map, List.getElem_range, hj', dif_pos]
    exact Classical.choose_spec (each j hj')

section
variable {K : Ctx} {ι : Emb} {h : Heap} {w : World}

theorem open_evs (H : Inv K ι h w) (ro : Ro h) (hg : ∀ b, ¬ K.G b) {a : Option Addr} {len cap : Nat} {E : List Ev} (r : IsEvs w a len cap E) :
    ∃ ι' h' v, ι.le ι' ∧ Inv K ι' h' w ∧ Exd h h' ∧ Ro h' ∧ VR ι' v (.slice a len cap) ∧ REv h' v E := by
  obtain ⟨hn, hs, hlen, hcell⟩ := r
  cases a with
  | none =>
    obtain ⟨rfl, rfl⟩ := hn rfl
    obtain rfl : E = [] := by cases E; rfl; simp at hlen
    exact ⟨ι, h, .nilSlice, Emb.le.refl _, H, Exd.refl _, ro, .nilSlice, .inl ⟨rfl, rfl⟩⟩
  | some x =>
    obtain ⟨hle, hspot, C, el, fz, hb⟩ := hs x rfl
    have hcells : CellsR (ι.put h.next (x.block, x.off, 0)) (cellsE E) C x.off := by
      intro p v e
      have hp : p < E.length * 5 := by
        rw [← cellsE_length]; exact (List.getElem?_eq_some_iff.1 e).1
      have hj : p / 5 < E.length := by omega
      have hq : p % 5 < 5 := Nat.mod_lt _ (by omega)
      have e1 : (cellsE E)[p / 5 * 5 + p % 5]? = some (.int .i64 (E[p / 5].nth (p % 5))) := by
        have := congrArg (·[p % 5]?) (cellsE_get hj)
        simp only [List.getElem?_take, List.getElem?_drop, if_pos hq] at this
        rw [this, Ev.cs_nth _ hq]
      rw [show p / 5 * 5 + p % 5 = p by omega] at e1
      rw [e1] at e
      simp only [Option.some.injEq] at e
      subst e
      refine ⟨rfl, .int .i64 (E[p / 5].nth (p % 5)), ?_, .int _ _⟩
      have c := hcell x rfl (p / 5) hj (p % 5) hq
      rw [show p / 5 * 5 + p % 5 = p by omega] at c
      unfold World.cell? Addr.add at c
      by_cases hj0 : p = 0
      · subst hj0
        simp only [if_true, hb, hspot] at c
        simpa using c
      · simp only [if_neg hj0, hb] at c
        simpa using c
    refine ⟨_, _, .slice h.next 0 len cap, ι.le_put h.next (x.block, x.off, 0) (H.fresh h.next (Nat.le_refl _)).1, H.arg ro hb hcells (hg _), Exd.new (Exd.refl _), fun i o e => ?_, ?_, ?_⟩
    · rw [Heap.get_new] at e
      split at e
      · simp only [Option.some.injEq] at e; subst e; rfl
      · exact ro i o e
    · refine .slice h.next 0 len cap x.block x.off 0 x (Emb.put_same _ _ _) (.inl ?_) hle
      obtain ⟨bl, of, s⟩ := x
      simp only at hspot
      subst hspot
      rfl
    · refine .inr ⟨h.next, 0, cap, by rw [hlen], by rw [hlen]; exact hle, by rw [Heap.next_new]; omega, .inr ⟨_, false, none, h.get_new_same _, fun j hj => by rw [Nat.zero_add]; exact cellsE_get hj⟩⟩
end
end Go.Proofs.YtmppoknfekdbbaaDoor.Cm
