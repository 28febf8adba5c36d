/-
  The clean machine, part YD: arguments that are rows of records, each of two rows of numbers and a number, laid into the clean heap to be read.
-/
import Derived.Test.YtmppoknfekdbbaaDoorCmYC
namespace Go.Proofs.YtmppoknfekdbbaaDoor.Cm
open Go.RowKit Go.ChangeShapes

/-- A row of numbers that lies in the world (in which block, where it is empty, is not told). -/
def IsRow' (w : World) (a : Option Addr) (len cap : Nat) (zs : List Int) : Prop :=
  (a = none ∧ len = 0 ∧ cap = 0 ∧ zs = []) ∨
  ∃ x, a = some x ∧ len ≤ cap ∧ zs.length = cap ∧ (∀ i, i < zs.length → w.cell? (x.add i) = some (.int .i64 (zs.getD i 0))) ∧ ∀ n ∈ zs, (Lit.int .i64 n).wf = true

section
variable {K : Ctx} {ι : Emb} {h : Heap} {w : World}

theorem cell_block {x : Addr} {v : Value} (c : w.cell? x = some v) : x.block < w.heap.size := by
  unfold World.cell? at c
  split at c
  · next hb => exact (Array.getElem?_eq_some_iff.1 hb).1
  · simp at c

theorem IsRow'.row {a : Option Addr} {len cap : Nat} {zs : List Int} (r : IsRow' w a len cap zs) (h0 : 0 < cap) : IsRow .i64 w a len cap zs := by
  rcases r with ⟨_, _, rfl, _⟩ | ⟨x, rfl, h1, h2, h3, h4⟩
  · omega
  · have c := h3 0 (by omega)
    have : x.add 0 = x := by simp [Addr.add]
    rw [this] at c
    exact .inr ⟨x, rfl, cell_block c, h1, h2, h3, h4⟩

theorem open_arg' (H : Inv K ι h w) (ro : Ro h) (hg : ∀ b, ¬ K.G b) {b₀ : Nat} (hb : b₀ < w.heap.size) {a : Option Addr} {len cap : Nat} {zs : List Int} (r : IsRow' w a len cap zs) :
    ∃ ι' h' v, ι.le ι' ∧ Inv K ι' h' w ∧ Exd h h' ∧ Ro h' ∧ VR ι' v (.slice a len cap) ∧ ArgSl h' v .i64 len zs := by
  by_cases h0 : cap = 0
  · rcases r with ⟨rfl, rfl, rfl, rfl⟩ | ⟨x, rfl, h1, h2, h3, h4⟩
    · exact ⟨ι, h, .nilSlice, Emb.le.refl _, H, Exd.refl _, ro, .nilSlice, Nat.le_refl _, fun n m => by simp at m, .inl ⟨rfl, rfl⟩⟩
    · subst h0
      obtain rfl : zs = [] := by cases zs; rfl; simp at h2
      obtain rfl : len = 0 := by omega
      refine ⟨_, h.room 1, .slice h.next 0 0 0, ι.le_put h.next _ (H.fresh h.next (Nat.le_refl _)).1, H.argE hb, ⟨by rw [Heap.nx_room rfl]; omega, fun i _ => Heap.room_get rfl⟩, fun i o e => ro i o (by rw [Heap.room_get rfl] at e; exact e), ?_, Nat.le_refl _, h4, .inr ⟨h.next, rfl, by rw [Heap.nx_room rfl]; omega, .inl rfl⟩⟩
      exact .slice h.next 0 0 0 b₀ 0 0 x (Emb.put_same _ _ _) (.inr rfl) (Nat.le_refl _)
  · exact open_arg H ro hg (r.row (by omega))

/-- What one record is. -/
def Rec3 (w : World) (x : Addr) (j : Nat) (B : Nat) (R₁ R₂ : List Int) (p : Int) : Prop :=
  ∃ a₁ l₁ c₁ z₁ a₂ l₂ c₂ z₂, w.cell? (x.add (j * 3)) = some (.slice a₁ l₁ c₁) ∧ w.cell? (x.add (j * 3 + 1)) = some (.slice a₂ l₂ c₂) ∧ w.cell? (x.add (j * 3 + 2)) = some (.int .i64 p) ∧
    IsRow' w a₁ l₁ c₁ z₁ ∧ IsRow' w a₂ l₂ c₂ z₂ ∧ R₁ = z₁.take l₁ ∧ R₂ = z₂.take l₂ ∧ c₁ ≤ B ∧ c₂ ≤ B

/-- So many records laid in. -/
structure Laid3 (K : Ctx) (ι : Emb) (h : Heap) (w : World) (x : Addr) (recs : List (List Int × List Int × Int)) (n : Nat) (ι' : Emb) (h' : Heap) (cs : List CVal) : Prop where
  le : ι.le ι'
  inv : Inv K ι' h' w
  exd : Exd h h'
  ro : Ro h'
  len : cs.length = n * 3
  cells : ∀ j v, cs[j]? = some v → v.one = true ∧ ∃ v', w.cell? (x.add j) = some v' ∧ VR ι' v v'
  recs : ∀ j (hj : j < recs.length), j < n → ∃ v₁ v₂, cs[j * 3]? = some v₁ ∧ cs[j * 3 + 1]? = some v₂ ∧ cs[j * 3 + 2]? = some (.int .i64 recs[j].2.2) ∧ (∃ l z, ArgSl h' v₁ .i64 l z ∧ recs[j].1 = z.take l) ∧ ∃ l z, ArgSl h' v₂ .i64 l z ∧ recs[j].2.1 = z.take l

theorem VR.one_slice {v : CVal} {a : Option Addr} {l c : Nat} (r : VR ι v (.slice a l c)) (hs : v ≠ .undef) : v.one = true := by
  cases r with
  | undef => exact (hs rfl).elim
  | nilSlice => rfl
  | slice => rfl

theorem ArgSl.ne_undef {v : CVal} {k : IntKind} {l : Nat} {z : List Int} (s : ArgSl h v k l z) : v ≠ .undef := by
  rcases s.2.2 with ⟨rfl, _⟩ | ⟨_, rfl, _⟩ <;> simp

theorem lay3 (H : Inv K ι h w) (ro : Ro h) (hg : ∀ b, ¬ K.G b) {x : Addr} {B : Nat} {recs : List (List Int × List Int × Int)} (hr : ∀ j (hj : j < recs.length), Rec3 w x j B recs[j].1 recs[j].2.1 recs[j].2.2) :
    ∀ n, n ≤ recs.length → ∃ ι' h' cs, Laid3 K ι h w x recs n ι' h' cs
  | 0, _ => ⟨ι, h, [], Emb.le.refl _, H, Exd.refl _, ro, rfl, fun j v e => by simp at e, fun j _ hj => by omega⟩
  | n + 1, hn => by
    obtain ⟨ι₁, h₁, cs, L⟩ := lay3 H ro hg hr n (by omega)
    obtain ⟨a₁, l₁, c₁, z₁, a₂, l₂, c₂, z₂, e₁, e₂, e₃, r₁, r₂, q₁, q₂, _, _⟩ := hr n (by omega)
    have hb : x.block < w.heap.size := by
      have := cell_block e₁
      unfold Addr.add at this
      split at this <;> exact this
    obtain ⟨ι₂, h₂, v₁, le₂, H₂, x₂, ro₂, vr₁, s₁⟩ := open_arg' L.inv L.ro hg hb r₁
    obtain ⟨ι₃, h₃, v₂, le₃, H₃, x₃, ro₃, vr₂, s₂⟩ := open_arg' H₂ ro₂ hg hb r₂
    have s₁' := s₁.exd x₃
    have len := L.len
    refine ⟨ι₃, h₃, cs ++ [v₁, v₂, .int .i64 recs[n].2.2], (L.le.trans le₂).trans le₃, H₃, (L.exd.trans x₂).trans x₃, ro₃, by simp [len]; omega, fun j v e => ?_, fun j hj hjn => ?_⟩
    · rcases Nat.lt_or_ge j (n * 3) with h1 | h1
      · rw [List.getElem?_append_left (by omega)] at e
        obtain ⟨o, v', c, r⟩ := L.cells j v e
        exact ⟨o, v', c, (r.mono le₂).mono le₃⟩
      · rw [List.getElem?_append_right (by omega), len] at e
        have hj3 : j - n * 3 < 3 := by
          rcases Nat.lt_or_ge (j - n * 3) 3 with h2 | h2
          · exact h2
          · rw [List.getElem?_eq_none (by simpa using h2)] at e; simp at e
        rcases (show j = n * 3 ∨ j = n * 3 + 1 ∨ j = n * 3 + 2 by omega) with rfl | rfl | rfl
        · rw [Nat.sub_self] at e
          simp only [List.getElem?_cons_zero, Option.some.injEq] at e
          subst e
          exact ⟨VR.one_slice vr₁ s₁.ne_undef, _, e₁, vr₁.mono le₃⟩
        · rw [show n * 3 + 1 - n * 3 = 1 by omega] at e
          simp only [List.getElem?_cons_succ, List.getElem?_cons_zero, Option.some.injEq] at e
          subst e
          exact ⟨VR.one_slice vr₂ s₂.ne_undef, _, e₂, vr₂⟩
        · rw [show n * 3 + 2 - n * 3 = 2 by omega] at e
          simp only [List.getElem?_cons_succ, List.getElem?_cons_zero, Option.some.injEq] at e
          subst e
          exact ⟨rfl, _, e₃, .int .i64 _⟩
    · rcases Nat.lt_or_ge j n with h1 | h1
      · obtain ⟨u₁, u₂, f₁, f₂, f₃, ⟨l, z, g₁, g₂⟩, l', z', g₃, g₄⟩ := L.recs j hj h1
        refine ⟨u₁, u₂, ?_, ?_, ?_, ⟨l, z, (g₁.exd x₂).exd x₃, g₂⟩, l', z', (g₃.exd x₂).exd x₃, g₄⟩
        · rw [List.getElem?_append_left (by omega)]; exact f₁
        · rw [List.getElem?_append_left (by omega)]; exact f₂
        · rw [List.getElem?_append_left (by omega)]; exact f₃
      · obtain rfl : j = n := by omega
        refine ⟨v₁, v₂, ?_, ?_, ?_, ⟨l₁, z₁, s₁', q₁⟩, l₂, z₂, s₂, q₂⟩
        · rw [List.getElem?_append_right (by omega), len, Nat.sub_self]; rfl
        · rw [List.getElem?_append_right (by omega), len, show j * 3 + 1 - j * 3 = 1 by omega]; rfl
        · rw [List.getElem?_append_right (by omega), len, show j * 3 + 2 - j * 3 = 2 by omega]; rfl
end
end Go.Proofs.YtmppoknfekdbbaaDoor.Cm
