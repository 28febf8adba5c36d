/-
  The clean machine, part A: its values, how they stand to the model's values, its heap.
  A clean value names memory by an id of its own; an embedding says which block of the model's heap an id stands for.
-/
import Derived.Below
import Derived.Defers
namespace Go.Proofs.YtmppoknfekdbbaaDoor.Cm

/-- Clean values. 'undef' stands for whatever the model holds there. -/
inductive CVal where
  | undef
  | bool (b : Bool)
  | int (k : IntKind) (n : Int)
  | str (s : List UInt8)
  | nilPtr
  | ptr (i o : Nat)
  | nilSlice
  | slice (i o len cap : Nat)
  | nilMap
  | map (i : Nat)
  | nilFunc
  | func (f : FuncId) (first cap : List CVal)
  | yield (i : Nat)
  | nilIface
  | iface (t : TypeId) (v : CVal)
  | agg (cs : List CVal)
  | tuple (vs : List CVal)
  deriving Inhabited

mutual
def CVal.beq : CVal → CVal → Bool
  | .undef, .undef | .nilPtr, .nilPtr | .nilSlice, .nilSlice | .nilMap, .nilMap | .nilFunc, .nilFunc | .nilIface, .nilIface => true
  | .bool a, .bool b => a == b
  | .int k n, .int k' n' => k == k' && n == n'
  | .str s, .str t => s == t
  | .ptr i o, .ptr i' o' => i == i' && o == o'
  | .slice i o l c, .slice i' o' l' c' => i == i' && o == o' && l == l' && c == c'
  | .map i, .map i' => i == i'
  | .func f p q, .func f' p' q' => f == f' && CVal.beqs p p' && CVal.beqs q q'
  | .yield i, .yield i' => i == i'
  | .iface t v, .iface t' v' => t == t' && CVal.beq v v'
  | .agg cs, .agg ds => CVal.beqs cs ds
  | .tuple cs, .tuple ds => CVal.beqs cs ds
  | _, _ => false
def CVal.beqs : List CVal → List CVal → Bool
  | [], [] => true
  | v :: vs, u :: us => CVal.beq v u && CVal.beqs vs us
  | _, _ => false
end

mutual
theorem CVal.beq_eq : ∀ {u v : CVal}, CVal.beq u v = true → u = v := by
  intro u v h
  cases u <;> cases v <;> simp [CVal.beq] at h <;> first
    | rfl
    | (subst h; rfl)
    | (obtain ⟨rfl, rfl⟩ := h; rfl)
    | (obtain ⟨⟨⟨rfl, rfl⟩, rfl⟩, rfl⟩ := h; rfl)
    | (obtain ⟨⟨rfl, h1⟩, h2⟩ := h; rw [CVal.beqs_eq h1, CVal.beqs_eq h2])
    | (obtain ⟨rfl, h1⟩ := h; rw [CVal.beq_eq h1])
    | rw [CVal.beqs_eq h]
theorem CVal.beqs_eq : ∀ {us vs : List CVal}, CVal.beqs us vs = true → us = vs
  | [], [], _ => rfl
  | u :: us, v :: vs, h => by
    simp [CVal.beqs] at h
    rw [CVal.beq_eq h.1, CVal.beqs_eq h.2]
  | [], _ :: _, h => by simp [CVal.beqs] at h
  | _ :: _, [], h => by simp [CVal.beqs] at h
end

mutual
theorem CVal.beq_refl : ∀ (u : CVal), CVal.beq u u = true
  | .undef | .nilPtr | .nilSlice | .nilMap | .nilFunc | .nilIface => rfl
  | .bool a | .int _ _ | .str _ | .ptr _ _ | .slice _ _ _ _ | .map _ | .yield _ => by simp [CVal.beq]
  | .func f p q => by simp [CVal.beq, CVal.beqs_refl p, CVal.beqs_refl q]
  | .iface t v => by simp [CVal.beq, CVal.beq_refl v]
  | .agg cs => by simp [CVal.beq, CVal.beqs_refl cs]
  | .tuple cs => by simp [CVal.beq, CVal.beqs_refl cs]
theorem CVal.beqs_refl : ∀ (us : List CVal), CVal.beqs us us = true
  | [] => rfl
  | u :: us => by simp [CVal.beqs, CVal.beq_refl u, CVal.beqs_refl us]
end

/-- A value of one cell. -/
def CVal.one : CVal → Bool
  | .undef | .agg _ | .tuple _ => false
  | _ => true

/-- An id's block, where in it the id's cells begin, and by how many elements the block may be longer than the clean one. -/
abbrev Emb := Nat → Option (Nat × Nat × Nat)

mutual
inductive VR (ι : Emb) : CVal → Value → Prop
  | undef (v : Value) : VR ι .undef v
  | bool (b : Bool) : VR ι (.bool b) (.bool b)
  | int (k : IntKind) (n : Int) : VR ι (.int k n) (.int k n)
  | str (s : ByteArray) : VR ι (.str s.data.toList) (.string s)
  | nilPtr : VR ι .nilPtr (.pointer none)
  | ptr (i o b β e : Nat) : ι i = some (b, β, e) → VR ι (.ptr i o) (.pointer (some ⟨b, β + o, none⟩))
  | nilSlice : VR ι .nilSlice (.slice none 0 0)
  | slice (i o l c b β e : Nat) (a : Addr) : ι i = some (b, β, e) → (a = ⟨b, β + o, none⟩ ∨ c + e = 0) → l ≤ c → VR ι (.slice i o l c) (.slice (some a) l (c + e))
  | nilMap : VR ι .nilMap (.map none)
  | map (i b β e : Nat) : ι i = some (b, β, e) → VR ι (.map i) (.map (some b))
  | nilFunc : VR ι .nilFunc .nilFunc
  | func (f : FuncId) (first cap : List CVal) (first' cap' : Array Value) : VRs ι first first'.toList → VRs ι cap cap'.toList → VR ι (.func f first cap) (.func (.func f) first' cap')
  | yield (i b β e : Nat) : ι i = some (b, β, e) → VR ι (.yield i) (.func (.yield b) #[] #[])
  | nilIface : VR ι .nilIface .nilIface
  | iface (t : TypeId) (v : CVal) (v' : Value) : VR ι v v' → VR ι (.iface t v) (.iface t v')
  | agg (cs : List CVal) (cs' : Array Value) : VRs ι cs cs'.toList → VR ι (.agg cs) (.agg cs')
  | tuple (cs : List CVal) (cs' : Array Value) : VRs ι cs cs'.toList → VR ι (.tuple cs) (.tuple cs')
inductive VRs (ι : Emb) : List CVal → List Value → Prop
  | nil : VRs ι [] []
  | cons (v : CVal) (vs : List CVal) (v' : Value) (vs' : List Value) : VR ι v v' → VRs ι vs vs' → VRs ι (v :: vs) (v' :: vs')
end

/-- An embedding that knows more. -/
def Emb.le (ι ι' : Emb) : Prop := ∀ i x, ι i = some x → ι' i = some x

theorem Emb.le.refl (ι : Emb) : ι.le ι := fun _ _ h => h
theorem Emb.le.trans {ι ι' ι'' : Emb} (h : ι.le ι') (k : ι'.le ι'') : ι.le ι'' := fun i x e => k i x (h i x e)

mutual
theorem VR.mono {ι ι' : Emb} (hι : ι.le ι') : ∀ {v : CVal} {v' : Value}, VR ι v v' → VR ι' v v'
  | _, _, .undef v => .undef v
  | _, _, .bool b => .bool b
  | _, _, .int k n => .int k n
  | _, _, .str s => .str s
  | _, _, .nilPtr => .nilPtr
  | _, _, .ptr i o b β e h => .ptr i o b β e (hι _ _ h)
  | _, _, .nilSlice => .nilSlice
  | _, _, .slice i o l c b β e a h k m => .slice i o l c b β e a (hι _ _ h) k m
  | _, _, .nilMap => .nilMap
  | _, _, .map i b β e h => .map i b β e (hι _ _ h)
  | _, _, .nilFunc => .nilFunc
  | _, _, .func f p q p' q' h k => .func f p q p' q' (VRs.mono hι h) (VRs.mono hι k)
  | _, _, .yield i b β e h => .yield i b β e (hι _ _ h)
  | _, _, .nilIface => .nilIface
  | _, _, .iface t v v' h => .iface t v v' (VR.mono hι h)
  | _, _, .agg cs cs' h => .agg cs cs' (VRs.mono hι h)
  | _, _, .tuple cs cs' h => .tuple cs cs' (VRs.mono hι h)
theorem VRs.mono {ι ι' : Emb} (hι : ι.le ι') : ∀ {vs : List CVal} {vs' : List Value}, VRs ι vs vs' → VRs ι' vs vs'
  | _, _, .nil => .nil
  | _, _, .cons v vs v' vs' h k => .cons v vs v' vs' (VR.mono hι h) (VRs.mono hι k)
end

section
variable {ι : Emb}
theorem VRs.length {vs : List CVal} {vs' : List Value} : VRs ι vs vs' → vs.length = vs'.length
  | .nil => rfl
  | .cons _ _ _ _ _ k => by simp [VRs.length k]
theorem VRs.get {vs : List CVal} {vs' : List Value} : VRs ι vs vs' → ∀ (j : Nat) (v : CVal), vs[j]? = some v → ∃ v', vs'[j]? = some v' ∧ VR ι v v'
  | .nil, j, v, h => by simp at h
  | .cons _ _ v' _ h k, 0, v, e => ⟨v', rfl, by simp at e; exact e ▸ h⟩
  | .cons _ _ _ _ h k, j + 1, v, e => by
    obtain ⟨v', h1, h2⟩ := VRs.get k j v (by simpa using e)
    exact ⟨v', by simpa using h1, h2⟩
theorem VRs.of_get : ∀ {vs : List CVal} {vs' : List Value}, vs.length = vs'.length → (∀ (j : Nat) (v : CVal) (v' : Value), vs[j]? = some v → vs'[j]? = some v' → VR ι v v') → VRs ι vs vs'
  | [], [], _, _ => .nil
  | v :: vs, v' :: vs', hl, h => .cons _ _ _ _ (h 0 v v' rfl rfl) (VRs.of_get (by simpa using hl) fun j x x' e e' => h (j + 1) x x' (by simpa using e) (by simpa using e'))
theorem VRs.append {vs us : List CVal} {vs' us' : List Value} : VRs ι vs vs' → VRs ι us us' → VRs ι (vs ++ us) (vs' ++ us')
  | .nil, k => k
  | .cons _ _ _ _ h h', k => .cons _ _ _ _ h (h'.append k)
theorem VRs.set {vs : List CVal} {vs' : List Value} {v : CVal} {v' : Value} (hv : VR ι v v') : VRs ι vs vs' → ∀ j, VRs ι (vs.set j v) (vs'.set j v')
  | .nil, _ => .nil
  | .cons _ _ _ _ _ k, 0 => .cons _ _ _ _ hv k
  | .cons _ _ _ _ h k, j + 1 => .cons _ _ _ _ h (k.set hv j)
theorem VRs.take {vs : List CVal} {vs' : List Value} : VRs ι vs vs' → ∀ n, VRs ι (vs.take n) (vs'.take n)
  | .nil, _ => by simp; exact .nil
  | .cons _ _ _ _ _ _, 0 => .nil
  | .cons _ _ _ _ h k, n + 1 => .cons _ _ _ _ h (k.take n)
theorem VRs.drop {vs : List CVal} {vs' : List Value} : VRs ι vs vs' → ∀ n, VRs ι (vs.drop n) (vs'.drop n)
  | .nil, _ => by simp; exact .nil
  | .cons _ _ _ _ h k, 0 => .cons _ _ _ _ h k
  | .cons _ _ _ _ _ k, n + 1 => by simpa using k.drop n
theorem VRs.replicate_undef (n : Nat) (v' : Value) : VRs ι (List.replicate n .undef) (List.replicate n v') := by
  induction n with
  | zero => exact .nil
  | succ n ih => exact .cons _ _ _ _ (.undef _) ih
theorem VRs.map_of {α : Type} (f : α → CVal) (g : α → Value) : ∀ (l : List α), (∀ x ∈ l, VR ι (f x) (g x)) → VRs ι (l.map f) (l.map g)
  | [], _ => .nil
  | x :: l, h => .cons _ _ _ _ (h x (by simp)) (VRs.map_of f g l fun y hy => h y (by simp [hy]))

/-- A model's value of one cell. -/
def oneV : Value → Bool
  | .agg _ | .tuple _ => false
  | _ => true
theorem VR.one {v : CVal} {v' : Value} (h : VR ι v v') (ho : v.one = true) : oneV v' = true := by
  cases h <;> first | rfl | simp [CVal.one] at ho
theorem VR.cells_one {v : CVal} {v' : Value} (h : VR ι v v') (ho : v.one = true) : v'.cells = #[v'] := by
  cases h <;> first | rfl | simp [CVal.one] at ho
end

/-! ### The clean heap: a tree by binary digits, so that Lean's kernel can go through it -/

inductive CObj where
  /-- Cells; may they be written? 'opn = some size': made by an append, so the real block may be longer (its elements have so many cells). -/
  | cells (vs : List CVal) (wr : Bool) (opn : Option Nat)
  | map (es : List (CVal × CVal)) (wr : Bool)
  | iter (s : List UInt8) (pos : Nat)
  deriving Inhabited

inductive Tr where
  | nil
  | node (v : Option CObj) (l r : Tr)
  deriving Inhabited

def Tr.get : Tr → Nat → Option CObj
  | .nil, _ => none
  | .node v _ _, 0 => v
  | .node _ l r, k + 1 => match k % 2 with
    | 0 => l.get (k / 2)
    | _ => r.get (k / 2)

def Tr.set : Nat → Tr → Nat → Option CObj → Tr
  | 0, t, _, _ => t
  | f + 1, t, i, o =>
    match t with
    | .nil => match i with
      | 0 => .node o .nil .nil
      | k + 1 => match k % 2 with
        | 0 => .node none (Tr.set f .nil (k / 2) o) .nil
        | _ => .node none .nil (Tr.set f .nil (k / 2) o)
    | .node v l r => match i with
      | 0 => .node o l r
      | k + 1 => match k % 2 with
        | 0 => .node v (Tr.set f l (k / 2) o) r
        | _ => .node v l (Tr.set f r (k / 2) o)

theorem Tr.get_nil (i : Nat) : Tr.nil.get i = none := by cases i <;> rfl

theorem Tr.get_succ (v : Option CObj) (l r : Tr) (k : Nat) : (Tr.node v l r).get (k + 1) = if k % 2 = 0 then l.get (k / 2) else r.get (k / 2) := by
  simp only [Tr.get]
  split
  · next h => simp [h]
  · next h => rw [if_neg (fun e => h e)]

theorem Tr.get_set : ∀ (f : Nat) (t : Tr) (i j : Nat) (o : Option CObj), i < f → (Tr.set f t i o).get j = if j = i then o else t.get j
  | 0, _, _, _, _, h => by omega
  | f + 1, .nil, 0, j, o, _ => by
    cases j with
    | zero => simp [Tr.set, Tr.get]
    | succ j => simp [Tr.set, Tr.get_succ, Tr.get_nil]
  | f + 1, .nil, i + 1, j, o, h => by
    simp only [Tr.set]
    cases j with
    | zero => split <;> simp [Tr.get]
    | succ j =>
      split
      · next hm =>
        rw [Tr.get_succ]
        by_cases hj : j % 2 = 0
        · rw [if_pos hj, Tr.get_set f _ _ _ _ (by omega)]
          by_cases e : j = i
          · subst e; simp
          · rw [if_neg (by omega), if_neg (by omega), Tr.get_nil, Tr.get_nil]
        · rw [if_neg hj, Tr.get_nil, if_neg (by omega), Tr.get_nil]
      · next hm =>
        have hm' : i % 2 = 1 := by have : i % 2 ≠ 0 := fun e => hm e; omega
        rw [Tr.get_succ]
        by_cases hj : j % 2 = 0
        · rw [if_pos hj, Tr.get_nil, if_neg (by omega), Tr.get_nil]
        · rw [if_neg hj, Tr.get_set f _ _ _ _ (by omega)]
          by_cases e : j = i
          · subst e; simp
          · rw [if_neg (by omega), if_neg (by omega), Tr.get_nil, Tr.get_nil]
  | f + 1, .node v l r, 0, j, o, _ => by
    cases j with
    | zero => simp [Tr.set, Tr.get]
    | succ j => simp [Tr.set, Tr.get_succ]
  | f + 1, .node v l r, i + 1, j, o, h => by
    simp only [Tr.set]
    cases j with
    | zero => split <;> simp [Tr.get]
    | succ j =>
      split
      · next hm =>
        rw [Tr.get_succ, Tr.get_succ]
        by_cases hj : j % 2 = 0
        · rw [if_pos hj, if_pos hj, Tr.get_set f _ _ _ _ (by omega)]
          by_cases e : j = i
          · subst e; simp
          · rw [if_neg (by omega), if_neg (by omega)]
        · rw [if_neg hj, if_neg hj, if_neg (by omega)]
      · next hm =>
        have hm' : i % 2 = 1 := by have : i % 2 ≠ 0 := fun e => hm e; omega
        rw [Tr.get_succ, Tr.get_succ]
        by_cases hj : j % 2 = 0
        · rw [if_pos hj, if_pos hj, if_neg (by omega)]
        · rw [if_neg hj, if_neg hj, Tr.get_set f _ _ _ _ (by omega)]
          by_cases e : j = i
          · subst e; simp
          · rw [if_neg (by omega), if_neg (by omega)]

structure Heap where
  next : Nat
  t : Tr
  deriving Inhabited

def Heap.get (h : Heap) (i : Nat) : Option CObj := h.t.get i
def Heap.put (h : Heap) (i : Nat) (o : Option CObj) : Heap := { h with t := Tr.set (i + 1) h.t i o }
def Heap.set (h : Heap) (i : Nat) (o : CObj) : Heap := h.put i (some o)
def Heap.kill (h : Heap) (i : Nat) : Heap := h.put i none
/-- A new id, with what it holds. -/
def Heap.new (h : Heap) (o : CObj) : Heap := { next := h.next + 1, t := Tr.set (h.next + 1) h.t h.next (some o) }

section
variable (h : Heap) (i j : Nat) (o : CObj)
theorem Heap.get_put (x : Option CObj) : (h.put i x).get j = if j = i then x else h.get j := Tr.get_set _ _ _ _ _ (by omega)
theorem Heap.get_set : (h.set i o).get j = if j = i then some o else h.get j := h.get_put i j _
theorem Heap.get_kill : (h.kill i).get j = if j = i then none else h.get j := h.get_put i j _
theorem Heap.get_new : (h.new o).get j = if j = h.next then some o else h.get j := Tr.get_set _ _ _ _ _ (by omega)
@[simp] theorem Heap.get_set_same : (h.set i o).get i = some o := by simp [Heap.get_set]
@[simp] theorem Heap.get_new_same : (h.new o).get h.next = some o := by simp [Heap.get_new]
theorem Heap.get_set_ne (e : j ≠ i) : (h.set i o).get j = h.get j := by simp [Heap.get_set, e]
theorem Heap.get_new_ne (e : j ≠ h.next) : (h.new o).get j = h.get j := by simp [Heap.get_new, e]
theorem Heap.get_kill_ne (e : j ≠ i) : (h.kill i).get j = h.get j := by simp [Heap.get_kill, e]
@[simp] theorem Heap.next_set : (h.set i o).next = h.next := rfl
@[simp] theorem Heap.next_kill : (h.kill i).next = h.next := rfl
@[simp] theorem Heap.next_new : (h.new o).next = h.next + 1 := rfl
end

end Go.Proofs.YtmppoknfekdbbaaDoor.Cm
