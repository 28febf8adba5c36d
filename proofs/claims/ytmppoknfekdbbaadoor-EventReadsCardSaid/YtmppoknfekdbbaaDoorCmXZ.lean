/-
  The clean machine, part Z: a text's condition as a proposition that reduces by itself (whnf) to the next thing that is not known.
-/
import Derived.Test.YtmppoknfekdbbaaDoorCmXY
namespace Go.Proofs.YtmppoknfekdbbaaDoor.Cm
open Go.RowKit Go.IntWalk

abbrev DS := List (FuncId × List CVal)

/-! ### What is not known: nodes -/
structure LTN (a b : Int) (A B : Prop) : Prop where
  t : a < b → A
  f : b ≤ a → B
theorem LTN.yes {a b : Int} {A B : Prop} (h : a < b) (k : A) : LTN a b A B := ⟨fun _ => k, fun _ => by omega⟩
theorem LTN.no {a b : Int} {A B : Prop} (h : b ≤ a) (k : B) : LTN a b A B := ⟨fun _ => by omega, fun _ => k⟩
structure EQN (a b : Int) (A B : Prop) : Prop where
  t : a = b → A
  f : a ≠ b → B
theorem EQN.yes {a b : Int} {A B : Prop} (h : a = b) (k : A) : EQN a b A B := ⟨fun _ => k, fun e => (e h).elim⟩
theorem EQN.no {a b : Int} {A B : Prop} (h : a ≠ b) (k : B) : EQN a b A B := ⟨fun e => (h e).elim, fun _ => k⟩
structure EQSN (a b : List UInt8) (A B : Prop) : Prop where
  t : a = b → A
  f : a ≠ b → B
theorem EQSN.yes {a b : List UInt8} {A B : Prop} (h : a = b) (k : A) : EQSN a b A B := ⟨fun _ => k, fun e => (e h).elim⟩
theorem EQSN.no {a b : List UInt8} {A B : Prop} (h : a ≠ b) (k : B) : EQSN a b A B := ⟨fun e => (h e).elim, fun _ => k⟩
/-- A number of a kind. -/
structure ARN (k : IntKind) (r : Int) (K : Int → Prop) : Prop where
  w : K (k.wrap r)
theorem ARN.in {r : Int} {K : Int → Prop} (h : -9223372036854775808 ≤ r ∧ r ≤ 9223372036854775807) (k : K r) : ARN .i64 r K := ⟨by rw [i64_in r h]; exact k⟩
theorem ARN.fits {i : IntKind} {r : Int} {K : Int → Prop} (h : i.wrap r = r) (k : K r) : ARN i r K := ⟨by rw [h]; exact k⟩
structure QUON (k : IntKind) (a b : Int) (K : Int → Prop) : Prop where
  n : b ≠ 0
  w : K (k.wrap (a.tdiv b))
theorem QUON.pos {a b : Int} {K : Int → Prop} (h : 0 ≤ a ∧ a ≤ 9223372036854775807 ∧ 1 ≤ b) (k : K (a / b)) : QUON .i64 a b K := ⟨by omega, by rw [i64_quo a b h]; exact k⟩
structure REMN (a b : Int) (K : Int → Prop) : Prop where
  n : b ≠ 0
  w : K (a.tmod b)
theorem REMN.pos {a b : Int} {K : Int → Prop} (h : 0 ≤ a ∧ b ≠ 0) (k : K (a % b)) : REMN a b K := ⟨h.2, by rw [Int.tmod_eq_emod_of_nonneg h.1]; exact k⟩
inductive GETN (h : Heap) (i : Nat) (K : List CVal → Bool → Option Nat → Prop) : Prop where
  | mk {vs : List CVal} {wr : Bool} {opn : Option Nat} (g : h.get i = some (.cells vs wr opn)) (k : K vs wr opn)
inductive GETM (h : Heap) (i : Nat) (K : List (CVal × CVal) → Bool → Prop) : Prop where
  | mk {es : List (CVal × CVal)} {wr : Bool} (g : h.get i = some (.map es wr)) (k : K es wr)
inductive NEWN (h : Heap) (K : Nat → Prop) : Prop where
  | mk {n : Nat} (e : h.next = n) (k : K n)
inductive SETN (h : Heap) (i o n : Nat) (us : List CVal) (K : Heap → Prop) : Prop where
  | mk {vs : List CVal} {opn : Option Nat} (g : h.get i = some (.cells vs true opn)) (hl : us.length = n) (ho : o + n ≤ vs.length) (k : K (h.set i (.cells (putCells vs o us) true opn)))
inductive SOMEN {α : Type} (x : Option α) (K : α → Prop) : Prop where
  | mk {a : α} (e : x = some a) (k : K a)
inductive CALLN (T : Tab) (f : FuncId) (args : List CVal) (h : Heap) (K : CVal → Heap → Prop) : Prop where
  | mk (k : Cal T f args h K)
inductive LKN (kt : KT) (zero : CVal) (ok : Bool) (x : CVal) (es : List (CVal × CVal)) (K : CVal → Prop) : Prop where
  | mk {r : Option (Nat × CVal)} (e : findK kt x es 0 = some r) (k : K (match r with | some q => if ok then .tuple [q.2, .bool true] else q.2 | none => if ok then .tuple [zero, .bool false] else zero))
inductive UPN (kt : KT) (i : Nat) (x z : CVal) (es : List (CVal × CVal)) (h : Heap) (K : Heap → Prop) : Prop where
  | mk {r : Option (Nat × CVal)} (e : findK kt x es 0 = some r) (k : K (h.set i (.map (match r with | some q => es.set q.1 (x, z) | none => es ++ [(x, z)]) true)))
inductive DOESN (P : Prop) (A : Prop) : Prop where
  | mk (p : P) (a : A)
inductive OPN (N : Nat) (op : COp) (ρ : Env) (h : Heap) (K : CVal → Heap → Prop) : Prop where
  | mk {v : CVal} {h' : Heap} (e : cop op (envL N ρ) h = some (.val v, h')) (k : K v h')
inductive CODEN (T : Tab) (N : Nat) (c : CCode) (ρ : Env) (ds : DS) (h : Heap) (Q : CExit → Env → DS → Heap → Prop) : Prop where
  | mk (k : WP T c ⟨envL N ρ, ds⟩ h fun e a h' => ∃ ρ' ds', a = ⟨envL N ρ', ds'⟩ ∧ Q e ρ' ds' h')

/-! ### What reduces -/
def BC (b : Bool) (A B : Prop) : Prop := match b with
  | true => A
  | false => B
theorem BC.split {b : Bool} {A B : Prop} (k₁ : b = true → A) (k₂ : b = false → B) : BC b A B := by
  cases b
  · exact k₂ rfl
  · exact k₁ rfl

theorem BC.yes {b : Bool} {A B : Prop} (e : b = true) (k : A) : BC b A B := by subst e; exact k
theorem BC.no {b : Bool} {A B : Prop} (e : b = false) (k : B) : BC b A B := by subst e; exact k

/-- The value, as far as its head goes. -/
def vK (v : CVal) (K : CVal → Prop) : Prop := match v with
  | .undef => K .undef
  | .bool b => K (.bool b)
  | .int k n => K (.int k n)
  | .str s => K (.str s)
  | .nilPtr => K .nilPtr
  | .ptr i o => K (.ptr i o)
  | .nilSlice => K .nilSlice
  | .slice i o l c => K (.slice i o l c)
  | .nilMap => K .nilMap
  | .map i => K (.map i)
  | .nilFunc => K .nilFunc
  | .func f p q => K (.func f p q)
  | .yield i => K (.yield i)
  | .nilIface => K .nilIface
  | .iface t v => K (.iface t v)
  | .agg cs => K (.agg cs)
  | .tuple vs => K (.tuple vs)
theorem vK_any {v : CVal} {K : CVal → Prop} (k : K v) : vK v K := by cases v <;> exact k
theorem vK_out {v : CVal} {K : CVal → Prop} (k : vK v K) : K v := by cases v <;> exact k

def AT (vs : List CVal) (o : Nat) (K : CVal → Prop) : Prop := match vs[o]? with
  | some v => vK v K
  | none => False
theorem AT.of {vs : List CVal} {o : Nat} {v : CVal} {K : CVal → Prop} (e : vs[o]? = some v) (k : K v) : AT vs o K := by rw [AT, e]; exact vK_any k
theorem AT.out {vs : List CVal} {o : Nat} {K : CVal → Prop} (k : AT vs o K) : ∃ v, vs[o]? = some v ∧ K v := by
  unfold AT at k
  split at k
  · next v e => exact ⟨v, e, vK_out k⟩
  · exact k.elim

def SM {α : Type} (x : Option α) (K : α → Prop) : Prop := match x with
  | some a => K a
  | none => SOMEN (none : Option α) K
theorem SM.of {α : Type} {x : Option α} {a : α} {K : α → Prop} (e : x = some a) (k : K a) : SM x K := by subst e; exact k
theorem SM.out {α : Type} {x : Option α} {K : α → Prop} (k : SM x K) : ∃ a, x = some a ∧ K a := by
  cases x with
  | some a => exact ⟨a, rfl, k⟩
  | none => obtain ⟨e, _⟩ := k; simp at e

def intK (op : BinOp) (k : IntKind) (a b : Int) (K : CVal → Prop) : Prop := match op with
  | .add => ARN k (a + b) fun r => K (.int k r)
  | .sub => ARN k (a - b) fun r => K (.int k r)
  | .mul => ARN k (a * b) fun r => K (.int k r)
  | .quo => QUON k a b fun r => K (.int k r)
  | .rem => REMN a b fun r => K (.int k r)
  | .eql => EQN a b (K (.bool true)) (K (.bool false))
  | .neq => EQN a b (K (.bool false)) (K (.bool true))
  | .lss => LTN a b (K (.bool true)) (K (.bool false))
  | .leq => LTN b a (K (.bool false)) (K (.bool true))
  | .gtr => LTN b a (K (.bool true)) (K (.bool false))
  | .geq => LTN a b (K (.bool false)) (K (.bool true))
  | op => SOMEN (intBin op k a b) K

theorem intK_out {op : BinOp} {k : IntKind} {a b : Int} {K : CVal → Prop} (q : intK op k a b K) : ∃ r, intBin op k a b = some r ∧ K r := by
  cases op <;> simp only [intK] at q <;> (try (obtain ⟨e, q⟩ := q; exact ⟨_, e, q⟩)) <;> simp only [intBin]
  case add => exact ⟨_, rfl, q.w⟩
  case sub => exact ⟨_, rfl, q.w⟩
  case mul => exact ⟨_, rfl, q.w⟩
  case quo => exact ⟨_, if_neg q.n, q.w⟩
  case rem => exact ⟨_, if_neg q.n, q.w⟩
  case eql => by_cases e : a = b; exact ⟨_, rfl, by rw [beq_iff_eq.2 e]; exact q.t e⟩; exact ⟨_, rfl, by rw [beq_eq_false_iff_ne.2 e]; exact q.f e⟩
  case neq => by_cases e : a = b; exact ⟨_, rfl, by rw [bne, beq_iff_eq.2 e]; exact q.t e⟩; exact ⟨_, rfl, by rw [bne, beq_eq_false_iff_ne.2 e]; exact q.f e⟩
  case lss => by_cases e : a < b; exact ⟨_, rfl, by rw [decide_eq_true e]; exact q.t e⟩; exact ⟨_, rfl, by rw [decide_eq_false e]; exact q.f (by omega)⟩
  case leq => by_cases e : b < a; exact ⟨_, rfl, by rw [decide_eq_false (by omega)]; exact q.t e⟩; exact ⟨_, rfl, by rw [decide_eq_true (by omega)]; exact q.f (by omega)⟩
  case gtr => by_cases e : b < a; exact ⟨_, rfl, by rw [decide_eq_true (show a > b from e)]; exact q.t e⟩; exact ⟨_, rfl, by rw [decide_eq_false (show ¬ a > b from e)]; exact q.f (by omega)⟩
  case geq => by_cases e : a < b; exact ⟨_, rfl, by rw [decide_eq_false (by omega)]; exact q.t e⟩; exact ⟨_, rfl, by rw [decide_eq_true (by omega)]; exact q.f (by omega)⟩

def strK (op : BinOp) (a b : List UInt8) (K : CVal → Prop) : Prop := match op with
  | .eql => EQSN a b (K (.bool true)) (K (.bool false))
  | .neq => EQSN a b (K (.bool false)) (K (.bool true))
  | .add => DOESN (a.length + b.length ≤ 281474976710656) (K (.str (a ++ b)))
  | op => SOMEN (strBin op a b) K
theorem strK_out {op : BinOp} {a b : List UInt8} {K : CVal → Prop} (q : strK op a b K) : ∃ r, strBin op a b = some r ∧ K r := by
  cases op <;> simp only [strK] at q <;> (try (obtain ⟨e, q⟩ := q; exact ⟨_, e, q⟩)) <;> simp only [strBin]
  case add => obtain ⟨p, q⟩ := q; exact ⟨_, if_pos p, q⟩
  case eql => by_cases e : a = b; exact ⟨_, rfl, by rw [beq_iff_eq.2 e]; exact q.t e⟩; exact ⟨_, rfl, by rw [beq_eq_false_iff_ne.2 e]; exact q.f e⟩
  case neq => by_cases e : a = b; exact ⟨_, rfl, by rw [beq_iff_eq.2 e]; exact q.t e⟩; exact ⟨_, rfl, by rw [beq_eq_false_iff_ne.2 e]; exact q.f e⟩

def kindEq (k k' : IntKind) (A B : Prop) : Prop := match k, k' with
  | .i64, .i64 => A
  | .u8, .u8 => A
  | .i32, .i32 => A
  | k, k' => if k = k' then A else B
theorem kindEq_out {k k' : IntKind} {A B : Prop} (q : kindEq k k' A B) : (k = k' ∧ A) ∨ (k ≠ k' ∧ B) := by
  unfold kindEq at q
  split at q
  · exact .inl ⟨rfl, q⟩
  · exact .inl ⟨rfl, q⟩
  · exact .inl ⟨rfl, q⟩
  · split at q
    · next h => exact .inl ⟨h, q⟩
    · next h => exact .inr ⟨h, q⟩

def binK (op : BinOp) (u v : CVal) (K : CVal → Prop) : Prop := match u with
  | .int k a => match v with
    | .int k' b => (match op with
      | .shl => SOMEN (shiftBin .shl k a b) K
      | .shr => SOMEN (shiftBin .shr k a b) K
      | op => kindEq k k' (intK op k a b K) False)
    | _ => False
  | .str a => match v with
    | .str b => strK op a b K
    | _ => False
  | _ => False
theorem binK_out {op : BinOp} {u v : CVal} {K : CVal → Prop} (q : binK op u v K) : ∃ r, binC op u v = some r ∧ K r := by
  unfold binK at q
  split at q
  · split at q
    · next k a k' b =>
      split at q
      · obtain ⟨e, q⟩ := q; exact ⟨_, e, q⟩
      · obtain ⟨e, q⟩ := q; exact ⟨_, e, q⟩
      · next h1 h2 =>
        rcases kindEq_out q with ⟨hk, q⟩ | ⟨_, q⟩
        · obtain ⟨r, e, q⟩ := intK_out q
          refine ⟨r, ?_, q⟩
          cases op <;> first
            | exact (h1 rfl).elim
            | exact (h2 rfl).elim
            | (simp only [binC]; rw [if_pos hk]; exact e)
        · exact q.elim
    · exact q.elim
  · split at q
    · obtain ⟨r, e, q⟩ := strK_out q; exact ⟨r, e, q⟩
    · exact q.elim
  · exact q.elim

def eqK (tk : TK) (neg : Bool) (u v : CVal) (K : CVal → Prop) : Prop := match tk with
  | .bool => (match u with
    | .bool a => (match v with
      | .bool b => BC a (BC b (K (.bool (!neg))) (K (.bool neg))) (BC b (K (.bool neg)) (K (.bool (!neg))))
      | _ => False)
    | _ => False)
  | tk => SM (keq tk u v) fun b => BC b (K (.bool (!neg))) (K (.bool neg))
theorem eqK_out {tk : TK} {neg : Bool} {u v : CVal} {K : CVal → Prop} (q : eqK tk neg u v K) : ∃ b, keq tk u v = some b ∧ K (.bool (if neg then !b else b)) := by
  have fin : ∀ {b : Bool}, BC b (K (.bool (!neg))) (K (.bool neg)) → K (.bool (if neg then !b else b)) := by
    intro b h
    cases b <;> cases neg <;> exact h
  unfold eqK at q
  split at q
  · split at q
    · split at q
      · next a _ b =>
        refine ⟨_, rfl, ?_⟩
        cases a <;> cases b <;> cases neg <;> exact q
      · exact q.elim
    · exact q.elim
  · obtain ⟨b, e, q⟩ := SM.out q
    exact ⟨b, e, fin q⟩

def unK (op : UnOp) (u : CVal) (K : CVal → Prop) : Prop := match u with
  | .bool b => (match op with
    | .not => BC b (K (.bool false)) (K (.bool true))
    | _ => False)
  | .int k n => (match op with
    | .neg => ARN k (0 - n) fun r => K (.int k r)
    | op => SOMEN (unC op (.int k n)) K)
  | _ => False
theorem unK_out {op : UnOp} {u : CVal} {K : CVal → Prop} (q : unK op u K) : ∃ r, unC op u = some r ∧ K r := by
  unfold unK at q
  split at q
  · split at q
    · next b _ => exact ⟨.bool (!b), rfl, by cases b <;> exact q⟩
    · exact q.elim
  · split at q
    · exact ⟨_, rfl, q.w⟩
    · obtain ⟨e, q⟩ := q; exact ⟨_, e, q⟩
  · exact q.elim

/-- The values' cells. -/
def mapOn (N : Nat) (ρ : Env) : List CX → List CVal
  | [] => []
  | x :: xs => x.on N ρ :: mapOn N ρ xs
theorem mapOn_eq (N : Nat) (ρ : Env) : ∀ xs : List CX, xs.map (·.ev (envL N ρ)) = mapOn N ρ xs
  | [] => rfl
  | x :: xs => by rw [List.map_cons, mapOn, mapOn_eq N ρ xs, CX.on_ev]

noncomputable def argsK (vs : List CVal) : (List CVal → Prop) → Prop :=
  List.rec (motive := fun _ => (List CVal → Prop) → Prop) (fun K => K []) (fun v _ ih K => vK v fun u => ih fun us => K (u :: us)) vs
theorem argsK_out : ∀ {vs : List CVal} {K : List CVal → Prop}, argsK vs K → K vs
  | [], _, q => q
  | v :: vs, K, q => by
    have q := vK_out (show vK v fun u => argsK vs fun us => K (u :: us) from q)
    exact argsK_out (K := fun us => K (v :: us)) q
theorem argsK_any : ∀ {vs : List CVal} {K : List CVal → Prop}, K vs → argsK vs K
  | [], _, q => q
  | v :: vs, K, q => by
    show vK v fun u => argsK vs fun us => K (u :: us)
    exact vK_any (argsK_any (K := fun us => K (v :: us)) q)
theorem at_map {α : Type} {f : α → CVal} {l : List α} {i : Nat} (hi : i < l.length) : (l.map f)[0 + (i : Int).toNat * 1]? = some (f l[i]) := by simp [hi]

theorem put_map {α : Type} {f : α → CVal} {l : List α} {i : Nat} {x : α} : putCells (l.map f) (0 + (i : Int).toNat * 1) [f x] = (l.set i x).map f := by simp [putCells, List.map_set]

/-- One operation: its value, the heap. -/
noncomputable def opK (T : Tab) (N : Nat) (op : COp) (ρ : Env) (h : Heap) (K : CVal → Heap → Prop) : Prop := match op with
  | .move x => vK (x.on N ρ) fun v => K v h
  | .pick c x y => (match c.on N ρ with
    | .bool b => BC b (vK (x.on N ρ) fun v => K v h) (vK (y.on N ρ) fun v => K v h)
    | _ => False)
  | .bin op x y => binK op (x.on N ρ) (y.on N ρ) fun v => K v h
  | .eq tk neg x y => eqK tk neg (x.on N ρ) (y.on N ρ) fun v => K v h
  | .un op x => unK op (x.on N ρ) fun v => K v h
  | .conv k x => (match x.on N ρ with
    | .int _ n => ARN k n fun r => K (.int k r) h
    | _ => False)
  | .new zero => NEWN h fun n => K (.ptr n 0) (h.new (.cells zero true none))
  | .newMap => NEWN h fun n => K (.map n) (h.new (.map [] true))
  | .box x => SM (x.on N ρ).cellsOf fun us => argsK us fun us => NEWN h fun n => K (.ptr n 0) (h.new (.cells us true none))
  | .build zero parts => SM (fillC zero (parts.map fun p => (p.1, p.2.1, p.2.2.on N ρ))) fun cs => argsK cs fun cs => K (.agg cs) h
  | .buildSlice zero len parts => SM (fillC (repC len zero) (parts.map fun p => (p.1, p.2.1, p.2.2.on N ρ))) fun cs => argsK cs fun cs => DOESN (cs.all CVal.one = true) (NEWN h fun n => K (.slice n 0 len len) (h.new (.cells cs true none)))
  | .load false _ x => (match x.on N ρ with
    | .ptr i o => GETN h i fun vs _ _ => AT vs o fun v => K v h
    | _ => False)
  | .load true n x => (match x.on N ρ with
    | .ptr i o => GETN h i fun vs _ _ => DOESN (((vs.drop o).take n).length = n) (K (.agg ((vs.drop o).take n)) h)
    | _ => False)
  | .store n p x => (match p.on N ρ with
    | .ptr i o => SM (x.on N ρ).cellsOf fun us => argsK us fun us => SETN h i o n us fun h' => K .un h'
    | _ => False)
  | .nilCheck x => (match x.on N ρ with
    | .ptr i o => K (.ptr i o) h
    | _ => False)
  | .func f first cap => argsK (mapOn N ρ first) fun p => argsK (mapOn N ρ cap) fun q => K (.func f p q) h
  | .fieldAddr off x => (match x.on N ρ with
    | .ptr i o => K (.ptr i (o + off)) h
    | _ => False)
  | .part agg off n x => (match x.on N ρ with
    | .agg cs => SM (partC agg off n cs) fun v => vK v fun v => K v h
    | _ => False)
  | .indexAddr sz x y => (match x.on N ρ with
    | .slice b o l _ => (match y.on N ρ with
      | .int _ i => DOESN (0 ≤ i ∧ i < l) (K (.ptr b (o + i.toNat * sz)) h)
      | _ => False)
    | _ => False)
  | .indexAddrArr len sz x y => (match x.on N ρ with
    | .ptr b o => (match y.on N ρ with
      | .int _ i => DOESN (0 ≤ i ∧ i < len) (K (.ptr b (o + i.toNat * sz)) h)
      | _ => False)
    | _ => False)
  | .indexStr x y => (match x.on N ρ with
    | .str s => (match y.on N ρ with
      | .int _ i => DOESN (0 ≤ i) (SOMEN s[i.toNat]? fun b => K (.int .u8 b.toNat) h)
      | _ => False)
    | _ => False)
  | .len .slice x => (match x.on N ρ with
    | .slice _ _ l _ => K (.int .i64 l) h
    | .nilSlice => K (.int .i64 0) h
    | _ => False)
  | .len .str x => (match x.on N ρ with
    | .str s => K (.int .i64 s.length) h
    | _ => False)
  | .len .map x => (match x.on N ρ with
    | .map i => GETM h i fun es _ => K (.int .i64 es.length) h
    | .nilMap => K (.int .i64 0) h
    | _ => False)
  | .extract x i => (match x.on N ρ with
    | .tuple vs => AT vs i fun v => K v h
    | _ => False)
  | .makeSlice zero bytes l c => (match l.on N ρ with
    | .int _ a => (match c.on N ρ with
      | .int _ b => DOESN (0 ≤ a ∧ a ≤ b ∧ b * bytes ≤ 1099511627776 ∧ b ≤ 1099511627776) (NEWN h fun n => K (.slice n 0 a.toNat b.toNat) (h.new (.cells (repC b.toNat zero) true none)))
      | _ => False)
    | _ => False)
  | .append sz bytes s x => SOMEN (appendC h sz bytes (s.on N ρ) (x.on N ρ)) fun r => K r.1 r.2
  | .maxmin isMax x [y] => (match x.on N ρ with
    | .int k a => (match y.on N ρ with
      | .int k' b => kindEq k k' (K (.int k (if isMax then max a b else min a b)) h) False
      | _ => False)
    | _ => False)
  | .iface t x => K (.iface t (x.on N ρ)) h
  | .slice sz x lo hi none => (match x.on N ρ with
    | .slice i o len cap => SOMEN (boundsC len cap (lo.map (CX.on N ρ)) (hi.map (CX.on N ρ)) none) fun r => K (.slice i (o + r.1 * sz) (r.2.1 - r.1) (r.2.2 - r.1)) h
    | .nilSlice => SOMEN (boundsC 0 0 (lo.map (CX.on N ρ)) (hi.map (CX.on N ρ)) none) fun _ => K .nilSlice h
    | _ => False)
  | .sliceStr x lo hi => (match x.on N ρ with
    | .str s => SOMEN (boundsC s.length s.length (lo.map (CX.on N ρ)) (hi.map (CX.on N ρ)) none) fun r => K (.str ((s.drop r.1).take (r.2.1 - r.1))) h
    | _ => False)
  | .lookup kt zero ok m x => DOESN (keyok kt (x.on N ρ) = true) (SOMEN (mapC h (m.on N ρ)) fun es => vK (x.on N ρ) fun u => LKN kt zero ok u es fun v => K v h)
  | .mapUpdate kt m x y => (match m.on N ρ with
    | .map i => DOESN (keyok kt (x.on N ρ) = true) (GETM h i fun es wr => DOESN (wr = true) (vK (x.on N ρ) fun u => vK (y.on N ρ) fun z => UPN kt i u z es h fun h' => K .un h'))
    | _ => False)
  | .call f args => (match f.on N ρ with
    | .func g first cap => argsK (first ++ mapOn N ρ args ++ cap) fun as => CALLN T g as h K
    | _ => False)
  | op => OPN N op ρ h K

theorem opK_out {T : Tab} {N : Nat} {op : COp} {ρ : Env} {h : Heap} {K : CVal → Heap → Prop} (q : opK T N op ρ h K) :
    (∃ v h', cop op (envL N ρ) h = some (.val v, h') ∧ K v h') ∨ (∃ g as, cop op (envL N ρ) h = some (.enter g as, h) ∧ Cal T g as h K) := by
  unfold opK at q
  split at q
  case h_1 x => exact .inl ⟨_, _, by simp only [cop, CX.on_ev], vK_out q⟩
  case h_2 c x y =>
    split at q
    · next b hb =>
      cases b
      · have q : vK (y.on N ρ) fun v => K v h := q
        exact .inl ⟨_, _, by simp only [cop, CX.on_ev, hb]; rfl, vK_out q⟩
      · have q : vK (x.on N ρ) fun v => K v h := q
        exact .inl ⟨_, _, by simp only [cop, CX.on_ev, hb]; rfl, vK_out q⟩
    · exact q.elim
  case h_3 op x y => obtain ⟨r, e, q⟩ := binK_out q; exact .inl ⟨_, _, by simp only [cop, CX.on_ev, e], q⟩
  case h_4 tk neg x y => obtain ⟨r, e, q⟩ := eqK_out q; exact .inl ⟨_, _, by simp only [cop, CX.on_ev, e], q⟩
  case h_5 op x => obtain ⟨r, e, q⟩ := unK_out q; exact .inl ⟨_, _, by simp only [cop, CX.on_ev, e], q⟩
  case h_6 k x =>
    split at q
    · next k' n hx => exact .inl ⟨_, _, by simp only [cop, CX.on_ev, hx], q.w⟩
    · exact q.elim
  case h_7 zero => obtain ⟨e, q⟩ := q; subst e; exact .inl ⟨_, _, by simp only [cop], q⟩
  case h_8 => obtain ⟨e, q⟩ := q; subst e; exact .inl ⟨_, _, by simp only [cop], q⟩
  case h_9 x =>
    obtain ⟨us, e, q⟩ := SM.out q
    obtain ⟨e', q⟩ := argsK_out q; subst e'
    exact .inl ⟨_, _, by simp only [cop, CX.on_ev, e], q⟩
  case h_10 zero parts =>
    obtain ⟨us, e, q⟩ := SM.out q
    exact .inl ⟨_, _, by simp only [cop, CX.on_ev, e], argsK_out q⟩
  case h_11 zero len parts =>
    obtain ⟨us, e, q⟩ := SM.out q
    obtain ⟨p, e', q⟩ := argsK_out q; subst e'
    exact .inl ⟨_, _, by simp only [cop, CX.on_ev, e]; rw [if_pos p], q⟩
  case h_12 n x =>
    split at q
    · next i o hx =>
      obtain ⟨g, q⟩ := q
      obtain ⟨v, e, q⟩ := AT.out q
      exact .inl ⟨_, _, by simp only [cop, CX.on_ev, hx, g, e, Bool.false_eq_true, if_false], q⟩
    · exact q.elim
  case h_13 n x =>
    split at q
    · next i o hx =>
      obtain ⟨g, p, q⟩ := q
      exact .inl ⟨_, _, by simp only [cop, CX.on_ev, hx, g, p, if_true], q⟩
    · exact q.elim
  case h_14 n p x =>
    split at q
    · next i o hx =>
      obtain ⟨us, e, q⟩ := SM.out q
      obtain ⟨g, hl, ho, q⟩ := argsK_out q
      exact .inl ⟨_, _, by simp only [cop, CX.on_ev, hx, e, g]; rw [if_pos ⟨hl, ho⟩], q⟩
    · exact q.elim
  case h_15 x =>
    split at q
    · next i o hx => exact .inl ⟨_, _, by simp only [cop, CX.on_ev, hx], q⟩
    · exact q.elim
  case h_16 f first cap => exact .inl ⟨_, _, by simp only [cop, mapOn_eq], argsK_out (argsK_out q)⟩
  case h_17 off x =>
    split at q
    · next i o hx => exact .inl ⟨_, _, by simp only [cop, CX.on_ev, hx], q⟩
    · exact q.elim
  case h_18 agg off n x =>
    split at q
    · next cs hx =>
      obtain ⟨v, e, q⟩ := SM.out q
      exact .inl ⟨_, _, by simp only [cop, CX.on_ev, hx, e], vK_out q⟩
    · exact q.elim
  case h_19 sz x y =>
    split at q
    · next b o l c hx =>
      split at q
      · next k i hy =>
        obtain ⟨p, q⟩ := q
        exact .inl ⟨_, _, by simp only [cop, CX.on_ev, hx, hy, asNat]; rw [if_pos p.1]; simp only []; rw [if_pos (by omega)], q⟩
      · exact q.elim
    · exact q.elim
  case h_20 len sz x y =>
    split at q
    · next b o hx =>
      split at q
      · next k i hy =>
        obtain ⟨p, q⟩ := q
        exact .inl ⟨_, _, by simp only [cop, CX.on_ev, hx, hy, asNat]; rw [if_pos p.1]; simp only []; rw [if_pos (by omega)], q⟩
      · exact q.elim
    · exact q.elim
  case h_21 x y =>
    split at q
    · next s hx =>
      split at q
      · next k i hy =>
        obtain ⟨p, e, q⟩ := q
        exact .inl ⟨_, _, by simp only [cop, CX.on_ev, hx, hy, asNat]; rw [if_pos p]; simp only [e], q⟩
      · exact q.elim
    · exact q.elim
  case h_22 x =>
    split at q
    · next hx => exact .inl ⟨_, _, by simp only [cop, CX.on_ev, hx], q⟩
    · next hx => exact .inl ⟨_, _, by simp only [cop, CX.on_ev, hx], q⟩
    · exact q.elim
  case h_23 x =>
    split at q
    · next hx => exact .inl ⟨_, _, by simp only [cop, CX.on_ev, hx], q⟩
    · exact q.elim
  case h_24 x =>
    split at q
    · next hx => obtain ⟨g, q⟩ := q; exact .inl ⟨_, _, by simp only [cop, CX.on_ev, hx, g], q⟩
    · next hx => exact .inl ⟨_, _, by simp only [cop, CX.on_ev, hx], q⟩
    · exact q.elim
  case h_25 x i =>
    split at q
    · next vs hx =>
      obtain ⟨v, e, q⟩ := AT.out q
      exact .inl ⟨_, _, by simp only [cop, CX.on_ev, hx, e], q⟩
    · exact q.elim
  case h_26 zero bytes l c =>
    split at q
    · next k a hl =>
      split at q
      · next k' b hc =>
        obtain ⟨p, e, q⟩ := q
        subst e
        refine .inl ⟨_, _, ?_, q⟩
        have h1 : 0 ≤ b := by omega
        have h2 : b.toNat * bytes ≤ 1099511627776 := by
          have e2 : ((b.toNat * bytes : Nat) : Int) ≤ ((1099511627776 : Nat) : Int) := by
            rw [Int.natCast_mul, Int.toNat_of_nonneg h1]; exact p.2.2.1
          exact Int.ofNat_le.mp e2
        simp only [cop, CX.on_ev, hl, hc, asNat]
        rw [if_pos p.1, if_pos h1]
        simp only
        rw [if_pos ⟨by omega, h2, by omega⟩]
      · exact q.elim
    · exact q.elim
  case h_27 sz bytes s x =>
    obtain ⟨e, q⟩ := q
    exact .inl ⟨_, _, by simp only [cop, CX.on_ev, e], q⟩
  case h_28 isMax x y =>
    split at q
    · next k a hx =>
      split at q
      · next k' b hy =>
        rcases kindEq_out q with ⟨hk, q'⟩ | ⟨_, q'⟩
        · subst hk
          have e : foldC isMax (.int k a) [.int k b] = some (.int k (if isMax then max a b else min a b)) := by
            simp only [foldC, maxC, if_true]
            congr 2
            cases isMax <;> simp <;> split <;> omega
          exact .inl ⟨_, _, by simp only [cop, CX.on_ev, List.map, hx, hy, e], q'⟩
        · exact q'.elim
      · exact q.elim
    · exact q.elim
  case h_29 t x => exact .inl ⟨_, _, by simp only [cop, CX.on_ev], q⟩
  case h_30 sz x lo hi =>
    split at q
    · next hx =>
      obtain ⟨e, q⟩ := q
      exact .inl ⟨_, _, by simp only [cop, CX.on_ev, hx]; simp only [Option.isSome, Bool.false_eq_true, false_and, if_false, Option.map_none, e], q⟩
    · next hx =>
      obtain ⟨e, q⟩ := q
      exact .inl ⟨_, _, by simp only [cop, CX.on_ev, hx, Option.map_none, e], q⟩
    · exact q.elim
  case h_31 x lo hi =>
    split at q
    · next s hx =>
      obtain ⟨e, q⟩ := q
      exact .inl ⟨_, _, by simp only [cop, CX.on_ev, hx, e], q⟩
    · exact q.elim
  case h_32 kt zero ok m x =>
    obtain ⟨p, @⟨es, e1, q⟩⟩ := q
    obtain @⟨r, e2, q⟩ := vK_out q
    refine .inl ⟨_, _, ?_, q⟩
    simp only [cop, CX.on_ev, p, e1, e2]
    cases r <;> simp
  case h_33 kt m x y =>
    split at q
    · next i hm =>
      obtain ⟨p, @⟨es, wr, g, rfl, q⟩⟩ := q
      obtain @⟨r, e, q⟩ := vK_out (vK_out q)
      refine .inl ⟨_, _, ?_, q⟩
      simp only [cop, CX.on_ev, hm, p, g, e]
      cases r <;> simp
    · exact q.elim
  case h_34 f args =>
    split at q
    · next g first cap hf =>
      obtain ⟨q⟩ := argsK_out q
      exact .inr ⟨_, _, by simp only [cop, mapOn_eq]; simp only [CX.on_ev, hf], q⟩
    · exact q.elim
  case h_35 =>
    obtain ⟨e, q⟩ := q
    exact .inl ⟨_, _, e, q⟩

/-- One operation of a region; then the others. -/
def wO1 (T : Tab) (N : Nat) (o : COper) (ih : Env → DS → Heap → (Env → DS → Heap → Prop) → Prop) (ρ : Env) (ds : DS) (h : Heap) (K : Env → DS → Heap → Prop) : Prop := match o.guard with
    | none => (match o.op with
      | .defer f args => (match f.on N ρ with
        | .func g first cap => ih (ρ.putO o.dst .un) ((g, first ++ mapOn N ρ args ++ cap) :: ds) h K
        | _ => False)
      | op => opK T N op ρ h fun v h' => ih (ρ.putO o.dst v) ds h' K)
    | some g => (match (CX.t g.1).on N ρ with
      | .bool b => BC b
          (match g.2 with
            | true => opK T N o.op ρ h fun v h' => ih (ρ.putO o.dst v) ds h' K
            | false => ih (ρ.putO o.dst .un) ds h K)
          (match g.2 with
            | true => ih (ρ.putO o.dst .un) ds h K
            | false => opK T N o.op ρ h fun v h' => ih (ρ.putO o.dst v) ds h' K)
      | .tuple [] => ih (ρ.putO o.dst .un) ds h K
      | _ => False)

/-- The operations of a region. -/
noncomputable def wO (T : Tab) (N : Nat) (os : List COper) : Env → DS → Heap → (Env → DS → Heap → Prop) → Prop :=
  List.rec (motive := fun _ => Env → DS → Heap → (Env → DS → Heap → Prop) → Prop) (fun ρ ds h K => K ρ ds h) (fun o _ ih => wO1 T N o ih) os
theorem wO_nil {T : Tab} {N : Nat} {ρ : Env} {ds : DS} {h : Heap} {K : Env → DS → Heap → Prop} : wO T N [] ρ ds h K = K ρ ds h := rfl
theorem wO_cons {T : Tab} {N : Nat} {o : COper} {os : List COper} {ρ : Env} {ds : DS} {h : Heap} {K : Env → DS → Heap → Prop} : wO T N (o :: os) ρ ds h K = wO1 T N o (wO T N os) ρ ds h K := rfl

theorem op_step {T : Tab} {N : Nat} {d : Option Nat} {op : COp} {g : Option (Nat × Bool)} {os : List COper} {ρ : Env} {ds : DS} {h : Heap} {K : Fr → Heap → Prop} (hg : wantC (envL N ρ) g = some true)
    (q : opK T N op ρ h fun v h' => WPO T os ⟨envL N (ρ.putO d v), ds⟩ h' K) : WPO T (⟨d, op, g⟩ :: os) ⟨envL N ρ, ds⟩ h K := by
  rcases opK_out q with ⟨v, h', e, q⟩ | ⟨f, as, e, q⟩
  · refine WPO.op (v := v) (ds := []) (h' := h') (by simp only [evOp1, hg, e]) ?_
    rw [done_env]; exact q
  · refine WPO.call hg e (q.mono fun v h' q => ?_)
    rw [done_env]; exact q

theorem wO_ok {T : Tab} {N : Nat} {K : Env → DS → Heap → Prop} : ∀ {os : List COper} {ρ : Env} {ds : DS} {h : Heap}, wO T N os ρ ds h K → WPO T os ⟨envL N ρ, ds⟩ h fun a h' => ∃ ρ' ds', a = ⟨envL N ρ', ds'⟩ ∧ K ρ' ds' h'
  | [], ρ, ds, h, q => WPO.nil ⟨ρ, ds, rfl, q⟩
  | ⟨d, op, g⟩ :: os, ρ, ds, h, q => by
    have run : ∀ {g : Option (Nat × Bool)}, wantC (envL N ρ) g = some true → opK T N op ρ h (fun v h' => wO T N os (ρ.putO d v) ds h' K) → WPO T (⟨d, op, g⟩ :: os) ⟨envL N ρ, ds⟩ h fun a h' => ∃ ρ' ds', a = ⟨envL N ρ', ds'⟩ ∧ K ρ' ds' h' := by
      intro g hg q
      rcases opK_out q with ⟨v, h', e, q⟩ | ⟨f, as, e, q⟩
      · refine WPO.op (v := v) (ds := []) (h' := h') (by simp only [evOp1, hg, e]) ?_
        rw [done_env]; exact wO_ok q
      · refine WPO.call hg e (q.mono fun v h' q => ?_)
        rw [done_env]; exact wO_ok q
    have past : ∀ {t : Nat} {w b : Bool}, (envL N ρ).getD t .undef = .bool b → (b == w) = false → wO T N os (ρ.putO d .un) ds h K → WPO T (⟨d, op, some (t, w)⟩ :: os) ⟨envL N ρ, ds⟩ h fun a h' => ∃ ρ' ds', a = ⟨envL N ρ', ds'⟩ ∧ K ρ' ds' h' := by
      intro t w b hv hb q
      refine WPO.op (v := .un) (ds := []) (h' := h) (by simp only [evOp1, wantC, hv, hb]) ?_
      rw [done_env]; exact wO_ok q
    simp only [wO_cons, wO1] at q
    split at q
    · split at q
      · next f args =>
        split at q
        · next g' first cap hf =>
          refine WPO.op (v := .un) (ds := [(g', first ++ mapOn N ρ args ++ cap)]) (h' := h) (by simp only [evOp1, wantC, cop, mapOn_eq]; simp only [CX.on_ev, hf]) ?_
          rw [done_env]; exact wO_ok q
        · exact q.elim
      · exact run rfl q
    · next g' =>
      obtain ⟨t, w⟩ := g'
      split at q
      · next b hb =>
        have hv : (envL N ρ).getD t .undef = .bool b := (CX.on_ev N ρ (.t t)).trans hb
        cases b <;> cases w
        · exact run (by simp only [wantC, hv, beq_self_eq_true]) q
        · exact past hv rfl q
        · exact past hv rfl q
        · exact run (by simp only [wantC, hv, beq_self_eq_true]) q
      · next hb =>
        have hv : (envL N ρ).getD t .undef = .tuple [] := (CX.on_ev N ρ (.t t)).trans hb
        refine WPO.op (v := .un) (ds := []) (h' := h) (by simp only [evOp1, wantC, hv]) ?_
        rw [done_env]; exact wO_ok q
      · exact q.elim

abbrev QT := CExit → Env → DS → Heap → Prop

def condK (v : CVal) (A B : Prop) : Prop := match v with
  | .bool b => BC b A B
  | _ => False
def seqQ (k : Env → DS → Heap → QT → Prop) (Q : QT) : QT := fun e ρ ds h => match e with
  | .normal => k ρ ds h Q
  | .exit id => Q (.exit id) ρ ds h
  | .ret => Q .ret ρ ds h
  | .goto l => Q (.goto l) ρ ds h
def blkQ (id : Nat) (Q : QT) : QT := fun e ρ ds h => match e with
  | .normal => Q .normal ρ ds h
  | .exit id' => (match Nat.beq id' id with
    | true => Q .normal ρ ds h
    | false => Q (.exit id') ρ ds h)
  | .ret => Q .ret ρ ds h
  | .goto l => Q (.goto l) ρ ds h

/-- A text. -/
noncomputable def wC (T : Tab) (N : Nat) (c : CCode) : Env → DS → Heap → QT → Prop :=
  CCode.rec (motive_1 := fun _ => Env → DS → Heap → QT → Prop) (motive_2 := fun _ => PUnit) (motive_3 := fun _ => PUnit)
    (fun ρ ds h Q => Q .normal ρ ds h)
    (fun os ρ ds h Q => wO T N os ρ ds h (Q .normal))
    (fun its n ρ ds h Q => CODEN T N (.draw its n) ρ ds h Q)
    (fun _ _ kx ky ρ ds h Q => kx ρ ds h (seqQ ky Q))
    (fun c _ _ kx ky ρ ds h Q => condK (c.on N ρ) (kx ρ ds h Q) (ky ρ ds h Q))
    (fun id _ k ρ ds h Q => k ρ ds h (blkQ id Q))
    (fun x _ ρ ds h Q => CODEN T N (.loop x) ρ ds h Q)
    (fun id ρ ds h Q => Q (.exit id) ρ ds h)
    (fun ρ ds h Q => Q .ret ρ ds h)
    (fun ts ρ ds h Q => Q .normal (ρ.wipe ts) ds h)
    (fun l ρ ds h Q => Q (.goto l) ρ ds h)
    (fun b rs _ _ ρ ds h Q => CODEN T N (.scope b rs) ρ ds h Q)
    ⟨⟩ (fun _ _ _ _ => ⟨⟩) (fun _ _ _ => ⟨⟩) c

def frQ (N : Nat) (Q : QT) : CExit → Fr → Heap → Prop := fun e a h' => ∃ ρ' ds', a = ⟨envL N ρ', ds'⟩ ∧ Q e ρ' ds' h'

theorem wC_ok {T : Tab} {N : Nat} : ∀ (c : CCode) {ρ : Env} {ds : DS} {h : Heap} {Q : QT}, wC T N c ρ ds h Q → WP T c ⟨envL N ρ, ds⟩ h (frQ N Q)
  | .skip, ρ, ds, _, _, q => WP.skip ⟨ρ, ds, rfl, q⟩
  | .exit _, ρ, ds, _, _, q => WP.exit ⟨ρ, ds, rfl, q⟩
  | .ret, ρ, ds, _, _, q => WP.ret ⟨ρ, ds, rfl, q⟩
  | .goto _, ρ, ds, _, _, q => WP.goto ⟨ρ, ds, rfl, q⟩
  | .wipe ts, ρ, ds, _, _, q => WP.wipe ⟨ρ.wipe ts, ds, wipe_env ts ρ, q⟩
  | .region os, ρ, ds, h, Q, q => WP.region (wO_ok q)
  | .seq x y, ρ, ds, h, Q, q => by
    refine WP.seq ((wC_ok x (Q := seqQ (wC T N y) Q) q).mono ?_)
    rintro e a' h' ⟨ρ', ds', rfl, q⟩
    cases e with
    | normal => exact wC_ok y q
    | _ => exact ⟨ρ', ds', rfl, q⟩
  | .cond c x y, ρ, ds, h, Q, q => by
    have q : condK (c.on N ρ) (wC T N x ρ ds h Q) (wC T N y ρ ds h Q) := q
    unfold condK at q
    split at q
    · next b hb =>
      cases b with
      | true => exact condT hb (wC_ok x q)
      | false => exact condF hb (wC_ok y q)
    · exact q.elim
  | .block id x, ρ, ds, h, Q, q => by
    refine WP.block ((wC_ok x (Q := blkQ id Q) q).mono ?_)
    rintro e a' h' ⟨ρ', ds', rfl, q⟩
    cases e with
    | exit id' =>
      simp only [blkQ] at q
      split at q
      · next e => exact blockQ_xT e ⟨ρ', ds', rfl, q⟩
      · next e => exact blockQ_xF e ⟨ρ', ds', rfl, q⟩
    | _ => exact ⟨ρ', ds', rfl, q⟩
  | .loop _, _, _, _, _, q => let ⟨k⟩ := q; k
  | .draw _ _, _, _, _, _, q => let ⟨k⟩ := q; k
  | .scope _ _, _, _, _, _, q => let ⟨k⟩ := q; k

/-! ### Results, functions -/
def resE (N : Nat) (ρ : Env) (h : Heap) : List CRV → (List CVal → Prop) → Prop
  | [], K => K []
  | .tmp t :: rs, K => vK ((CX.t t).on N ρ) fun v => resE N ρ h rs fun vs => K (v :: vs)
  | .cell t agg n :: rs, K => match (CX.t t).on N ρ with
    | .ptr i o => GETN h i fun us _ _ => (match agg with
      | false => AT us o fun v => resE N ρ h rs fun vs => K (v :: vs)
      | true => DOESN (((us.drop o).take n).length = n) (resE N ρ h rs fun vs => K (.agg ((us.drop o).take n) :: vs)))
    | _ => False
theorem resE_ok {N : Nat} {ρ : Env} {h : Heap} : ∀ {rs : List CRV} {K : List CVal → Prop}, resE N ρ h rs K → ∃ vs, resultsC (envL N ρ) h rs = some vs ∧ K vs
  | [], _, q => ⟨[], rfl, q⟩
  | .tmp t :: rs, K, q => by
    obtain ⟨vs, e, q⟩ := resE_ok (vK_out q)
    have e' : (envL N ρ).getD t .undef = _ := (CX.on_ev N ρ (.t t))
    exact ⟨_, by simp only [resultsC, resC, e, e'], q⟩
  | .cell t agg n :: rs, K, q => by
    simp only [resE] at q
    split at q
    · next i o hx =>
      obtain ⟨g, q⟩ := q
      cases agg with
      | false =>
        obtain ⟨v, ev, q⟩ := AT.out q
        obtain ⟨vs, e, q⟩ := resE_ok q
        exact ⟨_, by simp only [resultsC, resC, cop, CX.on_ev, hx, g, ev, e, Bool.false_eq_true, if_false], q⟩
      | true =>
        obtain ⟨p, q⟩ := q
        obtain ⟨vs, e, q⟩ := resE_ok q
        exact ⟨_, by simp only [resultsC, resC, cop, CX.on_ev, hx, g, p, e, if_true], q⟩
    · exact q.elim

/-- The deferred calls; then the end. -/
def defK (T : Tab) : DS → Heap → (Heap → Prop) → Prop
  | [], h, K => K h
  | d :: ds, h, K => SOMEN (some d) fun _ => ∃ n, ∃ h', runDefers (callF T n) (d :: ds) h = some h' ∧ K h'

/-- The end of a function that defers nothing. -/
def endE (N : Nat) (rs : List CRV) (Q : CVal → Heap → Prop) : QT := fun e ρ ds h => match ds with
  | [] => (match e with
    | .normal => resE N ρ h rs fun vs => Q (packC vs) h
    | .ret => resE N ρ h rs fun vs => Q (packC vs) h
    | _ => False)
  | _ :: _ => False

theorem Cal.run {T : Tab} {f : FuncId} {fn : CFunc} {N : Nat} {rs : List CRV} {c : CCode} {args : List CVal} {h : Heap} {Q : CVal → Heap → Prop} (hp : T.prim f = none) (hf : T.code f = some fn) (hn : fn = ⟨N, rs, c⟩) (hl : Nat.ble args.length N = true)
    (k : wC T N c (argsE args) [] h (endE N rs Q)) : Cal T f args h Q := by
  subst hn
  refine Cal.code hp hf ?_
  rw [frame_env _ args (Nat.le_of_ble_eq_true hl)]
  refine (wC_ok c k).mono ?_
  rintro x a' h' ⟨ρ, ds, rfl, q⟩
  cases ds with
  | cons d ds => exact q.elim
  | nil =>
    cases x with
    | normal => exact ⟨.inl rfl, rfl, resE_ok q⟩
    | ret => exact ⟨.inr rfl, rfl, resE_ok q⟩
    | exit id => exact q.elim
    | goto l => exact q.elim

theorem CALLN.of {T : Tab} {f : FuncId} {args : List CVal} {h : Heap} {K : CVal → Heap → Prop} (k : Cal T f args h K) : CALLN T f args h K := ⟨k⟩

/-! ### Loops, scopes -/
/-- What goes round again. -/
def againQ {α : Type} (L : α → List (Nat × CVal)) (I : α → Heap → Prop) (lt : α → Prop) (ds : DS) (Q : QT) : QT := fun e ρ' ds' h' => match e with
  | .normal => ds' = ds ∧ ∃ s', ρ'.Has (L s') ∧ I s' h' ∧ lt s'
  | .exit id => Q (.exit id) ρ' ds' h'
  | .ret => Q .ret ρ' ds' h'
  | .goto l => Q (.goto l) ρ' ds' h'

theorem loopC {T : Tab} {N : Nat} {x : CCode} {ρ : Env} {ds : DS} {h : Heap} {Q : QT} {α : Type} (L : α → List (Nat × CVal)) (I : α → Heap → Prop) (μ : α → Nat) (s₀ : α) (i₀ : ρ.Has (L s₀)) (j₀ : I s₀ h)
    (round : ∀ (s : α) (ρ : Env) (h : Heap), I s h → wC T N x (ρ.puts (L s)) ds h (againQ L I (fun s' => μ s' < μ s) ds Q)) : CODEN T N (.loop x) ρ ds h Q := by
  refine ⟨?_⟩
  refine loopE L I μ s₀ i₀ j₀ fun s ρ h hi => (wC_ok x (round s ρ h hi)).mono ?_
  rintro e a' h' ⟨ρ', ds', rfl, q⟩
  cases e with
  | normal => obtain ⟨rfl, s', e2, e3, e4⟩ := q; exact ⟨s', ρ', rfl, e2, e3, e4⟩
  | _ => exact ⟨ρ', ds', rfl, q⟩

/-- One round, then the loop again. -/
theorem loop1 {T : Tab} {N : Nat} {x : CCode} {ρ : Env} {ds : DS} {h : Heap} {Q : QT} (k : wC T N x ρ ds h fun e ρ ds h => match e with
    | .normal => CODEN T N (.loop x) ρ ds h Q
    | .exit id => Q (.exit id) ρ ds h
    | .ret => Q .ret ρ ds h
    | .goto l => Q (.goto l) ρ ds h) : CODEN T N (.loop x) ρ ds h Q := by
  refine ⟨WP.loop ((wC_ok x k).mono ?_)⟩
  rintro e a' h' ⟨ρ', ds', rfl, q⟩
  cases e with
  | normal => obtain ⟨k⟩ := q; exact k
  | _ => exact ⟨ρ', ds', rfl, q⟩

theorem scopeC {T : Tab} {N : Nat} {b : CCode} {rests : List (Nat × CCode)} {ρ : Env} {ds : DS} {h : Heap} {Q : QT} (k : wC T N b ρ ds h fun e ρ ds h => match e with
    | .goto l => SM (findRest l rests) fun r => CODEN T N (.scope r rests) ρ ds h Q
    | .normal => Q .normal ρ ds h
    | .exit id => Q (.exit id) ρ ds h
    | .ret => Q .ret ρ ds h) : CODEN T N (.scope b rests) ρ ds h Q := by
  refine ⟨WP.scope ((wC_ok b k).mono ?_)⟩
  rintro e a' h' ⟨ρ', ds', rfl, q⟩
  cases e with
  | goto l => obtain ⟨r, hr, ⟨k⟩⟩ := SM.out q; exact ⟨r, hr, k⟩
  | _ => exact ⟨ρ', ds', rfl, q⟩

end Go.Proofs.YtmppoknfekdbbaaDoor.Cm
