/-
  The clean machine, part E: more operations.
-/
import Derived.Test.YtmppoknfekdbbaaDoorCmXD
import Derived.Laws.Strings
import Derived.Laws.Concat
namespace Go.Proofs.YtmppoknfekdbbaaDoor.Cm
open Go.RowKit

section
variable {P : Program} {K : Ctx} {ι : Emb} {h : Heap} {w : World} {a : List CVal} {A : Act}

theorem sim_extract (H : Inv K ι h w) {k : Nat} {X : Operand} {x : CX} (hx : VR ι (x.ev a) (A.eval X)) {o : Oper} (ho : o.op = .extract X k)
    {r : CRes} {h' : Heap} (e : cop (.extract x k) a h = some (r, h')) : OutQ P ι h r h' (execOp A.eval o) w := by
  simp only [cop] at e
  split at e
  · next vs hev =>
    rw [hev] at hx
    generalize hX : A.eval X = X' at hx
    cases hx with
    | tuple _ vs' R =>
      split at e
      · next v hv =>
        simp at e; obtain ⟨rfl, rfl⟩ := e
        obtain ⟨v', h1, h2⟩ := R.get k v hv
        refine out_val H (v' := v') ?_ h2
        have h3 : vs'[k]? = some v' := by simpa using h1
        simp [execOp, ho, hX, Instr.extract, h3]
      · simp at e
  · simp at e

theorem run_strBin {op : BinOp} {s t : ByteArray} {v : CVal} (e : strBin op s.data.toList t.data.toList = some v) : ∃ v', (Op.stringOp op s t).run P w = .ok v' w ∧ VR ι v v' := by
  have hlt : ∀ x y : List UInt8, Op.bytesLess x y = bytesLt x y := by
    intro x
    induction x with
    | nil => intro y; cases y <;> rfl
    | cons b x ih => intro y; cases y with
      | nil => rfl
      | cons c y => simp [Op.bytesLess, bytesLt, ih]
  cases op <;> simp only [strBin, Option.some.injEq, reduceCtorEq] at e
  · split at e
    · next hl =>
      simp at e; subst e
      refine ⟨.string (s ++ t), ?_, ?_⟩
      · have : ¬ ((s.size + t.size : Nat) : Int) > IntKind.i64.max := by
          have h1 : s.size = s.data.toList.length := by rw [Array.length_toList]; rfl
          have h2 : t.size = t.data.toList.length := by rw [Array.length_toList]; rfl
          have : IntKind.i64.max = 9223372036854775807 := by decide
          rw [this]; omega
        simp only [Op.stringOp]
        rw [if_neg this]
        simp
      · have : s.data.toList ++ t.data.toList = (s ++ t).data.toList := by simp
        rw [this]; exact .str _
    · simp at e
  all_goals
    subst e
    exact ⟨_, by simp only [Op.stringOp, ByteArray.toList_eq, hlt]; rfl, .bool _⟩

theorem run_intBin {op : BinOp} {k : IntKind} {x y : Int} {v : CVal} (hop : op ≠ .shl ∧ op ≠ .shr) (e : intBin op k x y = some v) (t : TypeId) : ∃ v', (binOp op t (.int k x) (.int k y)).run P w = .ok v' w ∧ VR ι v v' := by
  cases op <;> simp only [intBin, Option.some.injEq, reduceCtorEq] at e <;> first
    | (subst e; exact ⟨_, by simp only [binOp, Op.intArith, Op.intBits, Op.intCmp, ne_eq, not_true_eq_false, if_false]; rfl, by first | exact .int _ _ | exact .bool _⟩)
    | (split at e
       · simp at e
       · next h0 => simp at e; subst e; exact ⟨_, by simp only [binOp, Op.intDiv, h0, ne_eq, not_true_eq_false, if_false]; rfl, .int _ _⟩)

theorem run_shiftBin {op : BinOp} {k k' : IntKind} {x y : Int} {v : CVal} (e : shiftBin op k x y = some v) (t : TypeId) : ∃ v', (binOp op t (.int k x) (.int k' y)).run P w = .ok v' w ∧ VR ι v v' := by
  unfold shiftBin at e
  split at e
  · simp at e
  · next h0 => cases op <;> simp at e <;> (subst e; exact ⟨_, by simp only [binOp, Op.shift, h0, if_false]; rfl, .int _ _⟩)

theorem eqGuard_skip {op : BinOp} {t : TypeId} {X Y : Operand} {x y : Value} (h : (match x, y with | .nilIface, .nilIface => false | .agg _, .agg _ => false | _, _ => true) = true) : (eqGuard op t X Y x y).run P w = .ok () w := by
  cases op <;> first | rfl | (cases x <;> cases y <;> first | rfl | simp at h)

theorem sim_bin (H : Inv K ι h w) {op : BinOp} {t t' : TypeId} {X Y : Operand} {x y : CX} (hx : VR ι (x.ev a) (A.eval X)) (hy : VR ι (y.ev a) (A.eval Y)) {o : Oper} (ho : o.op = .binOp op t X Y t')
    {r : CRes} {h' : Heap} (e : cop (.bin op x y) a h = some (r, h')) : OutQ P ι h r h' (execOp A.eval o) w := by
  simp only [cop] at e
  split at e
  · next v hv =>
    simp at e; obtain ⟨rfl, rfl⟩ := e
    generalize x.ev a = u at hx hv
    generalize y.ev a = s at hy hv
    generalize hX : A.eval X = X' at hx
    generalize hY : A.eval Y = Y' at hy
    have hrun : ∃ v', (binOp op t X' Y').run P w = .ok v' w ∧ VR ι v v' := by
      cases hx <;> cases hy <;> simp [binC] at hv
      · next k n k' m =>
        split at hv
        · exact run_shiftBin hv t
        · exact run_shiftBin hv t
        · next h1 h2 =>
          split at hv
          · next hk => subst hk; exact run_intBin ⟨fun e1 => h1 e1, fun e1 => h2 e1⟩ hv t
          · simp at hv
      · next s1 s2 =>
        obtain ⟨v', h1, h2⟩ := run_strBin (P := P) (w := w) (ι := ι) hv
        exact ⟨v', by cases op <;> first | exact h1 | (simp [strBin] at hv; done), h2⟩
    obtain ⟨v', hr, hv'⟩ := hrun
    refine out_val H (v' := v') ?_ hv'
    have hg : (eqGuard op t X Y X' Y').run P w = .ok () w := by
      apply eqGuard_skip
      cases hx <;> cases hy <;> first | rfl | simp [binC] at hv
    simp [execOp, ho, hX, hY, hg, hr, Result.andThen]
  · simp at e

def TK.fits : TK → TypeDesc → Bool
  | .bool, .bool | .ptr, .pointer _ | .slice, .slice _ | .map, .map .. | .func, .func .. | .iface, .interface _ => true
  | _, _ => false

def isConstX : Operand → Bool
  | .const _ => true
  | _ => false

theorem run_keq_at {tk : TK} {d : TypeDesc} {t : TypeId} (ht : P.underlying t = some d) (hf : tk.fits d = true) {u s : CVal} {u' s' : Value} (hu : VR ι u u') (hs : VR ι s s') {b : Bool} (e : keq tk u s = some b) (n : Nat) : (Op.equalIn (n + 1) t u' s').run P w = .ok b w := by
  cases tk <;> cases d <;> simp [TK.fits] at hf <;> cases hu <;> cases hs <;> simp [keq] at e <;> subst e <;> simp [Op.equalIn, run_underlying ht, Result.andThen]

theorem run_keq {tk : TK} {d : TypeDesc} {t : TypeId} (ht : P.underlying t = some d) (hf : tk.fits d = true) {u s : CVal} {u' s' : Value} (hu : VR ι u u') (hs : VR ι s s') {b : Bool} (e : keq tk u s = some b) : (Op.equal t u' s').run P w = .ok b w :=
  run_keq_at ht hf hu hs e 9999

theorem sim_eq (H : Inv K ι h w) {neg : Bool} {tk : TK} {d : TypeDesc} {t t' : TypeId} (ht : P.underlying t = some d) (hf : tk.fits d = true) {X Y : Operand} (hc : tk = .iface → (isConstX X || isConstX Y) = true) {x y : CX} (hx : VR ι (x.ev a) (A.eval X)) (hy : VR ι (y.ev a) (A.eval Y))
    {o : Oper} (ho : o.op = .binOp (if neg then .neq else .eql) t X Y t')
    {r : CRes} {h' : Heap} (e : cop (.eq tk neg x y) a h = some (r, h')) : OutQ P ι h r h' (execOp A.eval o) w := by
  simp only [cop] at e
  split at e
  · next b hb =>
    simp at e; obtain ⟨rfl, rfl⟩ := e
    have hr := run_keq (P := P) (w := w) ht hf hx hy hb
    generalize x.ev a = u at hx hb
    generalize y.ev a = s at hy hb
    generalize hX : A.eval X = X' at hx hr
    generalize hY : A.eval Y = Y' at hy hr
    have hg : ∀ op, (eqGuard op t X Y X' Y').run P w = .ok () w := by
      intro op
      by_cases hi : tk = .iface
      · have hc' := hc hi
        subst hi
        cases op <;> first | rfl | skip
        all_goals
          cases hx <;> cases hy <;> simp [keq] at hb <;> first | rfl | (cases X <;> cases Y <;> simp [isConstX] at hc' <;> rfl)
      · apply eqGuard_skip
        cases hx <;> cases hy <;> first | rfl | (cases tk <;> simp [keq] at hb hi)
    have hbin : (binOp (if neg then .neq else .eql) t X' Y').run P w = .ok (.bool (if neg then !b else b)) w := by
      cases neg
      · cases hx <;> cases hy <;> first | (cases tk <;> simp [keq] at hb; done) | simp [binOp, hr, Result.andThen]
      · cases hx <;> cases hy <;> first | (cases tk <;> simp [keq] at hb; done) | simp [binOp, hr, Result.andThen]
    refine out_val H (v' := .bool (if neg then !b else b)) ?_ (.bool _)
    simp [execOp, ho, hX, hY, hg, hbin, Result.andThen]
  · simp at e

theorem sim_un (H : Inv K ι h w) {op : UnOp} {t : TypeId} {X : Operand} {x : CX} (hx : VR ι (x.ev a) (A.eval X)) {o : Oper} (ho : o.op = .unOp op t X)
    {r : CRes} {h' : Heap} (e : cop (.un op x) a h = some (r, h')) : OutQ P ι h r h' (execOp A.eval o) w := by
  simp only [cop] at e
  split at e
  · next v hv =>
    simp at e; obtain ⟨rfl, rfl⟩ := e
    generalize x.ev a = u at hx hv
    generalize hX : A.eval X = X' at hx
    have hrun : ∃ v', (Op.unary op X').run P w = .ok v' w ∧ VR ι v v' := by
      cases hx <;> simp only [unC, reduceCtorEq] at hv <;> cases op <;> simp only [Option.some.injEq, reduceCtorEq] at hv <;> subst hv
      · exact ⟨_, by simp only [Op.unary]; rfl, .bool _⟩
      · exact ⟨_, by simp only [Op.unary, Op.intArith]; rfl, .int _ _⟩
      · exact ⟨_, by simp only [Op.unary, Op.intBits]; rfl, .int _ _⟩
    obtain ⟨v', hr, hv'⟩ := hrun
    refine out_val H (v' := v') ?_ hv'
    simp [execOp, ho, hX, hr, Result.andThen]
  · simp at e

theorem sim_conv (H : Inv K ι h w) {s d : TypeId} {ds : TypeDesc} {k : IntKind} (hs : P.underlying s = some ds) (hd : P.underlying d = some (.int k)) {X : Operand} {x : CX} (hx : VR ι (x.ev a) (A.eval X)) {o : Oper} (ho : o.op = .convert s d X)
    {r : CRes} {h' : Heap} (e : cop (.conv k x) a h = some (r, h')) : OutQ P ι h r h' (execOp A.eval o) w := by
  simp only [cop] at e
  split at e
  · next k' n hev =>
    simp at e; obtain ⟨rfl, rfl⟩ := e
    rw [hev] at hx
    generalize hX : A.eval X = X' at hx
    cases hx
    refine out_val H (v' := .int k (k.wrap n)) ?_ (.int _ _)
    simp [execOp, ho, hX, convert, run_underlying hs, run_underlying hd, Conv.intToInt, Result.andThen]
  · simp at e

theorem sim_convStr (H : Inv K ι h w) {s d : TypeId} (hs : P.underlying s = some .string) (hd : P.underlying d = some .string) {X : Operand} {x : CX} (hx : VR ι (x.ev a) (A.eval X)) (hstr : ∀ v, x.ev a = v → ∃ l, v = .str l) {o : Oper} (ho : o.op = .convert s d X)
    {r : CRes} {h' : Heap} (e : cop (.move x) a h = some (r, h')) : OutQ P ι h r h' (execOp A.eval o) w := by
  simp [cop] at e; obtain ⟨rfl, rfl⟩ := e
  obtain ⟨l, hl⟩ := hstr _ rfl
  rw [hl] at hx ⊢
  generalize hX : A.eval X = X' at hx
  cases hx with
  | str s' =>
    refine out_val H (v' := .string s') ?_ (.str _)
    simp [execOp, ho, hX, convert, run_underlying hs, run_underlying hd, Result.andThen]

end
end Go.Proofs.YtmppoknfekdbbaaDoor.Cm
