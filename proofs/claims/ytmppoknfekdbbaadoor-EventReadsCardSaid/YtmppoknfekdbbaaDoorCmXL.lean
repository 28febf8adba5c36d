/-
  The clean machine, part L: the model's operations are turned into clean ones by a function; what it gives is sound.
-/
import Derived.Test.YtmppoknfekdbbaaDoorCmXK
import Derived.Laws.Tables
namespace Go.Proofs.YtmppoknfekdbbaaDoor.Cm
open Go.RowKit

def compG (glb : Gl) (X : Operand) : Option CX := if globOk glb X then compX X else none
def compGs (glb : Gl) (Xs : List Operand) : Option (List CX) := if Xs.all (globOk glb) then compXs Xs else none
def compGo (glb : Gl) (X : Option Operand) : Option (Option CX) := if (match X with | some Y => globOk glb Y | none => true) then compXo X else none
def partsG (glb : Gl) (place : Nat → Option (Nat × Nat)) (ps : List (Nat × Operand)) : Option (List (Nat × Nat × CX)) := if ps.all (fun p => globOk glb p.2) then partsOk place ps else none

def HasBody (P : Program) (g : FuncId) : Prop := ∃ fn, P.funcs[g]? = some fn ∧ fn.body.isSome = true ∧ (fn.name == "runtime.NumGoroutine") = false

/-- The operands' slots stand. -/
def OpsR (ι : Emb) (a : List CVal) (A : Act) (o : Oper) : Prop := ∀ t, Operand.tmp t ∈ o.op.operands.toList → TmpR ι a A t

def Sound (P : Program) (glb : Gl) (o : Oper) (co : COp) : Prop :=
  ∀ (K : Ctx) (ι : Emb) (h : Heap) (w : World) (a : List CVal) (A : Act), K.glb = glb → Inv K ι h w → OpsR ι a A o → ∀ (r : CRes) (h' : Heap), cop co a h = some (r, h') →
    (∀ g args, r = .enter g args → HasBody P g) → Out P K ι r h' (execOp A.eval o) w

/-- What reads at most. -/
def SoundQ (P : Program) (glb : Gl) (o : Oper) (co : COp) : Prop :=
  ∀ (K : Ctx) (ι : Emb) (h : Heap) (w : World) (a : List CVal) (A : Act), K.glb = glb → Inv K ι h w → OpsR ι a A o → ∀ (r : CRes) (h' : Heap), cop co a h = some (r, h') → OutQ P ι h r h' (execOp A.eval o) w

theorem SoundQ.sound {P : Program} {glb : Gl} {o : Oper} {co : COp} (q : SoundQ P glb o co) : Sound P glb o co := fun K ι h w a A hg H R r h' e _ => (q K ι h w a A hg H R r h' e).out H

section
variable {K : Ctx} {ι : Emb} {h : Heap} {w : World} {a : List CVal} {A : Act} {glb : Gl}
theorem compG_ev (H : Inv K ι h w) (hk : K.glb = glb) {X : Operand} {x : CX} (hx : compG glb X = some x) (R : ∀ t, X = .tmp t → TmpR ι a A t) : VR ι (x.ev a) (A.eval X) := by
  unfold compG at hx
  split at hx
  · next hg => exact H.ev' hx R (hk ▸ hg)
  · simp at hx
theorem compGs_ev (H : Inv K ι h w) (hk : K.glb = glb) {Xs : List Operand} {xs : List CX} (hx : compGs glb Xs = some xs) (R : ∀ t, Operand.tmp t ∈ Xs → TmpR ι a A t) : VRs ι (xs.map (·.ev a)) (Xs.map A.eval) := by
  unfold compGs at hx
  split at hx
  · next hg => exact H.evs hx R (fun X hX => hk ▸ List.all_eq_true.1 hg X hX)
  · simp at hx
theorem compGo_ev (H : Inv K ι h w) (hk : K.glb = glb) {X : Option Operand} {x : Option CX} (hx : compGo glb X = some x) (R : ∀ t, X = some (.tmp t) → TmpR ι a A t) : OR ι (x.map (·.ev a)) (X.map A.eval) := by
  cases X with
  | none => simp [compGo, compXo] at hx; subst hx; trivial
  | some X =>
    simp only [compGo] at hx
    cases hg : globOk glb X with
    | false => simp [hg] at hx
    | true =>
      simp only [hg, if_true] at hx
      exact H.evo hx R (fun Y hY => by cases hY; exact hk ▸ hg)
theorem partsG_rel (H : Inv K ι h w) (hk : K.glb = glb) {place : Nat → Option (Nat × Nat)} {ps : List (Nat × Operand)} {qs : List (Nat × Nat × CX)} (hx : partsG glb place ps = some qs) (R : ∀ t, Operand.tmp t ∈ ps.map (·.2) → TmpR ι a A t) :
    (qs.map fun p => (p.1, p.2.1, p.2.2.ev a)).length = (ps.map fun p => (p.1, A.eval p.2)).length ∧
    ∀ (j : Nat) (p : Nat × Nat × CVal) (q : Nat × Value), (qs.map fun p => (p.1, p.2.1, p.2.2.ev a))[j]? = some p → (ps.map fun p => (p.1, A.eval p.2))[j]? = some q → place q.1 = some (p.1, p.2.1) ∧ VR ι p.2.2 q.2 := by
  unfold partsG at hx
  split at hx
  · next hg => exact parts_rel H ps qs hx R (fun p hp => hk ▸ List.all_eq_true.1 hg p hp)
  · simp at hx
end

/-! ### What is asked of types -/
section
variable (P : Program)

def tyAgg (t : TypeId) : Option Bool := match P.underlying t with
  | some (.struct _) | some (.array ..) => some true
  | some _ => some false
  | none => none

def tySize (t : TypeId) : Option Nat := (P.info? t).map (·.size)

/-- The zero value's cells, and how many they are. -/
def tyZero (t : TypeId) : Option (List CVal) := match P.info? t with
  | some i => match i.zero with
    | some zv => match ofV.ofVs depthV zv.cells.toList with
      | some cs => if cs.all CVal.one = true ∧ zv.cells.size = i.size then some cs else none
      | none => none
    | none => none
  | none => none

def tyZeroV (t : TypeId) : Option CVal := match P.info? t with
  | some i => match i.zero with
    | some zv => ofV depthV zv
    | none => none
  | none => none

def tyKey (t : TypeId) : Option KT := match P.underlying t with
  | some .bool => some (.one .bool)
  | some (.int _) => some (.one .int)
  | some .string => some (.one .str)
  | some (.struct fs) => match pksOf fs.toList with
    | some ks => if flatT P t ks then some (.flat ks) else none
    | none => none
  | _ => none
where
  pksOf : List Field → Option (List PK)
    | [] => some []
    | f :: fs => match P.underlying f.type, pksOf fs with
      | some .bool, some ks => some (.bool :: ks)
      | some (.int _), some ks => some (.int :: ks)
      | some .string, some ks => some (.str :: ks)
      | _, _ => none

variable {P}
theorem tyAgg_run {t : TypeId} {b : Bool} (h : tyAgg P t = some b) (w : World) : (isAgg t).run P w = .ok b w := by
  unfold tyAgg at h
  cases hu : P.underlying t with
  | none => simp [hu] at h
  | some d => cases d <;> simp [hu] at h <;> subst h <;> simp [isAgg, run_underlying hu]

theorem tySize_run {t : TypeId} {n : Nat} (h : tySize P t = some n) (w : World) : (sizeOf t).run P w = .ok n w := by
  unfold tySize at h
  cases hi : P.info? t with
  | none => simp [hi] at h
  | some i => simp [hi] at h; subst h; simp [sizeOf, typeInfo, hi]

theorem tyZero_spec {t : TypeId} {cs : List CVal} (h : tyZero P t = some cs) : ∃ i zv, P.info? t = some i ∧ i.zero = some zv ∧ zv.cells.size = i.size ∧ cs.all CVal.one = true ∧ (∀ ι, VRs ι cs zv.cells.toList) ∧ ∀ w, (zeroValue t).run P w = .ok zv w := by
  unfold tyZero at h
  split at h
  · next i hi =>
    split at h
    · next zv hz =>
      split at h
      · next cs' hcs =>
        split at h
        · next h1 =>
          simp at h; subst h
          exact ⟨i, zv, hi, hz, h1.2, h1.1, fun ι => ofVs_rel (fun v c e => ofV_rel _ _ _ e) _ _ hcs, fun w => by simp [zeroValue, typeInfo, hi, hz]⟩
        · simp at h
      · simp at h
    · simp at h
  · simp at h

theorem tyZeroV_spec {t : TypeId} {c : CVal} (h : tyZeroV P t = some c) : ∃ zv, (∀ ι, VR ι c zv) ∧ ∀ w, (zeroValue t).run P w = .ok zv w := by
  unfold tyZeroV at h
  split at h
  · next i hi =>
    split at h
    · next zv hz => exact ⟨zv, fun ι => ofV_rel _ _ _ h, fun w => by simp [zeroValue, typeInfo, hi, hz]⟩
    · simp at h
  · simp at h

theorem tyKey_fits {t : TypeId} {kt : KT} (h : tyKey P t = some kt) : kt.fits P t = true := by
  unfold tyKey at h
  split at h
  · next hu => simp at h; subst h; simp [KT.fits, hu, PK.fits]
  · next hu => simp at h; subst h; simp [KT.fits, hu, PK.fits]
  · next hu => simp at h; subst h; simp [KT.fits, hu, PK.fits]
  · next fs hu =>
    split at h
    · split at h
      · next hf => simp at h; subst h; exact hf
      · simp at h
    · simp at h
  · simp at h
end

/-! ### The function -/

def compBin (P : Program) (glb : Gl) (op : BinOp) (t : TypeId) (X Y : Operand) : Option COp :=
  match compG glb X, compG glb Y, P.underlying t with
  | some x, some y, some d =>
    match d with
    | .int _ | .string => some (.bin op x y)
    | .struct _ =>
      if op = .eql ∨ op = .neq then
        match tyKey P t with
        | some (.flat ks) => if P.eqGuardType P.depth t then none else some (.eqS ks (op == .neq) x y)
        | _ => none
      else none
    | _ =>
      if op = .eql ∨ op = .neq then
        match (match d with | .bool => some TK.bool | .pointer _ => some .ptr | .slice _ => some .slice | .map .. => some .map | .func .. => some .func | .interface _ => some .iface | _ => none : Option TK) with
        | some tk => if tk = .iface ∧ (isConstX X || isConstX Y) = false then none else some (.eq tk (op == .neq) x y)
        | none => none
      else none
  | _, _, _ => none

theorem compBin_sound {P : Program} {glb : Gl} {op : BinOp} {t t' : TypeId} {X Y : Operand} {co : COp} (h : compBin P glb op t X Y = some co) {o : Oper} (ho : o.op = .binOp op t X Y t') : SoundQ P glb o co := by
  intro K ι hp w a A hk H R r h' e
  unfold compBin at h
  split at h
  · next x y d hx hy hd =>
    have hX := compG_ev H hk hx (fun t e => R t (by simp [ho, Op.operands, e]))
    have hY := compG_ev H hk hy (fun t e => R t (by simp [ho, Op.operands, e]))
    have hop : (op = .eql ∨ op = .neq) → op = (if (op == .neq) = true then .neq else .eql) := by rintro (rfl | rfl) <;> rfl
    split at h
    · simp at h; subst h; exact sim_bin H hX hY ho e
    · simp at h; subst h; exact sim_bin H hX hY ho e
    · next fs =>
      split at h
      · next hq =>
        split at h
        · next ks hks =>
          split at h
          · simp at h
          · next hg =>
            simp at h; subst h
            have hf := tyKey_fits hks
            exact sim_eqS H (neg := (op == .neq)) hf (by simpa using hg) hX hY (by rw [← hop hq]; exact ho) e
        · simp at h
      · simp at h
    · split at h
      · next hq =>
        split at h
        · next tk htk =>
          split at h
          · simp at h
          · next hc =>
            simp at h; subst h
            refine sim_eq H (neg := (op == .neq)) (tk := tk) hd ?_ (fun hi => ?_) hX hY (by rw [← hop hq]; exact ho) e
            · cases d <;> simp at htk <;> subst htk <;> rfl
            · cases hb : (isConstX X || isConstX Y) with
              | true => rfl
              | false => exact absurd ⟨hi, hb⟩ hc
        · simp at h
      · simp at h
  · simp at h

theorem compBin_isA {P : Program} {glb : Gl} {op : BinOp} {t : TypeId} {X Y : Operand} {co : COp} (h : compBin P glb op t X Y = some co) : isA co = false := by
  unfold compBin at h
  repeat' (first | (split at h) | (simp at h; subst h; rfl) | (simp at h))
  all_goals first | (simp at h; subst h; rfl) | simp at h

def compConv (P : Program) (glb : Gl) (s d : TypeId) (X : Operand) : Option COp :=
  match compG glb X, P.underlying s, P.underlying d with
  | some x, some (.int _), some (.int k) => some (.conv k x)
  | some x, some .string, some (.slice e) => match P.underlying e with
    | some (.int .u8) => some (.bytesOf x)
    | _ => none
  | some x, some (.slice e), some .string => match P.underlying e with
    | some (.int .u8) => some (.strOf x)
    | _ => none
  | _, _, _ => none

def quietC : COp → Bool
  | .move _ | .pick .. | .build .. | .load .. | .nilCheck _ | .bin .. | .eq .. | .eqS .. | .un .. | .conv .. | .strOf _ | .iface .. | .func .. | .sliceStr .. | .slice .. | .sliceArr .. | .fieldAddr .. | .part .. | .indexAddr .. | .indexAddrArr .. | .indexArr .. | .indexStr .. | .lookup .. | .extract .. | .len .. | .maxmin .. => true
  | _ => false

/-- What makes a new object and does nothing else. -/
def SoundA (P : Program) (glb : Gl) (o : Oper) (co : COp) : Prop :=
  ∀ (K : Ctx) (ι : Emb) (h : Heap) (w : World) (a : List CVal) (A : Act), K.glb = glb → Inv K ι h w → OpsR ι a A o → ∀ (id : Nat) (v : CVal) (obj : CObj), allocC co a id = some (v, obj) → AOut P K ι id v obj (execOp A.eval o) w

/-- Sound; and where it only reads or only makes an object, it is known to. -/
structure Good (P : Program) (glb : Gl) (o : Oper) (co : COp) : Prop where
  sound : Sound P glb o co
  quiet : quietC co = true → SoundQ P glb o co
  alloc : isA co = true → SoundA P glb o co
theorem SoundQ.good {P : Program} {glb : Gl} {o : Oper} {co : COp} (q : SoundQ P glb o co) (h2 : isA co = false := by rfl) : Good P glb o co := ⟨q.sound, fun _ => q, fun e => by rw [h2] at e; simp at e⟩
theorem Sound.good {P : Program} {glb : Gl} {o : Oper} {co : COp} (q : Sound P glb o co) (h : quietC co = false) (h2 : isA co = false := by rfl) : Good P glb o co := ⟨q, fun e => by rw [h] at e; simp at e, fun e => by rw [h2] at e; simp at e⟩
theorem SoundA.good {P : Program} {glb : Gl} {o : Oper} {co : COp} (q : SoundA P glb o co) (h : isA co = true := by rfl) : Good P glb o co := by
  refine ⟨fun K ι hp w a A hk H R r h' e _ => ?_, fun e => ?_, fun _ => q⟩
  · obtain ⟨v, obj, h1, rfl, rfl⟩ := cop_alloc h e
    exact (q K ι hp w a A hk H R _ _ _ h1).out H
  · cases co <;> simp [isA, quietC] at h e

theorem compConv_good {P : Program} {glb : Gl} {s d : TypeId} {X : Operand} {co : COp} (h : compConv P glb s d X = some co) {o : Oper} (ho : o.op = .convert s d X) : Good P glb o co := by
  unfold compConv at h
  split at h
  · next x k' k hx hs hd =>
    simp at h; subst h
    exact SoundQ.good fun K ι hp w a A hk H R r h' e => sim_conv H hs hd (compG_ev H hk hx (fun t e => R t (by simp [ho, Op.operands, e]))) ho e
  · next x e hx hs hd =>
    split at h
    · next he =>
      simp at h; subst h
      exact Sound.good (fun K ι hp w a A hk H R r h' e _ => sim_bytesOf H hs hd he (compG_ev H hk hx (fun t e => R t (by simp [ho, Op.operands, e]))) ho e) rfl
    · simp at h
  · next x e hx hs hd =>
    split at h
    · next he =>
      simp at h; subst h
      exact SoundQ.good fun K ι hp w a A hk H R r h' e => sim_strOf H hs hd he (compG_ev H hk hx (fun t e => R t (by simp [ho, Op.operands, e]))) ho e
    · simp at h
  · simp at h

def compBuild (P : Program) (glb : Gl) (t : TypeId) (parts : Array (Nat × Operand)) : Option COp :=
  match tyZero P t with
  | some zero => match P.underlying t with
    | some (.struct fields) => match fields.toList.mapM (fun f => (P.info? f.type).map fun i => (f.offset, i.size)) with
      | some places => (partsG glb (fun i => places.toArray[i]?) parts.toList).map (.build zero)
      | none => none
    | some (.array _ e) => match tySize P e with
      | some sz => (partsG glb (fun i => some (i * sz, sz)) parts.toList).map (.build zero)
      | none => none
    | _ => none
  | none => none

theorem built_run {P : Program} {t : TypeId} {w : World} (ps : Array (Nat × Value)) (r : Array Value) (h : P.built t ps.toList = some r) : (Instr.build t ps).run P w = .ok (.agg r) w := run_build w t ps r h

theorem compBuild_good {P : Program} {glb : Gl} {t : TypeId} {parts : Array (Nat × Operand)} {co : COp} (h : compBuild P glb t parts = some co) {o : Oper} (ho : o.op = .build t parts) : Good P glb o co := by
  have hops : ∀ t', Operand.tmp t' ∈ parts.toList.map (·.2) → Operand.tmp t' ∈ o.op.operands.toList := by
    intro t' ht; rw [ho]; simpa [Op.operands] using ht
  unfold compBuild at h
  split at h
  · next zero hz =>
    obtain ⟨i, zv, hi, hzv, hsz, h1, R0, hrun⟩ := tyZero_spec hz
    split at h
    · next fields hu =>
      split at h
      · next places hpl =>
        obtain ⟨qs, hqs, rfl⟩ := Option.map_eq_some_iff.1 h
        refine SoundQ.good fun K ι hp w a A hk H R r h' e => ?_
        have hp := partsG_rel H hk hqs (fun t' ht => R t' (hops t' ht))
        refine sim_build (place := fun i => places.toArray[i]?) H (hrun w) (R0 ι) hp (fun ps r hf => built_run ps r ?_) ho e
        simp only [Program.built, hi, hu, hzv, hpl]
        exact hf
      · simp at h
    · next n el hu =>
      split at h
      · next sz hsz' =>
        obtain ⟨qs, hqs, rfl⟩ := Option.map_eq_some_iff.1 h
        refine SoundQ.good fun K ι hp w a A hk H R r h' e => ?_
        have hp := partsG_rel H hk hqs (fun t' ht => R t' (hops t' ht))
        refine sim_build (place := fun i => some (i * sz, sz)) H (hrun w) (R0 ι) hp (fun ps r hf => built_run ps r ?_) ho e
        unfold tySize at hsz'
        cases hie : P.info? el with
        | none => simp [hie] at hsz'
        | some ie =>
          simp [hie] at hsz'; subst hsz'
          simp only [Program.built, hi, hu, hzv, hie]
          exact hf
      · simp at h
    · simp at h
  · simp at h

/-- A builtin. -/
def compBuiltin (P : Program) (glb : Gl) (b : Builtin) (args : Array Operand) (ats : Array TypeId) : Option COp :=
  match b, args.toList, ats.toList with
  | .len, [X], [t] => match compG glb X, P.underlying t with
    | some x, some .string => some (.len .str x)
    | some x, some (.slice _) => some (.len .slice x)
    | some x, some (.map ..) => some (.len .map x)
    | _, some (.array n _) => some (.move (.c (.int .i64 n)))
    | _, _ => none
  | .append, [S, X], [t, t2] => match compG glb S, compG glb X, P.underlying t, P.underlying t2 with
    | some s, some x, some (.slice el), some d2 => match P.info? el, (match d2 with | .int _ => true | _ => false) with
      | some i, false => match i.zero with
        | some zv => if zv.cells.size = i.size ∧ 0 < i.bytes ∧ i.bytes ≤ 1048576 then some (.append i.size i.bytes s x) else none
        | none => none
      | _, _ => none
    | _, _, _, _ => none
  | .copy, [D, S], t :: _ => match compG glb D, compG glb S, P.underlying t with
    | some d, some s, some (.slice el) => (tySize P el).map fun sz => .copy sz d s
    | _, _, _ => none
  | .delete, [M, Y], t :: _ => match compG glb M, compG glb Y, P.underlying t with
    | some m, some y, some (.map kt _) => (tyKey P kt).map fun k => .delete k m y
    | _, _, _ => none
  | .max, X :: Xs, _ => match compG glb X, compGs glb Xs with
    | some x, some xs => some (.maxmin true x xs)
    | _, _ => none
  | .min, X :: Xs, _ => match compG glb X, compGs glb Xs with
    | some x, some xs => some (.maxmin false x xs)
    | _, _ => none
  | _, _, _ => none

theorem compBuiltin_good {P : Program} {glb : Gl} {b : Builtin} {args : Array Operand} {ats : Array TypeId} {co : COp} (h : compBuiltin P glb b args ats = some co) {o : Oper} (ho : o.op = .call { callee := .builtin b, args, argTypes := ats }) : Good P glb o co := by
  have hops : ∀ t', Operand.tmp t' ∈ args.toList → Operand.tmp t' ∈ o.op.operands.toList := by
    intro t' ht; rw [ho]; simpa [Op.operands, Call.operands] using ht
  unfold compBuiltin at h
  split at h
  · next X t hargs hats =>
    split at h
    · next x hx hu =>
      simp at h; subst h
      exact SoundQ.good fun K ι hp w a A hk H R r h' e => sim_len H (d := .string) hu rfl (compG_ev H hk hx (fun t e => R t (hops t (by rw [hargs, e]; simp)))) ho hargs hats e
    · next x el hx hu =>
      simp at h; subst h
      exact SoundQ.good fun K ι hp w a A hk H R r h' e => sim_len H (d := .slice el) hu rfl (compG_ev H hk hx (fun t e => R t (hops t (by rw [hargs, e]; simp)))) ho hargs hats e
    · next x kt el hx hu =>
      simp at h; subst h
      exact SoundQ.good fun K ι hp w a A hk H R r h' e => sim_len H (d := .map kt el) hu rfl (compG_ev H hk hx (fun t e => R t (hops t (by rw [hargs, e]; simp)))) ho hargs hats e
    · next _ n el hu =>
      simp at h; subst h
      exact SoundQ.good fun K ι hp w a A hk H R r h' e => sim_lenArr H hu ho hargs hats e
    · simp at h
  · next S X t t2 hargs hats =>
    split at h
    · next s x el d2 hs hx hu hu2 =>
      split at h
      · next i hi hd2 =>
        split at h
        · next zv hz =>
          split at h
          · next hb =>
            simp at h; subst h
            obtain rfl : args = #[S, X] := by cases args; simp_all
            refine Sound.good (fun K ι hp w a A hk H R r h' e _ => ?_) rfl
            refine sim_append (ats := ats) (el := el) (i := i) (zv := zv) H ⟨⟨t, by rw [← Array.getElem?_toList, hats]; rfl, hu⟩, ⟨t2, d2, by rw [← Array.getElem?_toList, hats]; rfl, hu2, hd2⟩, hi, hz, hb.1, hb.2⟩ (compG_ev H hk hs (fun t e => R t (hops t (by simp [e])))) (compG_ev H hk hx (fun t e => R t (hops t (by simp [e])))) ho e
          · simp at h
        · simp at h
      · simp at h
    · simp at h
  · next D S t ts hargs hats =>
    split at h
    · next d s el hd hs hu =>
      obtain ⟨sz, hsz, rfl⟩ := Option.map_eq_some_iff.1 h
      obtain rfl : args = #[D, S] := by cases args; simp_all
      refine Sound.good (fun K ι hp w a A hk H R r h' e _ => ?_) rfl
      exact sim_copy H (by rw [← Array.getElem?_toList, hats]; rfl) hu (tySize_run hsz w) (compG_ev H hk hd (fun t e => R t (hops t (by simp [e])))) (compG_ev H hk hs (fun t e => R t (hops t (by simp [e])))) ho e
    · simp at h
  · next M Y t ts hargs hats =>
    split at h
    · next m y kt el hm hy hu =>
      obtain ⟨kc, hkc, rfl⟩ := Option.map_eq_some_iff.1 h
      obtain rfl : args = #[M, Y] := by cases args; simp_all
      refine Sound.good (fun K ι hp w a A hk H R r h' e _ => ?_) rfl
      exact sim_delete H hu (tyKey_fits hkc) (compG_ev H hk hm (fun t e => R t (hops t (by simp [e])))) (compG_ev H hk hy (fun t e => R t (hops t (by simp [e])))) (by rw [← Array.getElem?_toList, hats]; rfl) ho e
    · simp at h
  · next X Xs hargs =>
    split at h
    · next x xs hx hxs =>
      simp at h; subst h
      exact SoundQ.good fun K ι hp w a A hk H R r h' e => sim_maxmin (isMax := true) H (compG_ev H hk hx (fun t e => R t (hops t (by rw [hargs, e]; simp)))) (compGs_ev H hk hxs (fun t ht => R t (hops t (by rw [hargs]; simp [ht])))) hargs ho e
    · simp at h
  · next X Xs hargs =>
    split at h
    · next x xs hx hxs =>
      simp at h; subst h
      exact SoundQ.good fun K ι hp w a A hk H R r h' e => sim_maxmin (isMax := false) H (compG_ev H hk hx (fun t e => R t (hops t (by rw [hargs, e]; simp)))) (compGs_ev H hk hxs (fun t ht => R t (hops t (by rw [hargs]; simp [ht])))) hargs ho e
    · simp at h
  · simp at h

def compOp (P : Program) (glb : Gl) (op : Op) : Option COp :=
  match op with
  | .move x | .assign x => (compG glb x).map .move
  | .pick c a b => match compG glb c, compG glb a, compG glb b with
    | some c, some a, some b => some (.pick c a b)
    | _, _, _ => none
  | .alloc t => (tyZero P t).map .new
  | .box _ x => (compG glb x).map .box
  | .build t parts => compBuild P glb t parts
  | .buildSlice t len parts => match P.underlying t with
    | some (.slice el) => match tyZero P el, tySize P el with
      | some zero, some sz => if len * sz ≤ 16777216 then (partsG glb (fun i => some (i * sz, sz)) parts.toList).map (.buildSlice zero len) else none
      | _, _ => none
    | _ => none
  | .load t x => match tyAgg P t, tySize P t, compG glb x with
    | some agg, some n, some x => some (.load agg n x)
    | _, _, _ => none
  | .store t p x => match tySize P t, compG glb p, compG glb x with
    | some n, some p, some x => some (.store n p x)
    | _, _, _ => none
  | .nilCheck x => (compG glb x).map .nilCheck
  | .binOp op t x y _ => compBin P glb op t x y
  | .unOp op _ x => (compG glb x).map (.un op)
  | .convert s d x => compConv P glb s d x
  | .makeInterface t x => match P.underlying t with
    | some (.interface _) | none => none
    | some _ => (compG glb x).map (.iface t)
  | .makeFunc (.func f) first cap => match compGs glb first.toList, compGs glb cap.toList with
    | some fs, some cs => some (.func f fs cs)
    | _, _ => none
  | .makeMap t r => match r, P.underlying t with
    | none, _ => some .newMap
    | some (.const (.int _ _)), some (.map ..) => some .newMap
    | _, _ => none
  | .makeSlice t l c => match P.underlying t with
    | some (.slice el) => match P.info? el, tyZero P el, compG glb l, compG glb c with
      | some i, some zero, some l, some c => some (.makeSlice zero i.bytes l c)
      | _, _, _, _ => none
    | _ => none
  | .slice t x lo hi mx => match compG glb x, compGo glb lo, compGo glb hi, compGo glb mx, P.underlying t with
    | some x, some lo, some hi, some none, some .string => some (.sliceStr x lo hi)
    | some x, some lo, some hi, some mx, some (.slice el) => (tySize P el).map fun sz => .slice sz x lo hi mx
    | some x, some lo, some hi, some mx, some (.array n el) => (tySize P el).map fun sz => .sliceArr n sz x lo hi mx
    | _, _, _, _, _ => none
  | .fieldAddr s x k => match P.underlying s with
    | some (.struct fields) => match fields[k]? with
      | some f => match tySize P f.type, compG glb x with
        | some n, some x => if n = 0 then none else some (.fieldAddr f.offset x)
        | _, _ => none
      | none => none
    | _ => none
  | .field s x k => match P.underlying s with
    | some (.struct fields) => match fields[k]? with
      | some f => match tyAgg P f.type, tySize P f.type, compG glb x with
        | some agg, some n, some x => some (.part agg f.offset n x)
        | _, _, _ => none
      | none => none
    | _ => none
  | .indexAddr t x i => match compG glb x, compG glb i, P.underlying t with
    | some x, some i, some (.slice el) => (tySize P el).map fun sz => .indexAddr sz x i
    | some x, some i, some (.array n el) => (tySize P el).map fun sz => .indexAddrArr n sz x i
    | _, _, _ => none
  | .index t x i => match compG glb x, compG glb i, P.underlying t with
    | some x, some i, some .string => some (.indexStr x i)
    | some x, some i, some (.array n el) => match tyAgg P el, tySize P el with
      | some agg, some sz => some (.indexArr n agg sz x i)
      | _, _ => none
    | _, _, _ => none
  | .lookup t m k ok => match compG glb m, compG glb k, P.underlying t with
    | some m, some k, some (.map kt el) => match tyKey P kt, tyZeroV P el with
      | some kc, some zero => some (.lookup kc zero ok m k)
      | _, _ => none
    | _, _, _ => none
  | .mapUpdate t m k v | .insert t m k v => match compG glb m, compG glb k, compG glb v, P.underlying t with
    | some m, some k, some v, some (.map kt _) => (tyKey P kt).map fun kc => .mapUpdate kc m k v
    | _, _, _, _ => none
  | .extract x i => (compG glb x).map fun x => .extract x i
  | .range t x => match P.underlying t with
    | some .string => (compG glb x).map .rangeStr
    | _ => none
  | .next x true => (compG glb x).map .nextStr
  | .call c => match c.callee with
    | .builtin b => compBuiltin P glb b c.args c.argTypes
    | .value f => match compG glb f, compGs glb c.args.toList with
      | some f, some xs => some (.call f xs)
      | _, _ => none
    | .invoke .. => none
  | .defer c => match c.callee with
    | .value f => match compG glb f, compGs glb c.args.toList with
      | some f, some xs => some (.defer f xs)
      | _, _ => none
    | _ => none
  | _ => none

end Go.Proofs.YtmppoknfekdbbaaDoor.Cm
