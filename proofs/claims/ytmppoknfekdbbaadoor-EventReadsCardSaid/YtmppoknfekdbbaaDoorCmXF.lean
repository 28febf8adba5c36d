/-
  The clean machine, part F: slices, strings, bytes, lengths, maps, calls.
-/
import Derived.Test.YtmppoknfekdbbaaDoorCmXE
import Derived.Laws.Strings2
namespace Go.Proofs.YtmppoknfekdbbaaDoor.Cm
open Go.RowKit

section
variable {P : Program} {K : Ctx} {ι : Emb} {h : Heap} {w : World} {a : List CVal} {A : Act}

/-- An optional operand. -/
def OR (ι : Emb) : Option CVal → Option Value → Prop
  | none, none => True
  | some v, some v' => VR ι v v'
  | _, _ => False

theorem Inv.evo (H : Inv K ι h w) {X : Option Operand} {x : Option CX} (hx : compXo X = some x) (R : ∀ t, X = some (.tmp t) → TmpR ι a A t) (hg : ∀ Y, X = some Y → globOk K.glb Y = true) : OR ι (x.map (·.ev a)) (X.map A.eval) := by
  cases X with
  | none => simp [compXo] at hx; subst hx; trivial
  | some X =>
    simp [compXo] at hx
    obtain ⟨c, h1, rfl⟩ := hx
    exact H.ev' h1 (fun t e => R t (by rw [e])) (hg X rfl)

theorem run_sliceBound {v : CVal} {v' : Value} (hv : VR ι v v') {j y : Nat} (e : asNat v = some j) (hy : j ≤ y) (c : BoundsCode) : (Instr.sliceBound v' y c).run P w = .ok j w := by
  obtain ⟨k, rfl⟩ := asNat_some hv e
  have : (0 : Int) ≤ j ∧ (j : Int) ≤ y := by omega
  simp only [Instr.sliceBound, asIntOf]
  rw [show (do let (k', i) ← (pure (k, (j : Int)) : Sem (IntKind × Int)); if 0 ≤ i ∧ i ≤ y then pure i.toNat else boundsPanic k' i y c) = (if (0 : Int) ≤ j ∧ (j : Int) ≤ y then pure (j : Int).toNat else boundsPanic k j y c) from rfl, if_pos this]
  simp

theorem run_bounds {isS : Bool} {len cap ex : Nat} {lo hi mx : Option CVal} {lo' hi' mx' : Option Value} (hlo : OR ι lo lo') (hhi : OR ι hi hi') (hmx : OR ι mx mx') {l b m : Nat} (e : boundsC len cap lo hi mx = some (l, b, m)) :
    (Instr.sliceBounds isS len (cap + ex) lo' hi' mx').run P w = .ok (l, b, if mx.isSome then m else cap + ex) w ∧ l ≤ b ∧ b ≤ m ∧ m ≤ cap ∧ (mx = none → m = cap) := by
  unfold boundsC at e
  split at e
  · simp at e
  · next m1 hm1 =>
    split at e
    · next hmc =>
      split at e
      · simp at e
      · next b1 hb1 =>
        split at e
        · next hbm =>
          split at e
          · simp at e
          · next l1 hl1 =>
            split at e
            · next hlb =>
              simp at e
              obtain ⟨rfl, rfl, rfl⟩ := e
              refine ⟨?_, hlb, hbm, hmc, fun hn => by subst hn; simpa using hm1.symm⟩
              have hlo1 : ∀ c, (match lo' with | some v => Instr.sliceBound v b1 c | none => pure 0 : Sem Nat).run P w = .ok l1 w := by
                intro c
                cases lo with
                | none => cases lo' with
                  | none => simp at hl1; subst hl1; rfl
                  | some _ => exact hlo.elim
                | some v => cases lo' with
                  | none => exact hlo.elim
                  | some v' => exact run_sliceBound hlo hl1 hlb c
              cases mx with
              | none =>
                cases mx' with
                | some _ => exact hmx.elim
                | none =>
                  simp at hm1; subst hm1
                  cases hi with
                  | none => cases hi' with
                    | some _ => exact hhi.elim
                    | none =>
                      simp at hb1; subst hb1
                      have := hlo1 .sliceB
                      cases lo' <;> simp only at this <;> simp only [Instr.sliceBounds, Sem.run_bind, Sem.run_pure, Result.andThen, this, Option.isSome_none, Bool.false_eq_true, if_false] <;> first | done | (simp at this; subst this; rfl)
                  | some v => cases hi' with
                    | none => exact hhi.elim
                    | some v' =>
                      have h1 : ∀ c, (Instr.sliceBound v' (cap + ex) c).run P w = .ok b1 w := fun c => run_sliceBound hhi (by simpa using hb1) (by omega) c
                      have := hlo1 .sliceB
                      cases lo' <;> simp only at this <;> simp only [Instr.sliceBounds, Sem.run_bind, Sem.run_pure, Result.andThen, this, h1, Option.isSome_none, Bool.false_eq_true, if_false] <;> first | done | (simp at this; subst this; rfl)
              | some u =>
                cases mx' with
                | none => exact hmx.elim
                | some u' =>
                  cases hi with
                  | none => simp at hb1
                  | some v => cases hi' with
                    | none => exact hhi.elim
                    | some v' =>
                      have h0 : ∀ c, (Instr.sliceBound u' (cap + ex) c).run P w = .ok m1 w := fun c => run_sliceBound hmx (by simpa using hm1) (by omega) c
                      have h1 : ∀ c, (Instr.sliceBound v' m1 c).run P w = .ok b1 w := fun c => run_sliceBound hhi (by simpa using hb1) hbm c
                      have := hlo1 .slice3C
                      cases lo' <;> simp only at this <;> simp only [Instr.sliceBounds, Sem.run_bind, Sem.run_pure, Result.andThen, this, h0, h1, Option.isSome_some, if_true] <;> first | done | (simp at this; subst this; rfl)
            · simp at e
        · simp at e
    · simp at e

theorem extract_toList (s : ByteArray) (l b : Nat) : (s.extract l b).data.toList = (s.data.toList.drop l).take (b - l) := by
  have : s = ⟨s.data.toList.toArray⟩ := by simp
  rw [this, ByteArray.extract_mk]

theorem sim_sliceStr (H : Inv K ι h w) {t : TypeId} (ht : P.underlying t = some .string) {X : Operand} {L U : Option Operand} {x : CX} {lo hi : Option CX} (hx : VR ι (x.ev a) (A.eval X)) (hlo : OR ι (lo.map (·.ev a)) (L.map A.eval)) (hhi : OR ι (hi.map (·.ev a)) (U.map A.eval)) {o : Oper} (ho : o.op = .slice t X L U none)
    {r : CRes} {h' : Heap} (e : cop (.sliceStr x lo hi) a h = some (r, h')) : OutQ P ι h r h' (execOp A.eval o) w := by
  simp only [cop] at e
  split at e
  · next s hev =>
    rw [hev] at hx
    split at e
    · next l b m hb =>
      simp at e; obtain ⟨rfl, rfl⟩ := e
      generalize hX : A.eval X = X' at hx
      cases hx with
      | str s' =>
        have hsz : s'.data.toList.length = s'.size := by rw [Array.length_toList]; rfl
        rw [hsz] at hb
        obtain ⟨hr, _⟩ := run_bounds (P := P) (w := w) (isS := false) (ex := 0) (mx := none) (mx' := none) hlo hhi (by trivial) hb
        refine out_val H (v' := .string (s'.extract l b)) ?_ (by rw [← extract_toList]; exact .str _)
        simp at hr
        simp [execOp, ho, hX, Instr.sliceAt, Instr.slice, run_underlying ht, hr, Result.andThen]
    · simp at e
  · simp at e

theorem sim_slice (H : Inv K ι h w) {t el : TypeId} {sz : Nat} (ht : P.underlying t = some (.slice el)) (hn : (sizeOf el).run P w = .ok sz w) {X : Operand} {L U M : Option Operand} {x : CX} {lo hi mx : Option CX} (hx : VR ι (x.ev a) (A.eval X)) (hlo : OR ι (lo.map (·.ev a)) (L.map A.eval)) (hhi : OR ι (hi.map (·.ev a)) (U.map A.eval)) (hmx : OR ι (mx.map (·.ev a)) (M.map A.eval))
    {o : Oper} (ho : o.op = .slice t X L U M) {r : CRes} {h' : Heap} (e : cop (.slice sz x lo hi mx) a h = some (r, h')) : OutQ P ι h r h' (execOp A.eval o) w := by
  simp only [cop] at e
  split at e
  · next hev =>
    rw [hev] at hx
    split at e
    · next lbm hb =>
      obtain ⟨l, b, m⟩ := lbm
      simp at e; obtain ⟨rfl, rfl⟩ := e
      generalize hX : A.eval X = X' at hx
      cases hx
      obtain ⟨hr, h1, h2, h3, h4⟩ := run_bounds (P := P) (w := w) (isS := true) (ex := 0) hlo hhi hmx hb
      have e1 : m = 0 := by omega
      have e2 : b = 0 := by omega
      have e3 : l = 0 := by omega
      subst e1 e2 e3
      simp at hr
      refine out_val H (v' := .slice none 0 0) ?_ .nilSlice
      simp [execOp, ho, hX, Instr.sliceAt, Instr.slice, run_underlying ht, hr, hn, Result.andThen]
    · simp at e
  · next i off len cap hev =>
    rw [hev] at hx
    split at e
    · simp at e
    · next hex =>
      split at e
      · next l b m hb =>
        simp at e; obtain ⟨rfl, rfl⟩ := e
        generalize hX : A.eval X = X' at hx
        cases hx with
        | slice _ _ _ _ b' β ex ad hi' ha hlc =>
          obtain ⟨hr, h1, h2, h3, h4⟩ := run_bounds (P := P) (w := w) (isS := true) (ex := ex) hlo hhi hmx hb
          refine out_val H (v' := .slice (some (if (if (mx.map (·.ev a)).isSome then m else cap + ex) = l then ad else ad.add (l * sz))) (b - l) ((if (mx.map (·.ev a)).isSome then m else cap + ex) - l)) ?_ ?_
          · simp only [execOp, ho, hX, Instr.sliceAt, Instr.slice]
            simp only [Sem.run_bind, run_underlying ht, Result.andThen, hr, hn, Sem.run_pure]
            by_cases hq : (if (mx.map (·.ev a)).isSome then m else cap + ex) = l
            · simp only [hq, if_true]
            · simp only [hq, if_false]; rfl
          · have hm' : (if (mx.map (·.ev a)).isSome then m else cap + ex) - l = (m - l) + ex := by
              cases hmx' : mx with
              | none => simp; have := h4 (by simp [hmx']); omega
              | some _ =>
                have : exactC h i = true := by
                  cases hq : exactC h i with
                  | true => rfl
                  | false => exact absurd ⟨by simp [hmx'], hq⟩ hex
                unfold exactC at this
                split at this
                · next vs wr hget =>
                  have := (H.cells hget hi').choose_spec.choose_spec.choose_spec.choose_spec.2.2.1 rfl
                  simp; omega
                · simp at this
            rw [hm']
            refine .slice _ _ _ _ b' β ex _ hi' ?_ (by omega)
            by_cases h0 : (m - l) + ex = 0
            · exact .inr h0
            · left
              rw [if_neg (by omega)]
              obtain rfl : ad = ⟨b', β + off, none⟩ := ha.resolve_right (by omega)
              rw [add_addr]; congr 1; omega
      · simp at e
  · simp at e

theorem sim_sliceArr (H : Inv K ι h w) {t el : TypeId} {n sz : Nat} (ht : P.underlying t = some (.array n el)) (hn : (sizeOf el).run P w = .ok sz w) {X : Operand} {L U M : Option Operand} {x : CX} {lo hi mx : Option CX} (hx : VR ι (x.ev a) (A.eval X)) (hlo : OR ι (lo.map (·.ev a)) (L.map A.eval)) (hhi : OR ι (hi.map (·.ev a)) (U.map A.eval)) (hmx : OR ι (mx.map (·.ev a)) (M.map A.eval))
    {o : Oper} (ho : o.op = .slice t X L U M) {r : CRes} {h' : Heap} (e : cop (.sliceArr n sz x lo hi mx) a h = some (r, h')) : OutQ P ι h r h' (execOp A.eval o) w := by
  simp only [cop] at e
  split at e
  · next i off hev =>
    rw [hev] at hx
    split at e
    · simp at e
    · next hex =>
      split at e
      · next l b m hb =>
        simp at e; obtain ⟨rfl, rfl⟩ := e
        generalize hX : A.eval X = X' at hx
        cases hx with
        | ptr _ _ b' β ex hi' =>
          obtain ⟨hr, h1, h2, h3, h4⟩ := run_bounds (P := P) (w := w) (isS := false) (ex := 0) hlo hhi hmx hb
          have h0 : ex = 0 := by
            unfold exactC at hex
            split at hex
            · next vs wr hget => exact (H.cells hget hi').choose_spec.choose_spec.choose_spec.choose_spec.2.2.1 rfl
            · simp at hex
          subst h0
          have hm' : (if (mx.map (·.ev a)).isSome then m else n + 0) = m := by
            cases hmx' : mx with
            | none => simp; exact (h4 (by simp [hmx'])).symm
            | some _ => simp
          rw [hm'] at hr
          refine out_val H (v' := .slice (some (if m = l then ⟨b', β + off, none⟩ else (⟨b', β + off, none⟩ : Addr).add (l * sz))) (b - l) (m - l)) ?_ ?_
          · simp only [execOp, ho, hX, Instr.sliceAt]
            simp only [Sem.run_bind, run_underlying ht, Result.andThen, Instr.sureAddr, Sem.run_pure]
            simp only [Nat.add_zero] at hr
            simp only [hr, hn]
          · refine .slice i (off + l * sz) (b - l) (m - l) b' β 0 _ hi' ?_ (by omega)
            by_cases h0 : m = l
            · exact .inr (by omega)
            · left; rw [if_neg h0, add_addr]; congr 1; omega
      · simp at e
  · simp at e

def LK.fits : LK → TypeDesc → Bool
  | .str, .string | .slice, .slice _ | .map, .map .. => true
  | _, _ => false

theorem sim_len (H : Inv K ι h w) {k : LK} {t : TypeId} {d : TypeDesc} (ht : P.underlying t = some d) (hd : k.fits d = true) {X : Operand} {x : CX} (hx : VR ι (x.ev a) (A.eval X))
    {o : Oper} {args : Array Operand} {ats : Array TypeId} (ho : o.op = .call { callee := .builtin .len, args := args, argTypes := ats }) (hargs : args.toList = [X]) (hats : ats.toList = [t])
    {r : CRes} {h' : Heap} (e : cop (.len k x) a h = some (r, h')) : OutQ P ι h r h' (execOp A.eval o) w := by
  simp only [cop] at e
  obtain rfl : args = #[X] := by cases args; simp_all
  obtain rfl : ats = #[t] := by cases ats; simp_all
  generalize hX : A.eval X = X' at hx
  have key : ∀ n : Int, (Builtin.len_ #[t] o.type #[X']).run P w = .ok (.int .i64 n) w → r = .val (.int .i64 n) → h' = h → OutQ P ι h r h' (execOp A.eval o) w := by
    rintro n h1 rfl rfl
    refine out_val H (v' := .int .i64 n) ?_ (.int _ _)
    simp [execOp, ho, hX, resolve, invoke, builtin, h1, Result.andThen]
  generalize x.ev a = v at hx e
  cases hx with
  | str s =>
    cases k <;> simp at e
    cases d <;> simp [LK.fits] at hd
    obtain ⟨rfl, rfl⟩ := e
    exact key _ (by simp [Builtin.len_, run_underlying ht, goInt, Result.andThen]; try rfl) rfl rfl
  | nilSlice =>
    cases k <;> simp at e
    cases d <;> simp [LK.fits] at hd
    obtain ⟨rfl, rfl⟩ := e
    exact key 0 (by simp [Builtin.len_, run_underlying ht, goInt, Result.andThen]) rfl rfl
  | slice i off l c b β ex ad hi ha hlc =>
    cases k <;> simp at e
    cases d <;> simp [LK.fits] at hd
    obtain ⟨rfl, rfl⟩ := e
    exact key _ (by simp [Builtin.len_, run_underlying ht, goInt, Result.andThen]) rfl rfl
  | nilMap =>
    cases k <;> simp at e
    cases d <;> simp [LK.fits] at hd
    obtain ⟨rfl, rfl⟩ := e
    exact key 0 (by simp [Builtin.len_, run_underlying ht, goInt, Result.andThen]) rfl rfl
  | map i b β ex hi =>
    cases k <;> simp at e
    cases d <;> simp [LK.fits] at hd
    split at e
    · next es wr hget =>
      simp at e; obtain ⟨rfl, rfl⟩ := e
      obtain ⟨b1, e1, E, c, h1, h2, h3, h4⟩ := H.obj i _ hget
      rw [hi] at h1; simp at h1; obtain ⟨rfl, rfl, rfl⟩ := h1
      have hl : es.length = E.size := by have := h3.1.length; simpa using this
      refine key (es.length : Int) ?_ rfl rfl
      simp [Builtin.len_, run_underlying ht, goInt, Result.andThen, getObj, Sem.run, h2, hl]
    · simp at e
  | _ => cases k <;> simp at e

/-- The length of an array variable. -/
theorem sim_lenArr (H : Inv K ι h w) {t el : TypeId} {n : Nat} (ht : P.underlying t = some (.array n el)) {X : Operand} {o : Oper} {args : Array Operand} {ats : Array TypeId} (ho : o.op = .call { callee := .builtin .len, args := args, argTypes := ats }) (hargs : args.toList = [X]) (hats : ats.toList = [t])
    {r : CRes} {h' : Heap} (e : cop (.move (.c (.int .i64 n))) a h = some (r, h')) : OutQ P ι h r h' (execOp A.eval o) w := by
  simp [cop, CX.ev] at e; obtain ⟨rfl, rfl⟩ := e
  obtain rfl : args = #[X] := by cases args; simp_all
  obtain rfl : ats = #[t] := by cases ats; simp_all
  refine out_val H (v' := .int .i64 n) ?_ (.int _ _)
  simp [execOp, ho, resolve, invoke, builtin, Builtin.len_, run_underlying ht, goInt, Result.andThen]

end
end Go.Proofs.YtmppoknfekdbbaaDoor.Cm
