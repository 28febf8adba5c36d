/-
  The clean machine, part K: bytes and strings, copy, max and min, calls, ranging over a string, atomic numbers.
-/
import Derived.Test.YtmppoknfekdbbaaDoorCmXJ
import Derived.Laws.IdiomStrings
import Derived.Laws.LoneSync
namespace Go.Proofs.YtmppoknfekdbbaaDoor.Cm
open Go.RowKit

section
variable {P : Program} {K : Ctx} {ι : Emb} {h : Heap} {w : World} {a : List CVal} {A : Act}

theorem sim_bytesOf (H : Inv K ι h w) {src dst el : TypeId} (hs : P.underlying src = some .string) (hd : P.underlying dst = some (.slice el)) (he : P.underlying el = some (.int .u8)) {X : Operand} {x : CX} (hx : VR ι (x.ev a) (A.eval X))
    {o : Oper} (ho : o.op = .convert src dst X) {r : CRes} {h' : Heap} (e : cop (.bytesOf x) a h = some (r, h')) : Out P K ι r h' (execOp A.eval o) w := by
  simp only [cop] at e
  split at e
  · next s hev =>
    rw [hev] at hx
    split at e
    · next hl =>
      simp at e; obtain ⟨rfl, rfl⟩ := e
      generalize hX : A.eval X = X' at hx
      cases hx with
      | str s' =>
        have hrun := run_bytes_of_string (P := P) w src dst el s' hs hd he
        generalize hcap : grownCap w s'.size 0 el = cap at hrun
        have hcap' : s'.size ≤ cap := by rw [← hcap]; simp [grownCap, Question.cut]
        have hsz : s'.data.toList.length = s'.size := by rw [Array.length_toList]; rfl
        have hle := ι.le_put h.next (w.heap.size, 0, cap - s'.size) (H.fresh _ (Nat.le_refl _)).1
        have hbs : (bytesRow s' cap).size = cap := by
          have : s'.data.size = s'.size := rfl
          simp [bytesRow, this]; omega
        refine ⟨ι.put h.next (w.heap.size, 0, cap - s'.size), { w with heap := w.heap.push (.cells (bytesRow s' cap) el ((bytesRow s' cap).size, (bytesRow s' cap).size + 1)), drawn := w.drawn + 1 }, .value (.slice (some ⟨w.heap.size, 0, none⟩) s'.size cap), hle, ?_, ?_, ?_⟩
        · simp only [execOp, ho, hX, Sem.run_bind, hrun, Result.andThen, Sem.run_pure]
          rfl
        · refine H.new (n := w.drawn + 1) _ _ (cap - s'.size) ⟨w.heap.size, 0, cap - s'.size, bytesRow s' cap, el, (bytesRow s' cap).size, (bytesRow s' cap).size + 1, Emb.put_same _ _ _, by simp, ?_, fun h0 => by simp at h0, fun _ => ⟨fun hk => ?_, fun j hj => ?_⟩⟩
          · intro j v hv
            have hj := (List.getElem?_eq_some_iff.1 hv).1
            simp at hj
            have hj' : j < s'.data.size := hj
            rw [Nat.zero_add, bytesRow_at s' cap j hj']
            simp at hv
            obtain ⟨b, hb1, hb2⟩ := hv
            obtain ⟨_, hb3⟩ := Array.getElem?_eq_some_iff.1 hb1
            subst hb2; subst hb3
            exact ⟨rfl, _, rfl, .int _ _⟩
          · have := H.hF _ hk; have := H.keep.size; omega
          · simp only [List.length_map, hsz, Option.getD_some, Nat.mul_one] at hj
            rw [hbs]; omega
        · have := VR.slice (ι := ι.put h.next (w.heap.size, 0, cap - s'.size)) h.next 0 s'.size s'.size w.heap.size 0 (cap - s'.size) ⟨w.heap.size, 0, none⟩ (Emb.put_same _ _ _) (.inl rfl) (Nat.le_refl _)
          rw [show s'.size + (cap - s'.size) = cap from by omega] at this
          rw [hsz]; exact this
    · simp at e
  · simp at e

theorem bytesC_rel : ∀ {cs : List CVal} {cs' : List Value} {bs : List UInt8}, VRs ι cs cs' → bytesC cs = some bs → ∃ ns : List Int, cs' = ns.map (Value.int .u8) ∧ bs = ns.map fun n => UInt8.ofNat n.toNat
  | [], _, bs, .nil, e => by simp [bytesC] at e; subst e; exact ⟨[], rfl, rfl⟩
  | c :: cs, _, bs, .cons _ _ v' vs' h1 h2, e => by
    simp only [bytesC] at e
    split at e
    · next b bs' hb hbs =>
      simp at e; subst e
      obtain ⟨ns, h3, h4⟩ := bytesC_rel h2 hbs
      unfold byteC at hb
      split at hb
      · next n =>
        simp at hb; subst hb
        cases h1
        exact ⟨n :: ns, by simp [h3], by simp [h4]⟩
      · simp at hb
    · simp at e

theorem push_fold (ns : List Int) : ∀ (b : ByteArray), (ns.foldl (fun r n => r.push (UInt8.ofNat n.toNat)) b).data.toList = b.data.toList ++ ns.map fun n => UInt8.ofNat n.toNat := by
  induction ns with
  | nil => intro b; simp
  | cons n ns ih =>
    intro b
    rw [List.foldl_cons, ih]
    simp [ByteArray.push]

theorem sim_strOf (H : Inv K ι h w) {src dst el : TypeId} (hs : P.underlying src = some (.slice el)) (hd : P.underlying dst = some .string) (he : P.underlying el = some (.int .u8)) {X : Operand} {x : CX} (hx : VR ι (x.ev a) (A.eval X))
    {o : Oper} (ho : o.op = .convert src dst X) {r : CRes} {h' : Heap} (e : cop (.strOf x) a h = some (r, h')) : OutQ P ι h r h' (execOp A.eval o) w := by
  simp only [cop] at e
  have hex : ∀ v', A.eval X = v' → (∃ ad l c, v' = .slice ad l c) → (execOp A.eval o).run P w = ((Conv.bytesToString v').run P w).andThen fun v w => .ok (.value v) w := by
    rintro v' rfl ⟨ad, l, c, hX⟩
    simp only [execOp, ho, hX, convert, Sem.run_bind, run_underlying hs, run_underlying hd, run_underlying he, Result.andThen, Sem.run_pure]
  split at e
  · next hev =>
    rw [hev] at hx
    simp at e; obtain ⟨rfl, rfl⟩ := e
    generalize hX : A.eval X = X' at hx
    cases hx
    refine out_val H (v' := .string .empty) ?_ (.str ByteArray.empty)
    rw [hex _ hX ⟨_, _, _, rfl⟩]
    rfl
  · next i off l c hev =>
    rw [hev] at hx
    generalize hX : A.eval X = X' at hx
    cases hx with
    | slice _ _ _ _ b β ex ad hi ha hlc =>
      split at e
      · next h0 =>
        simp at e; obtain ⟨rfl, rfl⟩ := e
        subst h0
        refine out_val H (v' := .string .empty) ?_ (.str ByteArray.empty)
        rw [hex _ hX ⟨_, _, _, rfl⟩, run_bytesToString w ad 0 (c + ex) [] (by simp [loadCells, loadCellsFrom])]
        rfl
      · next h0 =>
        obtain rfl : ad = ⟨b, β + off, none⟩ := ha.resolve_right (by omega)
        split at e
        · next vs wr opn hget =>
          split at e
          · next bs hbs =>
            split at e
            · next hl =>
              simp at e; obtain ⟨rfl, rfl⟩ := e
              have hlen : ∀ {cs : List CVal} {bs : List UInt8}, bytesC cs = some bs → bs.length = cs.length := by
                intro cs
                induction cs with
                | nil => intro bs e; simp [bytesC] at e; subst e; rfl
                | cons c cs ih =>
                  intro bs e
                  simp only [bytesC] at e
                  split at e
                  · next b' bs' h1 h2 => simp at e; subst e; simp [ih h2]
                  · simp at e
              obtain ⟨us', hrun, R⟩ := H.loads (P := P) (n := l) hget rfl (by rw [← hlen hbs]; exact hl) hi
              obtain ⟨ns, h3, h4⟩ := bytesC_rel R hbs
              have hr : (loadCells ⟨b, β + off, none⟩ l).run P w = .ok (ns.map (Value.int .u8)).toArray w := by
                rw [← h3]; simpa using hrun w.drawn
              refine out_val H (v' := .string (ns.foldl (fun r n => r.push (UInt8.ofNat n.toNat)) ByteArray.empty)) ?_ ?_
              · rw [hex _ hX ⟨_, _, _, rfl⟩, run_bytesToString w _ l (c + ex) ns hr]
                rfl
              · have := VR.str (ι := ι) (ns.foldl (fun r n => r.push (UInt8.ofNat n.toNat)) ByteArray.empty)
                rw [push_fold] at this
                rw [h4]; simpa using this
            · simp at e
          · simp at e
        · simp at e
  · simp at e

theorem sim_copy (H : Inv K ι h w) {ats : Array TypeId} {t el : TypeId} {sz : Nat} (hat : ats[0]? = some t) (ht : P.underlying t = some (.slice el)) (hn : (sizeOf el).run P w = .ok sz w) {D S : Operand} {d s : CX} (hd : VR ι (d.ev a) (A.eval D)) (hs : VR ι (s.ev a) (A.eval S))
    {o : Oper} (ho : o.op = .call { callee := .builtin .copy, args := #[D, S], argTypes := ats }) {r : CRes} {h' : Heap} (e : cop (.copy sz d s) a h = some (r, h')) : Out P K ι r h' (execOp A.eval o) w := by
  simp only [cop] at e
  have hex : (execOp A.eval o).run P w = ((Builtin.copy_ ats o.type #[A.eval D, A.eval S]).run P w).andThen fun v w => .ok (.value v) w := by
    simp [execOp, ho, resolve, invoke, builtin, Result.andThen]
  split at e
  · next hev =>
    rw [hev] at hd
    generalize hD : A.eval D = D' at hd hex
    cases hd
    have hl : ∃ n, (Builtin.lenOf (A.eval S)).run P w = .ok n w ∧ r = .val (.int .i64 0) ∧ h' = h := by
      generalize s.ev a = u at hs e
      generalize A.eval S = S' at hs
      cases hs <;> simp at e <;> obtain ⟨rfl, rfl⟩ := e <;> exact ⟨_, rfl, rfl, rfl⟩
    obtain ⟨n, hl, rfl, rfl⟩ := hl
    have hfc : ∃ cs : Array Value, (Builtin.firstCells sz (Nat.min n 0) (A.eval S)).run P w = .ok cs w := by
      rw [show Nat.min n 0 = 0 from Nat.min_zero n]
      generalize A.eval S = S' at hl
      cases S' <;> first
        | (simp [Builtin.lenOf, stuck] at hl; done)
        | exact ⟨_, rfl⟩
        | (rename_i ad _ _; cases ad <;> exact ⟨#[], by simp [Builtin.firstCells, loadCells, loadCellsFrom]⟩)
    obtain ⟨cs, hfc⟩ := hfc
    refine OutQ.out H (out_val H (v' := .int .i64 0) ?_ (.int _ _))
    rw [hex]
    have hm : ((Nat.min n 0 : Nat) : Int) = 0 := by simp
    simp only [Builtin.copy_, hat, List.getElem?_toArray, List.getElem?_cons_zero, List.getElem?_cons_succ, Sem.run_bind, run_underlying ht, Result.andThen, hl, hn, hfc, Sem.run_pure, goInt, hm]
  · next i off l c hev =>
    rw [hev] at hd
    split at e
    · next n cs hsrc =>
      obtain ⟨hl, hlen, hcells⟩ := run_src (P := P) H hs hsrc
      generalize hD : A.eval D = D' at hd hex
      cases hd with
      | slice _ _ _ _ b β ex ad hi ha hlc =>
        obtain ⟨cs', hcs, R⟩ := hcells (min n l) (Nat.min_le_left _ _)
        have hcs : (Builtin.firstCells sz (Nat.min n l) (A.eval S)).run P w = .ok cs' w := hcs w.drawn
        have hex2 : ∀ w', (storeCells ad cs'.toList).run P w = .ok () w' → (execOp A.eval o).run P w = .ok (.value (.int .i64 (min n l : Nat))) w' := by
          intro w' hst
          rw [hex]
          simp only [Builtin.copy_, hat, List.getElem?_toArray, List.getElem?_cons_zero, List.getElem?_cons_succ, Sem.run_bind, run_underlying ht, Result.andThen, hl, hn, hcs, hst, Sem.run_pure, goInt]
        split at e
        · next h0 =>
          simp at e; obtain ⟨rfl, rfl⟩ := e
          have h0' : cs'.toList = [] := by
            have := R.length
            rw [h0] at this; simp at this
            simpa using this.symm
          refine OutQ.out H (out_val H (v' := .int .i64 0) ?_ (.int _ _))
          have := hex2 w (by rw [h0']; rfl)
          rw [h0] at this; exact this
        · next h0 =>
          obtain rfl : ad = ⟨b, β + off, none⟩ := ha.resolve_right (by omega)
          split at e
          · next vs opn hget =>
            split at e
            · next hc =>
              obtain ⟨hc, hone⟩ := hc
              simp at e; obtain ⟨rfl, rfl⟩ := e
              have hmn : min n l * sz ≤ l * sz := Nat.mul_le_mul_right _ (Nat.min_le_right _ _)
              have hmn2 : min n l * sz ≤ n * sz := Nat.mul_le_mul_right _ (Nat.min_le_left _ _)
              obtain ⟨w', hst, H'⟩ := Inv.stores (P := P) (opn := opn) hi (cs.take (min n l * sz)) cs'.toList vs off 0 h w H hget (by rw [List.length_take, hlen]; omega) R (fun u hu => List.all_eq_true.1 hone u (List.mem_of_mem_take hu))
              exact ⟨ι, w', .value _, Emb.le.refl _, hex2 w' hst, by simpa using H', .int _ _⟩
            · simp at e
          · simp at e
    · simp at e
  · simp at e

theorem max2_sim {isMax : Bool} {u v : CVal} {u' v' : Value} (hu : VR ι u u') (hv : VR ι v v') {x : CVal} (e : maxC isMax u v = some x) : ∃ x', (if isMax then Builtin.max2 u' v' else Builtin.min2 u' v').run P w = .ok x' w ∧ VR ι x x' := by
  cases hu <;> cases hv <;> simp [maxC] at e
  obtain ⟨rfl, rfl⟩ := e
  cases isMax
  · exact ⟨_, by simp only [Bool.false_eq_true, if_false, Builtin.min2]; rfl, by first | exact .int _ _ | (simp; exact .int _ _)⟩
  · exact ⟨_, by simp only [if_true, Builtin.max2]; rfl, by first | exact .int _ _ | (simp; exact .int _ _)⟩

theorem fold_sim {isMax : Bool} : ∀ {us : List CVal} {us' : List Value} {u : CVal} {u' : Value}, VR ι u u' → VRs ι us us' → ∀ x, foldC isMax u us = some x → ∃ x', (us'.foldlM (fun p q => if isMax then Builtin.max2 p q else Builtin.min2 p q) u').run P w = .ok x' w ∧ VR ι x x'
  | [], _, u, u', hu, .nil, x, e => by simp [foldC] at e; subst e; exact ⟨u', rfl, hu⟩
  | v :: us, _, u, u', hu, .cons _ _ v' us' h1 h2, x, e => by
    simp only [foldC] at e
    split at e
    · next y hy =>
      obtain ⟨y', g1, g2⟩ := max2_sim (P := P) (w := w) hu h1 hy
      obtain ⟨x', g3, g4⟩ := fold_sim g2 h2 x e
      refine ⟨x', ?_, g4⟩
      simp only [List.foldlM_cons, Sem.run_bind, g1, Result.andThen]
      exact g3
    · simp at e

theorem sim_maxmin (H : Inv K ι h w) {isMax : Bool} {X : Operand} {Xs : List Operand} {x : CX} {xs : List CX} (hx : VR ι (x.ev a) (A.eval X)) (hxs : VRs ι (xs.map (·.ev a)) (Xs.map A.eval)) {ats : Array TypeId} {args : Array Operand} (hargs : args.toList = X :: Xs)
    {o : Oper} (ho : o.op = .call { callee := .builtin (if isMax then .max else .min), args := args, argTypes := ats }) {r : CRes} {h' : Heap} (e : cop (.maxmin isMax x xs) a h = some (r, h')) : OutQ P ι h r h' (execOp A.eval o) w := by
  simp only [cop] at e
  split at e
  · next v hv =>
    simp at e; obtain ⟨rfl, rfl⟩ := e
    obtain ⟨v', h1, h2⟩ := fold_sim (P := P) (w := w) hx hxs v hv
    refine out_val H (v' := v') ?_ h2
    have hl : (args.map A.eval).toList = A.eval X :: Xs.map A.eval := by simp [hargs]
    cases isMax
    · simp only [Bool.false_eq_true, if_false] at h1 ho
      simp only [execOp, ho, resolve, invoke, builtin, Builtin.min_, Sem.run_bind, Sem.run_pure, Result.andThen, hl, h1]
    · simp only [if_true] at h1 ho
      simp only [execOp, ho, resolve, invoke, builtin, Builtin.max_, Sem.run_bind, Sem.run_pure, Result.andThen, hl, h1]
  · simp at e

/-- A call of a function that has a body. -/
theorem sim_call (H : Inv K ι h w) {F : Operand} {Xs : Array Operand} {f : CX} {xs : List CX} (hf : VR ι (f.ev a) (A.eval F)) (hxs : VRs ι (xs.map (·.ev a)) (Xs.toList.map A.eval)) {ats : Array TypeId}
    {o : Oper} (ho : o.op = .call { callee := .value F, args := Xs, argTypes := ats }) {r : CRes} {h' : Heap} (e : cop (.call f xs) a h = some (r, h')) (hbody : ∀ g args, r = .enter g args → ∃ fn, P.funcs[g]? = some fn ∧ fn.body.isSome = true ∧ (fn.name == "runtime.NumGoroutine") = false) : Out P K ι r h' (execOp A.eval o) w := by
  simp only [cop] at e
  split at e
  · next g first cap hev =>
    simp only [Option.some.injEq, Prod.mk.injEq] at e; obtain ⟨rfl, rfl⟩ := e
    obtain ⟨fn, h1, h2, h3⟩ := hbody g _ rfl
    rw [hev] at hf
    generalize hF : A.eval F = F' at hf
    cases hf with
    | func _ _ _ first' cap' R1 R2 =>
      refine ⟨ι, w, .enter g (first' ++ Xs.map A.eval ++ cap'), Emb.le.refl _, ?_, H, rfl, ?_⟩
      · have hb : fn.body.isNone = false := by cases hq : fn.body <;> simp [hq] at h2 ⊢
        have h3' : fn.name ≠ "runtime.NumGoroutine" := by simpa using h3
        simp only [execOp, ho, resolve, hF, Deferred.ofValue, Sem.run_bind, Sem.run_pure, Result.andThen, invoke]
        have hb2 : fn.body ≠ none := by intro hq; rw [hq] at hb; simp at hb
        simp [callFunc, h1, h3', hb2]
      · rw [Array.toList_append, Array.toList_append, Array.toList_map]
        exact (R1.append hxs).append R2
  · simp at e

theorem sim_defer (H : Inv K ι h w) {F : Operand} {Xs : Array Operand} {f : CX} {xs : List CX} (hf : VR ι (f.ev a) (A.eval F)) (hxs : VRs ι (xs.map (·.ev a)) (Xs.toList.map A.eval)) {ats : Array TypeId}
    {o : Oper} (ho : o.op = .defer { callee := .value F, args := Xs, argTypes := ats }) {r : CRes} {h' : Heap} (e : cop (.defer f xs) a h = some (r, h')) : Out P K ι r h' (execOp A.eval o) w := by
  simp only [cop] at e
  split at e
  · next g first cap hev =>
    simp only [Option.some.injEq, Prod.mk.injEq] at e; obtain ⟨rfl, rfl⟩ := e
    rw [hev] at hf
    generalize hF : A.eval F = F' at hf
    cases hf with
    | func _ _ _ first' cap' R1 R2 =>
      refine ⟨ι, w, .defer { target := .fn (.func g) cap', args := first' ++ Xs.map A.eval }, Emb.le.refl _, ?_, H, cap', rfl, ?_⟩
      · simp only [execOp, ho, resolve, hF, Deferred.ofValue, Sem.run_bind, Sem.run_pure, Result.andThen]
      · rw [Array.toList_append, Array.toList_append, Array.toList_map]
        exact (R1.append hxs).append R2
  · simp at e

theorem sim_rangeStr (H : Inv K ι h w) {t : TypeId} (ht : P.underlying t = some .string) {X : Operand} {x : CX} (hx : VR ι (x.ev a) (A.eval X)) {o : Oper} (ho : o.op = .range t X)
    {r : CRes} {h' : Heap} (e : cop (.rangeStr x) a h = some (r, h')) : Out P K ι r h' (execOp A.eval o) w := by
  simp only [cop] at e
  split at e
  · next s hev =>
    simp at e; obtain ⟨rfl, rfl⟩ := e
    rw [hev] at hx
    generalize hX : A.eval X = X' at hx
    cases hx with
    | str s' =>
      have hle := ι.le_put h.next (w.heap.size, 0, 0) (H.fresh _ (Nat.le_refl _)).1
      refine ⟨ι.put h.next (w.heap.size, 0, 0), { w with heap := w.heap.push (.stringIter s' 0) }, .value (.pointer (some ⟨w.heap.size, 0, none⟩)), hle, ?_, ?_, .ptr _ 0 w.heap.size 0 0 (Emb.put_same _ _ _)⟩
      · simp only [execOp, ho, hX, Instr.range, Sem.run_bind, run_underlying ht, Result.andThen, Sem.run_pure, newObj, Sem.run]
      · refine H.new (n := w.drawn) (.iter s'.data.toList 0) (.stringIter s' 0) 0 ⟨w.heap.size, 0, s', Emb.put_same _ _ _, by simp, rfl, fun hk => ?_⟩
        have := H.hF _ hk; have := H.keep.size; omega
  · simp at e

theorem sim_nextStr (H : Inv K ι h w) {X : Operand} {x : CX} (hx : VR ι (x.ev a) (A.eval X)) {o : Oper} (ho : o.op = .next X true)
    {r : CRes} {h' : Heap} (e : cop (.nextStr x) a h = some (r, h')) : Out P K ι r h' (execOp A.eval o) w := by
  simp only [cop] at e
  split at e
  · next i hev =>
    rw [hev] at hx
    split at e
    · next s pos hget =>
      obtain ⟨b, ex, s', h1, h2, h3, h4⟩ := H.obj i _ hget
      generalize hX : A.eval X = X' at hx
      cases hx with
      | ptr _ _ b' β ex' hi =>
        rw [hi] at h1; simp at h1; obtain ⟨rfl, rfl, rfl⟩ := h1
        have hlt := (Array.getElem?_eq_some_iff.1 h2).1
        have hsz : s.length = s'.size := by rw [← h3, Array.length_toList]; rfl
        have hs' : (⟨s.toArray⟩ : ByteArray) = s' := by rw [← h3]
        split at e
        · next hp =>
          simp only [Option.some.injEq, Prod.mk.injEq] at e; obtain ⟨rfl, rfl⟩ := e
          rw [hs']
          refine ⟨ι, { w with heap := w.heap.setIfInBounds b' (.stringIter s' (pos + (Utf8.decode s' pos).2)) }, .value (.tuple #[.bool true, .int .i64 pos, .int .i32 (Utf8.decode s' pos).1]), Emb.le.refl _, ?_, ?_, .tuple _ _ (.cons _ _ _ _ (.bool _) (.cons _ _ _ _ (.int _ _) (.cons _ _ _ _ (.int _ _) .nil)))⟩
          · simp only [execOp, ho, hX, Instr.next, Sem.run_bind, getObj, Sem.run, h2, Result.andThen]
            rw [if_pos (by omega)]
            simp only [Sem.run_bind, setObj, Sem.run, h2, Result.andThen, Sem.run_pure, goInt]
          · refine H.turn (o' := .iter s (pos + (Utf8.decode s' pos).2)) hget rfl hi _ rfl rfl rfl (by simp) (fun k hk => by simp [Array.getElem?_setIfInBounds_ne (Ne.symm hk)]) ⟨b', ex', s', hi, by simp [hlt], h3, h4⟩
        · next hp =>
          simp at e; obtain ⟨rfl, rfl⟩ := e
          refine OutQ.out H (out_val H (v' := .tuple #[.bool false]) ?_ (.tuple _ _ (.cons _ _ _ _ (.bool _) .nil)))
          simp only [execOp, ho, hX, Instr.next, Sem.run_bind, getObj, Sem.run, h2, Result.andThen]
          rw [if_neg (by omega)]
          rfl
    · simp at e
  · simp at e

end
end Go.Proofs.YtmppoknfekdbbaaDoor.Cm
