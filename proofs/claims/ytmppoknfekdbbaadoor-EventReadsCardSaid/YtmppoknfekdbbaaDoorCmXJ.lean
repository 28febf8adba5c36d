/-
  The clean machine, part J: append, copy, bytes and strings, calls.
-/
import Derived.Test.YtmppoknfekdbbaaDoorCmXI
namespace Go.Proofs.YtmppoknfekdbbaaDoor.Cm
open Go.RowKit

section
variable {P : Program} {K : Ctx} {ι : Emb} {h : Heap} {w : World} {a : List CVal} {A : Act}

theorem bytes_rel (s : List UInt8) : VRs ι (s.map fun b => CVal.int .u8 b.toNat) (s.map fun b => Value.int .u8 b.toNat) := VRs.map_of _ _ s fun _ _ => .int _ _

/-- What is appended or copied. -/
theorem run_src (H : Inv K ι h w) {sz n : Nat} {v : CVal} {v' : Value} (hv : VR ι v v') {cs : List CVal} (e : srcC h sz v = some (n, cs)) :
    (Builtin.lenOf v').run P w = .ok n w ∧ cs.length = n * sz ∧ ∀ m, m ≤ n → ∃ cs' : Array Value, (∀ d, (Builtin.firstCells sz m v').run P { w with drawn := d } = .ok cs' { w with drawn := d }) ∧ VRs ι (cs.take (m * sz)) cs'.toList := by
  cases hv <;> simp only [srcC, reduceCtorEq] at e
  · rename_i s
    split at e
    · next h1 =>
      simp only [Option.some.injEq, Prod.mk.injEq] at e
      obtain ⟨rfl, rfl⟩ := e
      have hsz : s.data.toList.length = s.size := by rw [Array.length_toList]; rfl
      refine ⟨by rw [hsz]; rfl, by rw [h1]; simp, fun m hm => ⟨((s.extract 0 m).data.map fun b => .int .u8 b.toNat), fun d => rfl, ?_⟩⟩
      have := bytes_rel (ι := ι) ((s.data.toList).take m)
      rw [Array.toList_map, extract_toList, h1]
      simpa [List.map_take] using this
    · simp at e
  · simp at e
    obtain ⟨rfl, rfl⟩ := e
    refine ⟨by simp [Builtin.lenOf], by simp, fun m hm => ⟨#[], fun d => by simp [Builtin.firstCells], by simp; exact .nil⟩⟩
  · rename_i j p l c b β ex ad hi ha hlc
    by_cases h0 : l = 0
    · simp [h0] at e
      obtain ⟨rfl, rfl⟩ := e
      subst h0
      refine ⟨by simp [Builtin.lenOf], by simp, fun m hm => ⟨#[], fun d => ?_, by simp; exact .nil⟩⟩
      obtain rfl : m = 0 := by omega
      simp [Builtin.firstCells, loadCells, loadCellsFrom]
    · simp only [h0, if_false] at e
      obtain rfl : ad = ⟨b, β + p, none⟩ := ha.resolve_right (by omega)
      split at e
      · next us wr opn hget =>
        split at e
        · next hl =>
          simp only [Option.some.injEq, Prod.mk.injEq] at e
          obtain ⟨rfl, rfl⟩ := e
          refine ⟨by simp [Builtin.lenOf], hl, fun m hm => ?_⟩
          have hm' : m * sz ≤ l * sz := Nat.mul_le_mul_right _ hm
          obtain ⟨us', hr, R⟩ := H.loads (P := P) (n := m * sz) (us := ((us.drop p).take (l * sz)).take (m * sz)) hget (by rw [List.take_take, Nat.min_eq_left hm']) (by rw [List.length_take, hl]; omega) hi
          exact ⟨us', hr, R⟩
        · simp at e
      · simp at e

theorem growBy_le (n : Nat) : ∀ (k c : Nat), c < n → Builtin.growBy n k c ≤ 2 * n + 200
  | 0, c, h => by simp [Builtin.growBy]; omega
  | k + 1, c, h => by
    simp only [Builtin.growBy]
    rw [if_neg (by omega)]
    by_cases h1 : c + (c + 768) / 4 < n
    · exact growBy_le n k _ h1
    · cases k with
      | zero => simp [Builtin.growBy]; omega
      | succ k =>
        simp only [Builtin.growBy]
        rw [if_pos (by omega)]
        omega

theorem nextslicecap_le {n c : Nat} (h : c < n) : Builtin.nextslicecap n c ≤ 2 * n + 200 := by
  unfold Builtin.nextslicecap
  split
  · omega
  · split
    · omega
    · exact growBy_le n 4 c h

/-- What must be known of the types at an append. -/
structure AppOk (P : Program) (ats : Array TypeId) (el : TypeId) (i : TypeInfo) (zv : Value) : Prop where
  t0 : ∃ t, ats[0]? = some t ∧ P.underlying t = some (.slice el)
  t1 : ∃ x d, ats[1]? = some x ∧ P.underlying x = some d ∧ (match d with | .int _ => true | _ => false) = false
  info : P.info? el = some i
  zero : i.zero = some zv
  size : zv.cells.size = i.size
  bytes : 0 < i.bytes ∧ i.bytes ≤ 1048576

theorem run_append_room' {ats : Array TypeId} {el : TypeId} {i : TypeInfo} {zv : Value} (T : AppOk P ats el i zv) (ty : TypeId) {base : Option Addr} {sLen sCap n : Nat} {x : Value} (hl : (Builtin.lenOf x).run P w = .ok n w) {news : Array Value} (hn : (Builtin.firstCells i.size n x).run P w = .ok news w)
    (hroom : sLen + n ≤ sCap) {w' : World} (hs : (match base with | some a => storeCells (a.add (sLen * i.size)) news.toList | none => pure () : Sem Unit).run P w = .ok () w') :
    (Builtin.append_ ats ty #[.slice base sLen sCap, x]).run P w = .ok (.slice base (sLen + n) sCap) w' := by
  obtain ⟨t, h0, h1⟩ := T.t0
  obtain ⟨t2, d2, h2, h3, h4⟩ := T.t1
  have hsz : (sizeOf el).run P w = .ok i.size w := by simp [sizeOf, typeInfo, T.info]
  cases d2 <;> first | (simp at h4; done) | skip
  all_goals
   simp only [Builtin.append_, h0, h2, List.getElem?_toArray, List.getElem?_cons_zero, List.getElem?_cons_succ, Sem.run_bind, run_underlying h1, run_underlying h3, Result.andThen, hsz, Sem.run_pure, Bool.false_eq_true, if_false, hl, Bool.not_false, if_true, hn, hroom]
   cases base with
   | none => simp at hs; subst hs; rfl
   | some ad => simp only at hs; simp only [Sem.run_bind, hs, Result.andThen, Sem.run_pure]

theorem run_append_grow' {ats : Array TypeId} {el : TypeId} {i : TypeInfo} {zv : Value} (T : AppOk P ats el i zv) (ty : TypeId) {base : Option Addr} {sLen sCap n : Nat} {x : Value} (hl : (Builtin.lenOf x).run P w = .ok n w) {news olds : Array Value} (hn : (Builtin.firstCells i.size n x).run P { w with drawn := w.drawn + 1 } = .ok news { w with drawn := w.drawn + 1 })
    (ho : (Builtin.firstCells i.size sLen (.slice base sLen sCap)).run P { w with drawn := w.drawn + 1 } = .ok olds { w with drawn := w.drawn + 1 }) (hgrow : sCap < sLen + n) (hfit : (sLen + n) * i.bytes ≤ 1099511627776) :
    ∃ newCap rest, sLen + n ≤ newCap ∧ rest.size = (newCap - (sLen + n)) * i.size ∧ (Builtin.append_ ats ty #[.slice base sLen sCap, x]).run P w = .ok (.slice (some ⟨w.heap.size, 0, none⟩) (sLen + n) newCap) { w with heap := w.heap.push (.cells (olds ++ news ++ rest) el), drawn := w.drawn + 1 } := by
  obtain ⟨t, h0, h1⟩ := T.t0
  obtain ⟨t2, d2, h2, h3, h4⟩ := T.t1
  have hsz : ∀ w, (sizeOf el).run P w = .ok i.size w := fun w => by simp [sizeOf, typeInfo, T.info]
  have hti : ∀ w, (typeInfo el).run P w = .ok i w := fun w => by simp [typeInfo, T.info]
  have hzv : ∀ w, (zeroValue el).run P w = .ok zv w := fun w => by simp [zeroValue, typeInfo, T.info, T.zero]
  have hb1 := T.bytes.1
  have hb2 := T.bytes.2
  have hneed : sLen + n ≤ 1099511627776 := Nat.le_trans (Nat.le_mul_of_pos_right _ hb1) hfit
  have hcap : Builtin.nextslicecap (sLen + n) sCap * i.bytes ≤ 281474976710656 := by
    have h2 := Nat.mul_le_mul_right i.bytes (nextslicecap_le hgrow)
    rw [Nat.add_mul, Nat.mul_assoc] at h2
    have : 200 * i.bytes ≤ 209715200 := by omega
    omega
  have hmax : IntKind.i64.max = 9223372036854775807 := by decide
  have c1 : ¬ (((sLen + n : Nat) : Int) > IntKind.i64.max ∧ (false = true ∨ i.bytes = 0)) := by rw [hmax]; omega
  have c2 : ¬ Builtin.nextslicecap (sLen + n) sCap * i.bytes > 2 ^ 48 := by omega
  refine ⟨(Question.appendCap (sLen + n) sCap el).cut (w.tape w.drawn (.appendCap (sLen + n) sCap el)), Builtin.zeroCells zv.cells ((Question.appendCap (sLen + n) sCap el).cut (w.tape w.drawn (.appendCap (sLen + n) sCap el)) - (sLen + n)), by simp [Question.cut], by simp [Builtin.zeroCells, T.size], ?_⟩
  have hask : ∀ (b : Nat) (w : World), (askRoom b).run P w = .ok () w := fun b w => by
    unfold askRoom
    split <;> simp [mark, Sem.run]
  cases d2 <;> first | (simp at h4; done) | skip
  all_goals
   simp only [Builtin.append_, h0, h2, List.getElem?_toArray, List.getElem?_cons_zero, List.getElem?_cons_succ, Sem.run_bind, run_underlying h1, run_underlying h3, Result.andThen, hsz, Sem.run_pure, Bool.false_eq_true, if_false, hl, Bool.not_false, if_true]
   rw [if_neg (by omega)]
   simp only [Sem.run_bind, hti, Result.andThen]
   rw [if_neg (by simpa using c1)]
   simp only [Sem.run_bind, hti, Result.andThen]
   rw [if_neg c2]
   simp only [Sem.run_bind, choose, Sem.run, Question.forced, Bool.false_eq_true, if_false, Result.andThen, hti, hask, ho, hn, hzv, Go.newRow, newObj, Sem.run_pure]

theorem firstCells_slice {ad : Addr} {l c : Nat} (sz n : Nat) : Builtin.firstCells sz n (.slice (some ad) l c) = loadCells ad (n * sz) := rfl

/-- A row made by an append: a new block, possibly longer than what is known of it. -/
theorem Inv.grown (H : Inv K ι h w) {cs : List CVal} {cs' rest : Array Value} {el : TypeId} (R : VRs ι cs cs'.toList) (h1 : cs.all CVal.one = true) {sz ex : Nat} (hr : rest.size = ex * sz) :
    Inv K (ι.put h.next (w.heap.size, 0, ex)) (h.new (.cells cs true (some sz))) { w with heap := w.heap.push (.cells (cs' ++ rest) el), drawn := w.drawn + 1 } := by
  have hle := ι.le_put h.next (w.heap.size, 0, ex) (H.fresh _ (Nat.le_refl _)).1
  have hlen := R.length
  simp at hlen
  refine H.new (n := w.drawn + 1) (.cells cs true (some sz)) (.cells (cs' ++ rest) el) ex ?_
  refine ⟨w.heap.size, 0, ex, cs' ++ rest, el, 0, 0, Emb.put_same _ _ _, by simp, ?_, fun h0 => (by simp at h0), fun _ => ⟨fun hk => ?_, fun j hj => ?_⟩⟩
  · intro j v hv
    obtain ⟨v', h2, h3⟩ := R.get j v hv
    refine ⟨List.all_eq_true.1 h1 v (List.mem_of_getElem? hv), v', ?_, h3.mono hle⟩
    have h4 : cs'[j]? = some v' := by simpa using h2
    have hlt := (Array.getElem?_eq_some_iff.1 h4).1
    rw [Nat.zero_add, Array.getElem?_append_left hlt]; exact h4
  · have := H.hF _ hk; have := H.keep.size; omega
  · simp at hj
    exact ⟨by simp; omega, by omega⟩

/-- A row of cells written, as the block sees it. -/
theorem run_storeCells_arr {P : Program} {b o lo hi : Nat} {el : TypeId} : ∀ (us : List Value) (k : Nat) (C : Array Value) (w : World), w.heap[b]? = some (.cells C el (lo, hi)) → (∀ j, j < us.length → o + k + j < C.size ∧ ¬ (lo ≤ o + k + j ∧ o + k + j < hi)) → (∀ u ∈ us, oneV u = true) →
    ∃ C' w', (storeCells ⟨b, o, none⟩ us k).run P w = .ok () w' ∧ w'.heap[b]? = some (.cells C' el (lo, hi)) ∧ C'.size = C.size ∧ (∀ (j : Nat) (u : Value), us[j]? = some u → C'[o + k + j]? = some u) ∧ (∀ p, (p < o + k ∨ o + k + us.length ≤ p) → C'[p]? = C[p]?) ∧
      (∀ q, q ≠ b → w'.heap[q]? = w.heap[q]?) ∧ w'.heap.size = w.heap.size ∧ w'.os = w.os ∧ w'.tape = w.tape ∧ w'.output = w.output
  | [], k, C, w, hb, _, _ => ⟨C, w, rfl, hb, rfl, fun j u h => by simp at h, fun _ _ => rfl, fun _ _ => rfl, rfl, rfl, rfl, rfl⟩
  | u :: us, k, C, w, hb, hin, h1 => by
    obtain ⟨hlt, hfz⟩ := hin 0 (by simp)
    simp only [Nat.add_zero] at hlt hfz
    have h2 : w.cell? ⟨b, o + k, none⟩ = some C[o + k] := (cell?_of w hb).trans (by simp [hlt])
    have h3 : w.frozen? ⟨b, o + k, none⟩ = false := by
      simp only [World.frozen?, hb, Bool.and_eq_false_iff, decide_eq_false_iff_not]
      omega
    have hst : (Go.store ⟨b, o + k, none⟩ u).run P w = .ok () (w.setCell ⟨b, o + k, none⟩ u) := by
      have h4 := h1 u (by simp)
      cases u <;> first | (simp [oneV] at h4; done) | simp [Go.store, Sem.run, h2, h3]
    have hb' : (w.setCell ⟨b, o + k, none⟩ u).heap[b]? = some (.cells (C.setIfInBounds (o + k) u) el (lo, hi)) := by
      simp [World.setCell, Array.getElem?_modify, hb]
    obtain ⟨C', w', g1, g2, g3, g4, g5, g6, g7, g8, g9, g10⟩ := run_storeCells_arr (P := P) us (k + 1) (C.setIfInBounds (o + k) u) _ hb' (fun j hj => by
      have := hin (j + 1) (by simp; omega)
      simp only [Array.size_setIfInBounds]
      rw [show o + (k + 1) + j = o + k + (j + 1) from by omega]; exact this) (fun x hx => h1 x (by simp [hx]))
    refine ⟨C', w', ?_, g2, by simpa using g3, ?_, ?_, ?_, by simpa [World.setCell] using g7, g8, g9, g10⟩
    · simp only [storeCells, Sem.run_bind, add_addr, hst, Result.andThen, g1]
    · intro j x hx
      cases j with
      | zero =>
        simp at hx; subst hx
        rw [Nat.add_zero, g5 (o + k) (.inl (by omega))]
        simp [hlt]
      | succ j =>
        have := g4 j x (by simpa using hx)
        rw [show o + k + (j + 1) = o + (k + 1) + j from by omega]; exact this
    · intro p hp
      simp only [List.length_cons] at hp
      rw [g5 p (by omega), Array.getElem?_setIfInBounds_ne (by omega)]
    · intro q hq
      rw [g6 q hq]
      simp [World.setCell, Array.getElem?_modify, Ne.symm hq]

/-- A row goes on in its own block, under a new id; the old id is not to be used any more. -/
theorem Inv.moveOn (H : Inv K ι h w) {i : Nat} {o o' : CObj} (hi : h.get i = some o) (hw : o.wr = true) {b β e : Nat} (hb : ι i = some (b, β, e)) (β' e' : Nat) (w' : World)
    (hos : w'.os = w.os) (ht : w'.tape = w.tape) (hout : w'.output = w.output) (hsz : w'.heap.size = w.heap.size)
    (hblk : ∀ k, k ≠ b → w'.heap[k]? = w.heap[k]?) (ho : ObjR (ι.put h.next (b, β', e')) w' K.F h.next o') : Inv K (ι.put h.next (b, β', e')) ((h.kill i).new o') w' := by
  have hB : ¬ K.F b := by
    obtain ⟨b1, β1, e1, h1, _, h2⟩ := (H.obj i o hi).blk
    rw [hb] at h1; simp at h1; obtain ⟨rfl, _, _⟩ := h1; exact h2 hw
  have hfr := (H.fresh h.next (Nat.le_refl _)).1
  have hle := ι.le_put h.next (b, β', e') hfr
  have hget : ∀ j oj, ((h.kill i).new o').get j = some oj → (j = h.next ∧ oj = o') ∨ (j ≠ h.next ∧ j ≠ i ∧ h.get j = some oj) := by
    intro j oj hj
    rw [Heap.get_new, Heap.next_kill] at hj
    by_cases e1 : j = h.next
    · rw [if_pos e1] at hj; simp at hj; exact .inl ⟨e1, hj.symm⟩
    · rw [if_neg e1, Heap.get_kill] at hj
      by_cases e2 : j = i
      · simp [e2] at hj
      · rw [if_neg e2] at hj; exact .inr ⟨e1, e2, hj⟩
  have hni : i ≠ h.next := fun e1 => by rw [e1, (H.fresh h.next (Nat.le_refl _)).2] at hi; simp at hi
  have hoth : ∀ j oj b1 β1 e1, j ≠ i → h.get j = some oj → ι j = some (b1, β1, e1) → b1 ≠ b := fun j oj b1 β1 e1 hj hgj hbj e2 =>
    H.excl i j o oj b β e b1 β1 e1 (Ne.symm hj) hi hgj hw hb hbj e2.symm
  refine ⟨H.hF, ⟨hos.trans H.keep.os, ht.trans H.keep.tape, hout.trans H.keep.output, by rw [hsz]; exact H.keep.size, fun k hk => by rw [hblk k (fun e1 => hB (e1 ▸ hk))]; exact H.keep.block k hk⟩, fun g hg => hle _ _ (H.glob g hg), ?_, ?_, ?_, ?_, H.hG, ?_, fun j hj => ?_, fun j hj => ?_⟩
  · intro j oj hj
    rcases hget j oj hj with ⟨rfl, rfl⟩ | ⟨h1, h2, h3⟩
    · exact ho
    · exact (H.obj j oj h3).mono hle fun b1 β1 e1 hb1 => hblk b1 (hoth j oj b1 β1 e1 h2 h3 hb1)
  · intro j k oj ok b1 β1 e1 b2 β2 e2 hne hj hk hwj hb1 hb2
    rcases hget j oj hj with ⟨rfl, rfl⟩ | ⟨h1, h2, h3⟩
    · rcases hget k ok hk with ⟨rfl, rfl⟩ | ⟨k1, k2, k3⟩
      · exact absurd rfl hne
      · rw [Emb.put_same] at hb1; simp at hb1
        rw [Emb.put_ne _ _ _ _ k1] at hb2
        rw [← hb1.1]; exact Ne.symm (hoth k ok b2 β2 e2 k2 k3 hb2)
    · rw [Emb.put_ne _ _ _ _ h1] at hb1
      rcases hget k ok hk with ⟨rfl, rfl⟩ | ⟨k1, k2, k3⟩
      · rw [Emb.put_same] at hb2; simp at hb2
        rw [← hb2.1]; exact hoth j oj b1 β1 e1 h2 h3 hb1
      · rw [Emb.put_ne _ _ _ _ k1] at hb2
        exact H.excl j k oj ok b1 β1 e1 b2 β2 e2 hne h3 k3 hwj hb1 hb2
  · intro j hj
    simp at hj
    rw [Emb.put_ne _ _ _ _ (by omega), Heap.get_new_ne _ _ _ (by simp; omega), Heap.get_kill]
    have := H.fresh j (by omega)
    exact ⟨this.1, by rw [this.2]; simp⟩
  · intro j b1 β1 e1 hb1
    rw [hsz]
    by_cases e2 : j = h.next
    · subst e2; rw [Emb.put_same] at hb1; simp at hb1; rw [← hb1.1]; exact H.inb _ _ _ _ hb
    · rw [Emb.put_ne _ _ _ _ e2] at hb1; exact H.inb _ _ _ _ hb1
  · intro j oj b1 β1 e1 hj hb1
    rcases hget j oj hj with ⟨rfl, rfl⟩ | ⟨h1, h2, h3⟩
    · rw [Emb.put_same] at hb1; simp at hb1
      rw [← hb1.1]; exact H.hid i o b β e hi hb
    · rw [Emb.put_ne _ _ _ _ h1] at hb1
      exact H.hid j oj b1 β1 e1 h3 hb1
  · obtain ⟨h1, h2⟩ := H.nev j hj
    refine ⟨by simp; omega, ?_⟩
    rw [Heap.get_new_ne _ _ _ (by simp; omega), Heap.get_kill, h2]; simp
  · obtain ⟨h1, h2⟩ := H.nul j hj
    exact ⟨by simp; omega, by rw [Emb.put_ne _ _ _ _ (by omega)]; exact h2⟩

/-- The same, where the old row is not to be used any more. -/
theorem sim_append (H : Inv K ι h w) {ats : Array TypeId} {el : TypeId} {i : TypeInfo} {zv : Value} (T : AppOk P ats el i zv) {S X : Operand} {s x : CX} (hs : VR ι (s.ev a) (A.eval S)) (hx : VR ι (x.ev a) (A.eval X))
    {o : Oper} (ho : o.op = .call { callee := .builtin .append, args := #[S, X], argTypes := ats }) {r : CRes} {h' : Heap} (e : cop (.append i.size i.bytes s x) a h = some (r, h')) : Out P K ι r h' (execOp A.eval o) w := by
  simp only [cop] at e
  have hex : (execOp A.eval o).run P w = ((Builtin.append_ ats o.type #[A.eval S, A.eval X]).run P w).andThen fun v w => .ok (.value v) w := by
    simp [execOp, ho, resolve, invoke, builtin, Result.andThen]
  split at e
  · next v h1' happ =>
    simp at e; obtain ⟨rfl, rfl⟩ := e
    unfold appendC at happ
    split at happ
    · simp at happ
    · next n new hsrc =>
      split at happ
      · next hone =>
        obtain ⟨hl, hnewlen, hcells⟩ := run_src (P := P) H hx hsrc
        obtain ⟨news, hnewsd, Rn'⟩ := hcells n (Nat.le_refl _)
        have hnews : (Builtin.firstCells i.size n (A.eval X)).run P w = .ok news w := hnewsd w.drawn
        have Rn : VRs ι new news.toList := by rw [List.take_of_length_le (by omega)] at Rn'; exact Rn'
        have hnewone : ∀ u ∈ new, u.one = true := fun u hu => List.all_eq_true.1 hone u hu
        generalize s.ev a = u at hs happ
        generalize hS : A.eval S = S' at hs hex
        cases hs <;> simp only [reduceCtorEq] at happ
        · -- nilSlice
          split at happ
          · next h0 =>
            simp at happ; obtain ⟨rfl, rfl⟩ := happ
            subst h0
            refine OutQ.out H (out_val H (v' := .slice none 0 0) ?_ .nilSlice)
            rw [hex, run_append_room' T o.type hl hnews (by omega) (w' := w) (by rfl)]
            rfl
          · next h0 =>
            split at happ
            · next hb =>
              simp at happ; obtain ⟨rfl, rfl⟩ := happ
              obtain ⟨newCap, rest, hc, hrest, hrun⟩ := run_append_grow' (base := none) (sLen := 0) (sCap := 0) (olds := #[]) T o.type hl (hnewsd _) (by simp [Builtin.firstCells]) (by omega) (by simpa using hb)
              refine ⟨_, _, .value _, ι.le_put h.next _ (H.fresh _ (Nat.le_refl _)).1, by rw [hex, hrun]; rfl, by simpa using H.grown (ex := newCap - (0 + n)) Rn hone hrest, ?_⟩
              have := VR.slice (ι := ι.put h.next (w.heap.size, 0, newCap - (0 + n))) h.next 0 n n w.heap.size 0 (newCap - (0 + n)) ⟨w.heap.size, 0, none⟩ (Emb.put_same _ _ _) (.inl rfl) (Nat.le_refl _)
              rw [show n + (newCap - (0 + n)) = newCap from by omega] at this
              show VR _ _ _
              simpa using this
            · simp at happ
        · rename_i i0 off l c b β ex ad hi ha hlc
          split at happ
          · next h0 =>
            simp at happ; obtain ⟨rfl, rfl⟩ := happ
            subst h0
            have hn0 : news.toList = [] := by
              have := Rn.length
              rw [hnewlen] at this
              exact List.eq_nil_of_length_eq_zero (by omega)
            refine OutQ.out H (out_val H (v' := .slice (some ad) l (c + ex)) ?_ (.slice _ _ _ _ _ _ _ _ hi ha hlc))
            rw [hex, run_append_room' T o.type hl hnews (by omega) (w' := w) (by simp only [hn0]; rfl)]
            rfl
          · next h0 =>
            split at happ
            · next vs wr opn hget =>
              split at happ
              · next hroom =>
                obtain rfl : ad = ⟨b, β + off, none⟩ := ha.resolve_right (by omega)
                split at happ
                · next hw =>
                  obtain ⟨hw, hfit⟩ := hw
                  subst hw
                  simp at happ; obtain ⟨rfl, rfl⟩ := happ
                  obtain ⟨w', hst, H'⟩ := Inv.stores (P := P) (opn := opn) hi new news.toList vs (off + l * i.size) 0 h w H hget (by rw [hnewlen]; rw [Nat.add_mul] at hfit; omega) Rn hnewone
                  have hrun := run_append_room' (base := some ⟨b, β + off, none⟩) T o.type hl hnews (show l + n ≤ c + ex by omega) (w' := w') (by show (storeCells ((⟨b, β + off, none⟩ : Addr).add (l * i.size)) news.toList).run P w = _; rw [add_addr, show β + off + l * i.size = β + (off + l * i.size) from by omega]; exact hst)
                  exact ⟨ι, w', .value _, Emb.le.refl _, by rw [hex, hrun]; rfl, by simpa using H', .slice _ _ _ _ _ _ _ _ hi (.inl rfl) hroom⟩
                · simp at happ
              · next hroom =>
                split at happ
                · next hb =>
                  obtain ⟨hb, hol⟩ := hb
                  obtain ⟨olds, holds, Ro⟩ : ∃ olds : Array Value, (∀ d, (loadCells ad (l * i.size)).run P { w with drawn := d } = .ok olds { w with drawn := d }) ∧ VRs ι ((vs.drop off).take (l * i.size)) olds.toList := by
                    rcases ha with rfl | ha
                    · exact H.loads (P := P) (n := l * i.size) hget rfl hol hi
                    · obtain rfl : l = 0 := by omega
                      refine ⟨#[], fun d => ?_, by simp; exact .nil⟩
                      simp [loadCells, loadCellsFrom]
                  have hoone : ((vs.drop off).take (l * i.size)).all CVal.one = true := by
                    obtain ⟨C, el', lo, hi', hC, hR, _⟩ := H.cells hget hi
                    refine List.all_eq_true.2 fun u hu => ?_
                    obtain ⟨q, hq⟩ := List.mem_iff_getElem?.1 (List.mem_of_mem_take hu)
                    rw [List.getElem?_drop] at hq
                    exact (hR _ u hq).1
                  have hall : ((vs.drop off).take (l * i.size) ++ new).all CVal.one = true := by
                    simp only [List.all_append, hoone, hone, Bool.and_self]
                  have Rall : VRs ι ((vs.drop off).take (l * i.size) ++ new) (olds ++ news).toList := by
                    rw [Array.toList_append]; exact Ro.append Rn
                  have hgrowRun : c + ex < l + n → ∃ newCap rest, l + n ≤ newCap ∧ rest.size = (newCap - (l + n)) * i.size ∧ (Builtin.append_ ats o.type #[.slice (some ad) l (c + ex), A.eval X]).run P w = .ok (.slice (some ⟨w.heap.size, 0, none⟩) (l + n) newCap) { w with heap := w.heap.push (.cells (olds ++ news ++ rest) el), drawn := w.drawn + 1 } := fun hg =>
                    run_append_grow' (base := some ad) T o.type hl (hnewsd _) (holds _) hg hb
                  split at happ
                  · -- the block is known whole
                    simp at happ; obtain ⟨rfl, rfl⟩ := happ
                    obtain ⟨C, el', lo, hi', hC, hR, h0e, _⟩ := H.cells hget hi
                    obtain rfl := h0e rfl
                    obtain ⟨newCap, rest, hc, hrest, hrun⟩ := hgrowRun (by omega)
                    refine ⟨_, _, .value _, ι.le_put h.next _ (H.fresh _ (Nat.le_refl _)).1, by rw [hex, hrun]; rfl, H.grown (ex := newCap - (l + n)) Rall hall hrest, ?_⟩
                    have := VR.slice (ι := ι.put h.next (w.heap.size, 0, newCap - (l + n))) h.next 0 (l + n) (l + n) w.heap.size 0 (newCap - (l + n)) ⟨w.heap.size, 0, none⟩ (Emb.put_same _ _ _) (.inl rfl) (Nat.le_refl _)
                    rw [show l + n + (newCap - (l + n)) = newCap from by omega] at this
                    exact this
                  · next sz' =>
                    split at happ
                    · next hcond =>
                      obtain ⟨rfl, rfl, hcap⟩ := hcond
                      simp at happ; obtain ⟨rfl, rfl⟩ := happ
                      by_cases hg : c + ex < l + n
                      · obtain ⟨newCap, rest, hc, hrest, hrun⟩ := hgrowRun hg
                        refine ⟨_, _, .value _, ι.le_put h.next _ (H.fresh _ (Nat.le_refl _)).1, by rw [hex, hrun]; rfl, (H.kill i0).grown (ex := newCap - (l + n)) Rall hall hrest, ?_⟩
                        have := VR.slice (ι := ι.put h.next (w.heap.size, 0, newCap - (l + n))) h.next 0 (l + n) (l + n) w.heap.size 0 (newCap - (l + n)) ⟨w.heap.size, 0, none⟩ (Emb.put_same _ _ _) (.inl rfl) (Nat.le_refl _)
                        rw [show l + n + (newCap - (l + n)) = newCap from by omega] at this
                        exact this
                      · obtain rfl : ad = ⟨b, β + off, none⟩ := ha.resolve_right (by omega)
                        obtain ⟨C, el', lo, hi', hC, hR, h0e, hwr⟩ := H.cells hget hi
                        obtain ⟨hB, hsp⟩ := hwr rfl
                        simp only [Option.getD_some] at hsp
                        have hnl : news.toList.length = n * i.size := by rw [← Rn.length]; exact hnewlen
                        have hmul : (l + n) * i.size ≤ c * i.size + ex * i.size := by rw [← Nat.add_mul]; exact Nat.mul_le_mul_right _ (by omega)
                        rw [Nat.add_mul] at hmul
                        obtain ⟨C', w', g1, g2, g3, g4, g5, g6, g7, g8, g9, g10⟩ := run_storeCells_arr (P := P) (o := β + (off + l * i.size)) news.toList 0 C w hC (fun j hj => by
                          have := hsp (off + l * i.size + j) (by omega)
                          rw [show β + (off + l * i.size) + 0 + j = β + (off + l * i.size + j) from by omega]; exact this) (fun u hu => by
                          obtain ⟨q, hq⟩ := List.mem_iff_getElem?.1 hu
                          have hql := (List.getElem?_eq_some_iff.1 hq).1
                          obtain ⟨u', hu1, hu2⟩ := Rn.get q new[q] (by simp)
                          rw [hq] at hu1; simp at hu1; subst hu1
                          exact hu2.one (hnewone _ (List.getElem_mem _)))
                        have hrun := run_append_room' (base := some ⟨b, β + off, none⟩) T o.type hl hnews (show l + n ≤ c + ex by omega) (w' := w') (by show (storeCells ((⟨b, β + off, none⟩ : Addr).add (l * i.size)) news.toList).run P w = _; rw [add_addr, show β + off + l * i.size = β + (off + l * i.size) from by omega]; exact g1)
                        have hle := ι.le_put h.next (b, β + off, c + ex - (l + n)) (H.fresh _ (Nat.le_refl _)).1
                        refine ⟨_, w', .value _, hle, by rw [hex, hrun]; rfl, H.moveOn (o' := .cells ((vs.drop off).take (l * i.size) ++ new) true (some i.size)) hget rfl hi (β + off) (c + ex - (l + n)) w' g8 g9 g10 g7 g6 ?_, ?_⟩
                        · refine ⟨b, β + off, c + ex - (l + n), C', el', lo, hi', Emb.put_same _ _ _, g2, ?_, fun h0 => by simp at h0, fun _ => ⟨hB, fun j hj => ?_⟩⟩
                          · intro j v hv
                            have hvone : v.one = true := List.all_eq_true.1 hall v (List.mem_of_getElem? hv)
                            refine ⟨hvone, ?_⟩
                            by_cases hj : j < l * i.size
                            · rw [List.getElem?_append_left (by omega), List.getElem?_take_of_lt hj, List.getElem?_drop] at hv
                              obtain ⟨_, v', h6, h7⟩ := hR (off + j) v hv
                              refine ⟨v', ?_, h7.mono hle⟩
                              rw [g5 (β + off + j) (.inl (by omega)), show β + off + j = β + (off + j) from by omega]; exact h6
                            · rw [List.getElem?_append_right (by omega), hol] at hv
                              obtain ⟨v', h6, h7⟩ := Rn.get _ v hv
                              refine ⟨v', ?_, h7.mono hle⟩
                              have := g4 _ v' h6
                              rw [show β + (off + l * i.size) + 0 + (j - l * i.size) = β + off + j from by omega] at this; exact this
                          · simp only [List.length_append, hol, hnewlen, Option.getD_some] at hj
                            have e1 : (c + ex - (l + n)) * i.size = c * i.size + ex * i.size - (l * i.size + n * i.size) := by rw [Nat.sub_mul, Nat.add_mul, Nat.add_mul]
                            rw [e1] at hj
                            have := hsp (off + j) (by omega)
                            rw [g3, show β + off + j = β + (off + j) from by omega]; exact this
                        · have := VR.slice (ι := ι.put h.next (b, β + off, c + ex - (l + n))) h.next 0 (l + n) (l + n) b (β + off) (c + ex - (l + n)) ⟨b, β + off, none⟩ (Emb.put_same _ _ _) (.inl rfl) (Nat.le_refl _)
                          rw [show l + n + (c + ex - (l + n)) = c + ex from by omega] at this
                          exact this
                    · simp at happ
                · simp at happ
            · simp at happ
      · simp at happ
  · simp at e
end
end Go.Proofs.YtmppoknfekdbbaaDoor.Cm
